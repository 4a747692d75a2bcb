/- Walks: a step of flow: the kind of what a slot leads to; the arguments' kinds. -/
import Derived.Test.YtbkkhmafheimfaaGreatDoorVAy
set_option linter.unusedVariables false
set_option linter.unusedSimpArgs false
set_option maxRecDepth 100000
set_option maxHeartbeats 1600000
namespace Go.Proofs.YtbkkhmafheimfaaGreatDoor
open Go.ChangeShapes Go.WideShapes Go.ChangeAt Go.RowKit
theorem through_any (w:World) (D:Nat→Prop) (p:Prg) (f:Fun) (K:List Int) (c0 c1 c2 d0 d3 d4 kv:Value) (i:Ins) (hv:StepV w D p f K c0 c1 c2 d0 d3 d4 kv) (slot fld:Int) :
  Calls Tryz.prog 243 #[.agg (stepC c0 c1 c2 d0 d3 d4 kv f.result f.slots i),.int .i64 slot,.int .i64 fld] w fun e w'=>e=.returned (.int .i64 (throughA p i.op K slot fld))∧Below w.heap.size w w':=by
 obtain⟨op,a,b,c⟩:=i;have kd:=fun W h=>kind_any W D p f K c0 c1 c2 d0 d3 d4 kv ⟨op,a,b,c⟩ h slot
 have fd:=fun W h of ho=>fieldF_any W D p f K c0 c1 c2 d0 d3 d4 kv ⟨op,a,b,c⟩ h of fld ho
 unfold throughA
 dsimp only at kd fd ⊢
 have hC0:=(Below.refl w.heap.size w).alloc (Nat.le_refl _) (.cells (stepC c0 c1 c2 d0 d3 d4 kv f.result f.slots ⟨op,a,b,c⟩) 197);have hbx:=box1 w (stepC c0 c1 c2 d0 d3 d4 kv f.result f.slots ⟨op,a,b,c⟩) 197 _ (Below.refl _ _);have hz0:(w.alloc (.cells (stepC c0 c1 c2 d0 d3 d4 kv f.result f.slots ⟨op,a,b,c⟩) 197)).heap.size=w.heap.size+1:=by simp
 obtain⟨W,hW⟩:∃ W,W=w.alloc (.cells (stepC c0 c1 c2 d0 d3 d4 kv f.result f.slots ⟨op,a,b,c⟩) 197):=⟨_,rfl⟩;rw[← hW] at hC0 hbx hz0;have q:∀ W',Below W.heap.size W W'→∀ j u,(stepC c0 c1 c2 d0 d3 d4 kv f.result f.slots ⟨op,a,b,c⟩)[j]?=some u→W'.cell? ⟨w.heap.size,j,none⟩=some u:=fun W' h j u hj=>below_cell h (hbx.1 j u hj)
 clear hbx;have HW:=k_ hW;clear hW;have hvW:∀ W',Below W.heap.size W W'→StepV W' D p f K c0 c1 c2 d0 d3 d4 kv:=fun W' h=>hv.below (hC0.trans (h.mono hC0.size))
 obtain⟨o0,o1,o2,o3,o4,o5,o6⟩:=hv.one;have HQQ:=k_ q;clear q;have HC0:=k_ hC0;clear hC0;have HVW:=k_ hvW;clear hvW;have HZ0:=k_ hz0;clear hz0;have KD:=k_ (kd W (HVW.out W (Below.refl _ _)));clear hv
 by_cases h19:op=19
 ·subst h19
  generalize kindA K slot=x at *;rw[show decide ((19:Int)=19∨(19:Int)=20)=true from rfl]
  by_cases hx:isLocB x=true
  ·have pl:=fun W=>placesX_any W x
   rw[hx] at pl;have pl:∀ W,Calls Tryz.prog _ _ W fun e w'=>e=.returned (.tuple #[.int .i64 (x - 64),.bool true])∧W=w':=pl
   have e1:thrV p (leadA true x) fld=fieldA p (x - 64) fld:=by unfold thrV leadA;simp[hx]
   rw[e1];have hof:0≤x - 64:=by unfold isLocB at hx;simp at hx;omega
   have FD:=k_ fun W' (h:Below W.heap.size W W')=>fd W' (HVW.out W' h) (x - 64) hof
   clear e1 hx hof fd kd;generalize fieldA p (x - 64) fld=y at *;generalize x - 64=x2 at *;generalize f.result=fr at *;generalize f.slots=fs at *;have PL:=k_ pl;clear pl;unfold stepC at *
   go_enter Tryz.func243,Tryz.ntmps243
   go_upto_region 1 with fail
   rw[← HW.out];have p0:W.cell? ⟨w.heap.size,0,none⟩=some _:=HQQ.out _ (Below.refl _ _) 0 _ rfl;have p1:W.cell? ⟨w.heap.size,1,none⟩=some _:=HQQ.out _ (Below.refl _ _) 1 _ rfl;have p2:W.cell? ⟨w.heap.size,2,none⟩=some _:=HQQ.out _ (Below.refl _ _) 2 _ rfl;have p3:W.cell? ⟨w.heap.size,3,none⟩=some _:=HQQ.out _ (Below.refl _ _) 3 _ rfl;have p4:W.cell? ⟨w.heap.size,4,none⟩=some _:=HQQ.out _ (Below.refl _ _) 4 _ rfl;have p5:W.cell? ⟨w.heap.size,5,none⟩=some _:=HQQ.out _ (Below.refl _ _) 5 _ rfl;have p6:W.cell? ⟨w.heap.size,6,none⟩=some _:=HQQ.out _ (Below.refl _ _) 6 _ rfl;have p7:W.cell? ⟨w.heap.size,7,none⟩=some _:=HQQ.out _ (Below.refl _ _) 7 _ rfl;have p8:W.cell? ⟨w.heap.size,8,none⟩=some (.int .i64 _):=HQQ.out _ (Below.refl _ _) 8 _ rfl;have p9:W.cell? ⟨w.heap.size,9,none⟩=some (.int .i64 _):=HQQ.out _ (Below.refl _ _) 9 _ rfl;have p10:W.cell? ⟨w.heap.size,10,none⟩=some (.int .i64 _):=HQQ.out _ (Below.refl _ _) 10 _ rfl;have p11:W.cell? ⟨w.heap.size,11,none⟩=some (.int .i64 _):=HQQ.out _ (Below.refl _ _) 11 _ rfl;have p12:W.cell? ⟨w.heap.size,12,none⟩=some _:=HQQ.out _ (Below.refl _ _) 12 _ rfl;go_wp2_with fail;refine KD.out.mono ?_;rintro e w1 ⟨rfl,hb1⟩;have HB1:=k_ hb1;clear p0 p1 p2 p3 p4 p5 p6 p7 p8 p9 p10 p11 p12;have p0:w1.cell? ⟨w.heap.size,0,none⟩=some _:=HQQ.out _ HB1.out 0 _ rfl;have p1:w1.cell? ⟨w.heap.size,1,none⟩=some _:=HQQ.out _ HB1.out 1 _ rfl;have p2:w1.cell? ⟨w.heap.size,2,none⟩=some _:=HQQ.out _ HB1.out 2 _ rfl;have p3:w1.cell? ⟨w.heap.size,3,none⟩=some _:=HQQ.out _ HB1.out 3 _ rfl;have p4:w1.cell? ⟨w.heap.size,4,none⟩=some _:=HQQ.out _ HB1.out 4 _ rfl;have p5:w1.cell? ⟨w.heap.size,5,none⟩=some _:=HQQ.out _ HB1.out 5 _ rfl;have p6:w1.cell? ⟨w.heap.size,6,none⟩=some _:=HQQ.out _ HB1.out 6 _ rfl;have p7:w1.cell? ⟨w.heap.size,7,none⟩=some _:=HQQ.out _ HB1.out 7 _ rfl;have p8:w1.cell? ⟨w.heap.size,8,none⟩=some (.int .i64 _):=HQQ.out _ HB1.out 8 _ rfl;have p9:w1.cell? ⟨w.heap.size,9,none⟩=some (.int .i64 _):=HQQ.out _ HB1.out 9 _ rfl;have p10:w1.cell? ⟨w.heap.size,10,none⟩=some (.int .i64 _):=HQQ.out _ HB1.out 10 _ rfl;have p11:w1.cell? ⟨w.heap.size,11,none⟩=some (.int .i64 _):=HQQ.out _ HB1.out 11 _ rfl;have p12:w1.cell? ⟨w.heap.size,12,none⟩=some _:=HQQ.out _ HB1.out 12 _ rfl;clear hb1;go_wp2_with fail;refine(PL.out _).mono ?_;rintro e w' ⟨rfl,rfl⟩;go_wp2_with fail;refine(FD.out _ HB1.out).mono ?_;rintro e w2 ⟨rfl,hb2⟩;have hb2:=HC0.out.trans ((HB1.out.trans (hb2.mono HB1.out.size)).mono HC0.out.size);have HB2:=k_ hb2;clear hb2;clear p0 p1 p2 p3 p4 p5 p6 p7 p8 p9 p10 p11 p12;go_wp2_with fail
   go_ret
   exact⟨rfl,HB2.out⟩
  ·have hx:isLocB x=false:=by simpa using hx
   have pl:=fun W=>placesX_any W x
   rw[hx] at pl;have pl:∀ W,Calls Tryz.prog _ _ W fun e w'=>e=.returned (.tuple #[.int .i64 0,.bool false])∧W=w':=pl
   have e1:thrV p (leadA true x) fld=0:=by unfold thrV leadA;simp[hx]
   rw[e1];clear e1 hx fd kd;generalize f.result=fr at *;generalize f.slots=fs at *;have PL:=k_ pl;clear pl;unfold stepC at *
   go_enter Tryz.func243,Tryz.ntmps243
   go_upto_region 1 with fail
   rw[← HW.out];have p0:W.cell? ⟨w.heap.size,0,none⟩=some _:=HQQ.out _ (Below.refl _ _) 0 _ rfl;have p1:W.cell? ⟨w.heap.size,1,none⟩=some _:=HQQ.out _ (Below.refl _ _) 1 _ rfl;have p2:W.cell? ⟨w.heap.size,2,none⟩=some _:=HQQ.out _ (Below.refl _ _) 2 _ rfl;have p3:W.cell? ⟨w.heap.size,3,none⟩=some _:=HQQ.out _ (Below.refl _ _) 3 _ rfl;have p4:W.cell? ⟨w.heap.size,4,none⟩=some _:=HQQ.out _ (Below.refl _ _) 4 _ rfl;have p5:W.cell? ⟨w.heap.size,5,none⟩=some _:=HQQ.out _ (Below.refl _ _) 5 _ rfl;have p6:W.cell? ⟨w.heap.size,6,none⟩=some _:=HQQ.out _ (Below.refl _ _) 6 _ rfl;have p7:W.cell? ⟨w.heap.size,7,none⟩=some _:=HQQ.out _ (Below.refl _ _) 7 _ rfl;have p8:W.cell? ⟨w.heap.size,8,none⟩=some (.int .i64 _):=HQQ.out _ (Below.refl _ _) 8 _ rfl;have p9:W.cell? ⟨w.heap.size,9,none⟩=some (.int .i64 _):=HQQ.out _ (Below.refl _ _) 9 _ rfl;have p10:W.cell? ⟨w.heap.size,10,none⟩=some (.int .i64 _):=HQQ.out _ (Below.refl _ _) 10 _ rfl;have p11:W.cell? ⟨w.heap.size,11,none⟩=some (.int .i64 _):=HQQ.out _ (Below.refl _ _) 11 _ rfl;have p12:W.cell? ⟨w.heap.size,12,none⟩=some _:=HQQ.out _ (Below.refl _ _) 12 _ rfl;go_wp2_with fail;refine KD.out.mono ?_;rintro e w1 ⟨rfl,hb1⟩;have hb2:=HC0.out.trans (hb1.mono HC0.out.size);have HB2:=k_ hb2;clear hb2 hb1;clear p0 p1 p2 p3 p4 p5 p6 p7 p8 p9 p10 p11 p12;go_wp2_with fail;refine(PL.out _).mono ?_;rintro e w' ⟨rfl,rfl⟩;go_wp2_with fail
   go_ret
   exact⟨rfl,HB2.out⟩
 by_cases h20:op=20
 ·subst h20
  generalize kindA K slot=x at *;rw[show decide ((20:Int)=19∨(20:Int)=20)=true from rfl]
  by_cases hx:isLocB x=true
  ·have pl:=fun W=>placesX_any W x
   rw[hx] at pl;have pl:∀ W,Calls Tryz.prog _ _ W fun e w'=>e=.returned (.tuple #[.int .i64 (x - 64),.bool true])∧W=w':=pl
   have e1:thrV p (leadA true x) fld=fieldA p (x - 64) fld:=by unfold thrV leadA;simp[hx]
   rw[e1];have hof:0≤x - 64:=by unfold isLocB at hx;simp at hx;omega
   have FD:=k_ fun W' (h:Below W.heap.size W W')=>fd W' (HVW.out W' h) (x - 64) hof
   clear e1 hx hof fd kd;generalize fieldA p (x - 64) fld=y at *;generalize x - 64=x2 at *;generalize f.result=fr at *;generalize f.slots=fs at *;have PL:=k_ pl;clear pl;unfold stepC at *
   go_enter Tryz.func243,Tryz.ntmps243
   go_upto_region 1 with fail
   rw[← HW.out];have p0:W.cell? ⟨w.heap.size,0,none⟩=some _:=HQQ.out _ (Below.refl _ _) 0 _ rfl;have p1:W.cell? ⟨w.heap.size,1,none⟩=some _:=HQQ.out _ (Below.refl _ _) 1 _ rfl;have p2:W.cell? ⟨w.heap.size,2,none⟩=some _:=HQQ.out _ (Below.refl _ _) 2 _ rfl;have p3:W.cell? ⟨w.heap.size,3,none⟩=some _:=HQQ.out _ (Below.refl _ _) 3 _ rfl;have p4:W.cell? ⟨w.heap.size,4,none⟩=some _:=HQQ.out _ (Below.refl _ _) 4 _ rfl;have p5:W.cell? ⟨w.heap.size,5,none⟩=some _:=HQQ.out _ (Below.refl _ _) 5 _ rfl;have p6:W.cell? ⟨w.heap.size,6,none⟩=some _:=HQQ.out _ (Below.refl _ _) 6 _ rfl;have p7:W.cell? ⟨w.heap.size,7,none⟩=some _:=HQQ.out _ (Below.refl _ _) 7 _ rfl;have p8:W.cell? ⟨w.heap.size,8,none⟩=some (.int .i64 _):=HQQ.out _ (Below.refl _ _) 8 _ rfl;have p9:W.cell? ⟨w.heap.size,9,none⟩=some (.int .i64 _):=HQQ.out _ (Below.refl _ _) 9 _ rfl;have p10:W.cell? ⟨w.heap.size,10,none⟩=some (.int .i64 _):=HQQ.out _ (Below.refl _ _) 10 _ rfl;have p11:W.cell? ⟨w.heap.size,11,none⟩=some (.int .i64 _):=HQQ.out _ (Below.refl _ _) 11 _ rfl;have p12:W.cell? ⟨w.heap.size,12,none⟩=some _:=HQQ.out _ (Below.refl _ _) 12 _ rfl;go_wp2_with fail;refine KD.out.mono ?_;rintro e w1 ⟨rfl,hb1⟩;have HB1:=k_ hb1;clear p0 p1 p2 p3 p4 p5 p6 p7 p8 p9 p10 p11 p12;have p0:w1.cell? ⟨w.heap.size,0,none⟩=some _:=HQQ.out _ HB1.out 0 _ rfl;have p1:w1.cell? ⟨w.heap.size,1,none⟩=some _:=HQQ.out _ HB1.out 1 _ rfl;have p2:w1.cell? ⟨w.heap.size,2,none⟩=some _:=HQQ.out _ HB1.out 2 _ rfl;have p3:w1.cell? ⟨w.heap.size,3,none⟩=some _:=HQQ.out _ HB1.out 3 _ rfl;have p4:w1.cell? ⟨w.heap.size,4,none⟩=some _:=HQQ.out _ HB1.out 4 _ rfl;have p5:w1.cell? ⟨w.heap.size,5,none⟩=some _:=HQQ.out _ HB1.out 5 _ rfl;have p6:w1.cell? ⟨w.heap.size,6,none⟩=some _:=HQQ.out _ HB1.out 6 _ rfl;have p7:w1.cell? ⟨w.heap.size,7,none⟩=some _:=HQQ.out _ HB1.out 7 _ rfl;have p8:w1.cell? ⟨w.heap.size,8,none⟩=some (.int .i64 _):=HQQ.out _ HB1.out 8 _ rfl;have p9:w1.cell? ⟨w.heap.size,9,none⟩=some (.int .i64 _):=HQQ.out _ HB1.out 9 _ rfl;have p10:w1.cell? ⟨w.heap.size,10,none⟩=some (.int .i64 _):=HQQ.out _ HB1.out 10 _ rfl;have p11:w1.cell? ⟨w.heap.size,11,none⟩=some (.int .i64 _):=HQQ.out _ HB1.out 11 _ rfl;have p12:w1.cell? ⟨w.heap.size,12,none⟩=some _:=HQQ.out _ HB1.out 12 _ rfl;clear hb1;go_wp2_with fail;refine(PL.out _).mono ?_;rintro e w' ⟨rfl,rfl⟩;go_wp2_with fail;refine(FD.out _ HB1.out).mono ?_;rintro e w2 ⟨rfl,hb2⟩;have hb2:=HC0.out.trans ((HB1.out.trans (hb2.mono HB1.out.size)).mono HC0.out.size);have HB2:=k_ hb2;clear hb2;clear p0 p1 p2 p3 p4 p5 p6 p7 p8 p9 p10 p11 p12;go_wp2_with fail
   go_ret
   exact⟨rfl,HB2.out⟩
  ·have hx:isLocB x=false:=by simpa using hx
   have pl:=fun W=>placesX_any W x
   rw[hx] at pl;have pl:∀ W,Calls Tryz.prog _ _ W fun e w'=>e=.returned (.tuple #[.int .i64 0,.bool false])∧W=w':=pl
   have e1:thrV p (leadA true x) fld=0:=by unfold thrV leadA;simp[hx]
   rw[e1];clear e1 hx fd kd;generalize f.result=fr at *;generalize f.slots=fs at *;have PL:=k_ pl;clear pl;unfold stepC at *
   go_enter Tryz.func243,Tryz.ntmps243
   go_upto_region 1 with fail
   rw[← HW.out];have p0:W.cell? ⟨w.heap.size,0,none⟩=some _:=HQQ.out _ (Below.refl _ _) 0 _ rfl;have p1:W.cell? ⟨w.heap.size,1,none⟩=some _:=HQQ.out _ (Below.refl _ _) 1 _ rfl;have p2:W.cell? ⟨w.heap.size,2,none⟩=some _:=HQQ.out _ (Below.refl _ _) 2 _ rfl;have p3:W.cell? ⟨w.heap.size,3,none⟩=some _:=HQQ.out _ (Below.refl _ _) 3 _ rfl;have p4:W.cell? ⟨w.heap.size,4,none⟩=some _:=HQQ.out _ (Below.refl _ _) 4 _ rfl;have p5:W.cell? ⟨w.heap.size,5,none⟩=some _:=HQQ.out _ (Below.refl _ _) 5 _ rfl;have p6:W.cell? ⟨w.heap.size,6,none⟩=some _:=HQQ.out _ (Below.refl _ _) 6 _ rfl;have p7:W.cell? ⟨w.heap.size,7,none⟩=some _:=HQQ.out _ (Below.refl _ _) 7 _ rfl;have p8:W.cell? ⟨w.heap.size,8,none⟩=some (.int .i64 _):=HQQ.out _ (Below.refl _ _) 8 _ rfl;have p9:W.cell? ⟨w.heap.size,9,none⟩=some (.int .i64 _):=HQQ.out _ (Below.refl _ _) 9 _ rfl;have p10:W.cell? ⟨w.heap.size,10,none⟩=some (.int .i64 _):=HQQ.out _ (Below.refl _ _) 10 _ rfl;have p11:W.cell? ⟨w.heap.size,11,none⟩=some (.int .i64 _):=HQQ.out _ (Below.refl _ _) 11 _ rfl;have p12:W.cell? ⟨w.heap.size,12,none⟩=some _:=HQQ.out _ (Below.refl _ _) 12 _ rfl;go_wp2_with fail;refine KD.out.mono ?_;rintro e w1 ⟨rfl,hb1⟩;have hb2:=HC0.out.trans (hb1.mono HC0.out.size);have HB2:=k_ hb2;clear hb2 hb1;clear p0 p1 p2 p3 p4 p5 p6 p7 p8 p9 p10 p11 p12;go_wp2_with fail;refine(PL.out _).mono ?_;rintro e w' ⟨rfl,rfl⟩;go_wp2_with fail
   go_ret
   exact⟨rfl,HB2.out⟩
 have n19:(op == 19)=false:=by simpa using h19
 have n20:(op == 20)=false:=by simpa using h20
 rw[show decide (op=19∨op=20)=false from by simp[h19,h20]];generalize kindA K slot=x at *;clear h19 h20
 by_cases hx:isPtrB x=true
 ·have pl:=fun W=>pointsX_any W x
  rw[hx] at pl;have pl:∀ W,Calls Tryz.prog _ _ W fun e w'=>e=.returned (.tuple #[.int .i64 (x - 16),.bool true])∧W=w':=pl
  have e1:thrV p (leadA false x) fld=fieldA p (x - 16) fld:=by unfold thrV leadA;simp[hx]
  rw[e1];have hof:0≤x - 16:=by unfold isPtrB at hx;simp at hx;omega
  have FD:=k_ fun W' (h:Below W.heap.size W W')=>fd W' (HVW.out W' h) (x - 16) hof
  clear e1 hx hof fd kd;generalize fieldA p (x - 16) fld=y at *;generalize x - 16=x2 at *;generalize f.result=fr at *;generalize f.slots=fs at *;have PL:=k_ pl;clear pl;unfold stepC at *
  go_enter Tryz.func243,Tryz.ntmps243
  go_upto_region 1 with fail
  rw[← HW.out];have p0:W.cell? ⟨w.heap.size,0,none⟩=some _:=HQQ.out _ (Below.refl _ _) 0 _ rfl;have p1:W.cell? ⟨w.heap.size,1,none⟩=some _:=HQQ.out _ (Below.refl _ _) 1 _ rfl;have p2:W.cell? ⟨w.heap.size,2,none⟩=some _:=HQQ.out _ (Below.refl _ _) 2 _ rfl;have p3:W.cell? ⟨w.heap.size,3,none⟩=some _:=HQQ.out _ (Below.refl _ _) 3 _ rfl;have p4:W.cell? ⟨w.heap.size,4,none⟩=some _:=HQQ.out _ (Below.refl _ _) 4 _ rfl;have p5:W.cell? ⟨w.heap.size,5,none⟩=some _:=HQQ.out _ (Below.refl _ _) 5 _ rfl;have p6:W.cell? ⟨w.heap.size,6,none⟩=some _:=HQQ.out _ (Below.refl _ _) 6 _ rfl;have p7:W.cell? ⟨w.heap.size,7,none⟩=some _:=HQQ.out _ (Below.refl _ _) 7 _ rfl;have p8:W.cell? ⟨w.heap.size,8,none⟩=some (.int .i64 _):=HQQ.out _ (Below.refl _ _) 8 _ rfl;have p9:W.cell? ⟨w.heap.size,9,none⟩=some (.int .i64 _):=HQQ.out _ (Below.refl _ _) 9 _ rfl;have p10:W.cell? ⟨w.heap.size,10,none⟩=some (.int .i64 _):=HQQ.out _ (Below.refl _ _) 10 _ rfl;have p11:W.cell? ⟨w.heap.size,11,none⟩=some (.int .i64 _):=HQQ.out _ (Below.refl _ _) 11 _ rfl;have p12:W.cell? ⟨w.heap.size,12,none⟩=some _:=HQQ.out _ (Below.refl _ _) 12 _ rfl;go_wp2_with fail;refine KD.out.mono ?_;rintro e w1 ⟨rfl,hb1⟩;have HB1:=k_ hb1;clear p0 p1 p2 p3 p4 p5 p6 p7 p8 p9 p10 p11 p12;have p0:w1.cell? ⟨w.heap.size,0,none⟩=some _:=HQQ.out _ HB1.out 0 _ rfl;have p1:w1.cell? ⟨w.heap.size,1,none⟩=some _:=HQQ.out _ HB1.out 1 _ rfl;have p2:w1.cell? ⟨w.heap.size,2,none⟩=some _:=HQQ.out _ HB1.out 2 _ rfl;have p3:w1.cell? ⟨w.heap.size,3,none⟩=some _:=HQQ.out _ HB1.out 3 _ rfl;have p4:w1.cell? ⟨w.heap.size,4,none⟩=some _:=HQQ.out _ HB1.out 4 _ rfl;have p5:w1.cell? ⟨w.heap.size,5,none⟩=some _:=HQQ.out _ HB1.out 5 _ rfl;have p6:w1.cell? ⟨w.heap.size,6,none⟩=some _:=HQQ.out _ HB1.out 6 _ rfl;have p7:w1.cell? ⟨w.heap.size,7,none⟩=some _:=HQQ.out _ HB1.out 7 _ rfl;have p8:w1.cell? ⟨w.heap.size,8,none⟩=some (.int .i64 _):=HQQ.out _ HB1.out 8 _ rfl;have p9:w1.cell? ⟨w.heap.size,9,none⟩=some (.int .i64 _):=HQQ.out _ HB1.out 9 _ rfl;have p10:w1.cell? ⟨w.heap.size,10,none⟩=some (.int .i64 _):=HQQ.out _ HB1.out 10 _ rfl;have p11:w1.cell? ⟨w.heap.size,11,none⟩=some (.int .i64 _):=HQQ.out _ HB1.out 11 _ rfl;have p12:w1.cell? ⟨w.heap.size,12,none⟩=some _:=HQQ.out _ HB1.out 12 _ rfl;clear hb1;go_wp2_with fail;refine(PL.out _).mono ?_;rintro e w' ⟨rfl,rfl⟩;go_wp2_with fail;refine(FD.out _ HB1.out).mono ?_;rintro e w2 ⟨rfl,hb2⟩;have hb2:=HC0.out.trans ((HB1.out.trans (hb2.mono HB1.out.size)).mono HC0.out.size);have HB2:=k_ hb2;clear hb2;clear p0 p1 p2 p3 p4 p5 p6 p7 p8 p9 p10 p11 p12;go_wp2_with fail
  go_ret
  exact⟨rfl,HB2.out⟩
 ·have hx:isPtrB x=false:=by simpa using hx
  have pl:=fun W=>pointsX_any W x
  rw[hx] at pl;have pl:∀ W,Calls Tryz.prog _ _ W fun e w'=>e=.returned (.tuple #[.int .i64 0,.bool false])∧W=w':=pl
  have e1:thrV p (leadA false x) fld=0:=by unfold thrV leadA;simp[hx]
  rw[e1];clear e1 hx fd kd;generalize f.result=fr at *;generalize f.slots=fs at *;have PL:=k_ pl;clear pl;unfold stepC at *
  go_enter Tryz.func243,Tryz.ntmps243
  go_upto_region 1 with fail
  rw[← HW.out];have p0:W.cell? ⟨w.heap.size,0,none⟩=some _:=HQQ.out _ (Below.refl _ _) 0 _ rfl;have p1:W.cell? ⟨w.heap.size,1,none⟩=some _:=HQQ.out _ (Below.refl _ _) 1 _ rfl;have p2:W.cell? ⟨w.heap.size,2,none⟩=some _:=HQQ.out _ (Below.refl _ _) 2 _ rfl;have p3:W.cell? ⟨w.heap.size,3,none⟩=some _:=HQQ.out _ (Below.refl _ _) 3 _ rfl;have p4:W.cell? ⟨w.heap.size,4,none⟩=some _:=HQQ.out _ (Below.refl _ _) 4 _ rfl;have p5:W.cell? ⟨w.heap.size,5,none⟩=some _:=HQQ.out _ (Below.refl _ _) 5 _ rfl;have p6:W.cell? ⟨w.heap.size,6,none⟩=some _:=HQQ.out _ (Below.refl _ _) 6 _ rfl;have p7:W.cell? ⟨w.heap.size,7,none⟩=some _:=HQQ.out _ (Below.refl _ _) 7 _ rfl;have p8:W.cell? ⟨w.heap.size,8,none⟩=some (.int .i64 _):=HQQ.out _ (Below.refl _ _) 8 _ rfl;have p9:W.cell? ⟨w.heap.size,9,none⟩=some (.int .i64 _):=HQQ.out _ (Below.refl _ _) 9 _ rfl;have p10:W.cell? ⟨w.heap.size,10,none⟩=some (.int .i64 _):=HQQ.out _ (Below.refl _ _) 10 _ rfl;have p11:W.cell? ⟨w.heap.size,11,none⟩=some (.int .i64 _):=HQQ.out _ (Below.refl _ _) 11 _ rfl;have p12:W.cell? ⟨w.heap.size,12,none⟩=some _:=HQQ.out _ (Below.refl _ _) 12 _ rfl;go_wp2_with fail;refine KD.out.mono ?_;rintro e w1 ⟨rfl,hb1⟩;have hb2:=HC0.out.trans (hb1.mono HC0.out.size);have HB2:=k_ hb2;clear hb2 hb1;clear p0 p1 p2 p3 p4 p5 p6 p7 p8 p9 p10 p11 p12;go_wp2_with fail;refine(PL.out _).mono ?_;rintro e w' ⟨rfl,rfl⟩;go_wp2_with fail
  go_ret
  exact⟨rfl,HB2.out⟩
theorem argsOk_succ (K:List Int) (c:Int) (l:List Int) (k:Nat):argsOk K c l (k+1)=(argsOk K c l k && (kindA K (c+(k:Int)) == (l[k]?).getD 0)):=by
 unfold argsOk;rw[List.range_succ,List.all_append]
 simp
theorem argsOk_no {K:List Int} {c:Int} {l:List Int} {k n:Nat} (hk:k<n) (h:(kindA K (c+(k:Int)) == (l[k]?).getD 0)=false):argsOk K c l n=false:=by
 unfold argsOk;rw[List.all_eq_false];exact⟨k,List.mem_range.2 hk,by rw[h];decide⟩
theorem argsF_any (w:World) (D:Nat→Prop) (p:Prg) (f:Fun) (K:List Int) (c0 c1 c2 d0 d3 d4 kv:Value) (i:Ins) (hv:StepV w D p f K c0 c1 c2 d0 d3 d4 kv) (hb:0≤i.b∧i.b<p.funcs.length) (hc:0≤i.c∧i.c≤100000) (hn:(calleeR p i.b).args.length≤3000) :
  Calls Tryz.prog 244 #[.agg (stepC c0 c1 c2 d0 d3 d4 kv f.result f.slots i)] w fun e w'=>e=.returned (.bool (argsOk K i.c (calleeR p i.b).args (calleeR p i.b).args.length))∧Below w.heap.size w w':=by
 obtain⟨op,a,b,c⟩:=i;have ca:=fun W h=>calleeF_any W D p f K c0 c1 c2 d0 d3 d4 kv ⟨op,a,b,c⟩ h hb
 have kd:=fun W h k=>kind_any W D p f K c0 c1 c2 d0 d3 d4 kv ⟨op,a,b,c⟩ h k
 dsimp only at hb hc hn ca kd ⊢
 generalize calleeR p b=g at *;have hC0:=(Below.refl w.heap.size w).alloc (Nat.le_refl _) (.cells (stepC c0 c1 c2 d0 d3 d4 kv f.result f.slots ⟨op,a,b,c⟩) 197);have hbx:=box1 w (stepC c0 c1 c2 d0 d3 d4 kv f.result f.slots ⟨op,a,b,c⟩) 197 _ (Below.refl _ _);have hz0:(w.alloc (.cells (stepC c0 c1 c2 d0 d3 d4 kv f.result f.slots ⟨op,a,b,c⟩) 197)).heap.size=w.heap.size+1:=by simp
 obtain⟨W,hW⟩:∃ W,W=w.alloc (.cells (stepC c0 c1 c2 d0 d3 d4 kv f.result f.slots ⟨op,a,b,c⟩) 197):=⟨_,rfl⟩;rw[← hW] at hC0 hbx hz0;have q:∀ W',Below W.heap.size W W'→∀ j u,(stepC c0 c1 c2 d0 d3 d4 kv f.result f.slots ⟨op,a,b,c⟩)[j]?=some u→W'.cell? ⟨w.heap.size,j,none⟩=some u:=fun W' h j u hj=>below_cell h (hbx.1 j u hj)
 clear hbx;have HW:=k_ hW;clear hW;have hvW:∀ W',Below W.heap.size W W'→StepV W' D p f K c0 c1 c2 d0 d3 d4 kv:=fun W' h=>hv.below (hC0.trans (h.mono hC0.size))
 obtain⟨o0,o1,o2,o3,o4,o5,o6⟩:=hv.one;have HQQ:=k_ q;clear q;have HC0:=k_ hC0;clear hC0;have HVW:=k_ hvW;clear hvW;have HZ0:=k_ hz0;clear hz0;have CA:=k_ (ca W (HVW.out W (Below.refl _ _)));have KD:=k_ fun W' (h:Below W.heap.size W W') k=>kd W' (HVW.out W' h) k
 clear hv ca kd;generalize f.result=fr at *;generalize f.slots=fs at *;unfold FunPost at CA;unfold stepC at *
 go_enter Tryz.func244,Tryz.ntmps244
 go_upto_region 1 with fail
 rw[← HW.out];have p0:W.cell? ⟨w.heap.size,0,none⟩=some _:=HQQ.out _ (Below.refl _ _) 0 _ rfl;have p1:W.cell? ⟨w.heap.size,1,none⟩=some _:=HQQ.out _ (Below.refl _ _) 1 _ rfl;have p2:W.cell? ⟨w.heap.size,2,none⟩=some _:=HQQ.out _ (Below.refl _ _) 2 _ rfl;have p3:W.cell? ⟨w.heap.size,3,none⟩=some _:=HQQ.out _ (Below.refl _ _) 3 _ rfl;have p4:W.cell? ⟨w.heap.size,4,none⟩=some _:=HQQ.out _ (Below.refl _ _) 4 _ rfl;have p5:W.cell? ⟨w.heap.size,5,none⟩=some _:=HQQ.out _ (Below.refl _ _) 5 _ rfl;have p6:W.cell? ⟨w.heap.size,6,none⟩=some _:=HQQ.out _ (Below.refl _ _) 6 _ rfl;have p7:W.cell? ⟨w.heap.size,7,none⟩=some _:=HQQ.out _ (Below.refl _ _) 7 _ rfl;have p8:W.cell? ⟨w.heap.size,8,none⟩=some (.int .i64 _):=HQQ.out _ (Below.refl _ _) 8 _ rfl;have p9:W.cell? ⟨w.heap.size,9,none⟩=some (.int .i64 _):=HQQ.out _ (Below.refl _ _) 9 _ rfl;have p10:W.cell? ⟨w.heap.size,10,none⟩=some (.int .i64 _):=HQQ.out _ (Below.refl _ _) 10 _ rfl;have p11:W.cell? ⟨w.heap.size,11,none⟩=some (.int .i64 _):=HQQ.out _ (Below.refl _ _) 11 _ rfl;have p12:W.cell? ⟨w.heap.size,12,none⟩=some _:=HQQ.out _ (Below.refl _ _) 12 _ rfl;go_wp2_with fail;refine CA.out.mono ?_;rintro e w1 ⟨x0,x3,x4,rfl,⟨_,_,⟨ga,gc,rfl,hsl⟩,⟨_,_,rfl,_⟩,_,_,rfl,_⟩,hb1⟩;clear p0 p1 p2 p3 p4 p5 p6 p7 p8 p9 p10 p11 p12;generalize g.result=gr at *;generalize g.slots=gs at *;generalize g.objects.length=go at *;generalize g.code.length=gl at *;generalize hgl:g.args=L at *;have HGL:=k_ hgl;clear hgl;have HB1:=k_ hb1;have HSL:=k_ hsl;clear hb1 hsl CA;have fa:=fun x y w=>fld_args ga L.length gc gr gs x y w
 go_upto_region 2 with fail
 clear fa
 go_loopw [9] (fun i wr=>∃ k:Nat,k≤L.length∧i=.int .i64 k∧Below w1.heap.size w1 wr∧argsOk K c L k=true) (fun i _=>L.length - (intOf i).toNat)
 case atStart=>exact⟨0,Nat.zero_le _,rfl,Below.refl _ _,rfl⟩
 case round =>
  obtain⟨k,hk,rfl,hbr,hok⟩:=hrel
  by_cases hlt:k<L.length
  ·obtain⟨b1,o1,rfl,_,hx⟩:=HSL.out k hlt
   have hx:=below_cell hbr hx;have hg:(L[k]?).getD 0=L[k]:=by simp[hlt]
   have hs:=argsOk_succ K c L k;have hno:=fun h=>argsOk_no (K:=K) (c:=c) (l:=L) hlt h
   rw[hg] at hs hno;rw[hok] at hs;have i1:IntKind.i64.wrap (c+(k:Int))=c+(k:Int):=IntWalk.i64_in _ (by omega);have hbw:=HB1.out.trans (hbr.mono HB1.out.size);have hlt2:(k:Int)<(L.length:Int):=by omega
   have kd2:=KD.out wr hbw (c+(k:Int));generalize L[k]=x at *;generalize kindA K (c+(k:Int))=y at *;have KD2:=k_ kd2;have HBW:=k_ hbw;have HS:=k_ hs;have HNO:=k_ hno;clear hok hg kd2 hbw hs hno;have HBR:=k_ hbr;clear hbr;have p0:wr.cell? ⟨w.heap.size,0,none⟩=some _:=HQQ.out _ HBW.out 0 _ rfl;have p1:wr.cell? ⟨w.heap.size,1,none⟩=some _:=HQQ.out _ HBW.out 1 _ rfl;have p2:wr.cell? ⟨w.heap.size,2,none⟩=some _:=HQQ.out _ HBW.out 2 _ rfl;have p3:wr.cell? ⟨w.heap.size,3,none⟩=some _:=HQQ.out _ HBW.out 3 _ rfl;have p4:wr.cell? ⟨w.heap.size,4,none⟩=some _:=HQQ.out _ HBW.out 4 _ rfl;have p5:wr.cell? ⟨w.heap.size,5,none⟩=some _:=HQQ.out _ HBW.out 5 _ rfl;have p6:wr.cell? ⟨w.heap.size,6,none⟩=some _:=HQQ.out _ HBW.out 6 _ rfl;have p7:wr.cell? ⟨w.heap.size,7,none⟩=some _:=HQQ.out _ HBW.out 7 _ rfl;have p8:wr.cell? ⟨w.heap.size,8,none⟩=some (.int .i64 _):=HQQ.out _ HBW.out 8 _ rfl;have p9:wr.cell? ⟨w.heap.size,9,none⟩=some (.int .i64 _):=HQQ.out _ HBW.out 9 _ rfl;have p10:wr.cell? ⟨w.heap.size,10,none⟩=some (.int .i64 _):=HQQ.out _ HBW.out 10 _ rfl;have p11:wr.cell? ⟨w.heap.size,11,none⟩=some (.int .i64 _):=HQQ.out _ HBW.out 11 _ rfl;have p12:wr.cell? ⟨w.heap.size,12,none⟩=some _:=HQQ.out _ HBW.out 12 _ rfl;go_wp2_with fail;refine KD2.out.mono ?_;rintro e w2 ⟨rfl,hb2⟩;have HB2:=k_ (HBR.out.trans (hb2.mono HBR.out.size));have HB3:=k_ (HC0.out.trans ((HBW.out.trans (hb2.mono HBW.out.size)).mono HC0.out.size));clear hb2;clear p0 p1 p2 p3 p4 p5 p6 p7 p8 p9 p10 p11 p12
   by_cases hxy:y=x
   ·subst hxy
    go_wp2_with fail
    go_roundw
    case rel=>exact⟨k+1,hlt,by go_num,HB2.out,by rw[HS.out];simp⟩
    case measure=>simp[intOf];omega
   ·have hne:(y == x)=false:=by simpa using hxy
    have hfin:=HNO.out hne;have HFIN:=k_ hfin;clear hfin;go_wp2_with fail
    go_ret
    exact⟨by rw[HGL.out,HFIN.out];rfl,HB3.out⟩
  ·have hk':k=L.length:=by omega
   subst hk';have HB3:=k_ (HC0.out.trans ((HB1.out.trans (hbr.mono HB1.out.size)).mono HC0.out.size));have HOK:=k_ hok;clear hok hbr;go_wp2_with fail
   go_ret
   exact⟨by rw[HGL.out,HOK.out];rfl,HB3.out⟩
end Go.Proofs.YtbkkhmafheimfaaGreatDoor
