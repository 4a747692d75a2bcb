/- Walks: check.look's things; slices.ContainsFunc of places; kinds. Walks: shape.Places, check.places, slices.IndexFunc and ContainsFunc of it. -/
import Derived.Test.YtbkkhmafheimfaaGreatDoorVAs
set_option linter.unusedVariables false
set_option linter.unusedSimpArgs false
set_option maxRecDepth 100000
set_option maxHeartbeats 3200000
namespace Go.Proofs.YtbkkhmafheimfaaGreatDoor
open Go.ChangeShapes Go.WideShapes Go.ChangeAt Go.RowKit
theorem things_any (w:World) (D:Nat→Prop) (hD:∀ k,D k→k<w.heap.size) (p:Prg) (f:Fun) (c0 c1 c2 d0:Value) (g0 g2:Option Addr) (g1 g3:Nat) (r s:Int) (i:Ins) (fn pc:Int) (hv:PrgVal w D p c0 c1 c2) :
  Calls Tryz.prog 238 #[.agg (lookC c0 c1 c2 d0 (.slice g0 f.objects.length g1) (.slice g2 f.code.length g3) r s i fn pc)] w fun e w'=>e=.returned (.bool (thingsB p f i))∧Below w.heap.size w w':=by
 obtain⟨op,a,b,c⟩:=i;obtain⟨d3,hd3⟩:∃ d3:Value,d3=.slice g0 f.objects.length g1:=⟨_,rfl⟩;obtain⟨d4,hd4⟩:∃ d4:Value,d4=.slice g2 f.code.length g3:=⟨_,rfl⟩;rw[← hd3,← hd4];have hC0:=(Below.refl w.heap.size w).alloc (Nat.le_refl _) (.cells (lookC c0 c1 c2 d0 d3 d4 r s ⟨op,a,b,c⟩ fn pc) 311);have hbx:=box1 w (lookC c0 c1 c2 d0 d3 d4 r s ⟨op,a,b,c⟩ fn pc) 311 _ (Below.refl _ _);have hz0:(w.alloc (.cells (lookC c0 c1 c2 d0 d3 d4 r s ⟨op,a,b,c⟩ fn pc) 311)).heap.size=w.heap.size+1:=by simp
 obtain⟨W,hW⟩:∃ W,W=w.alloc (.cells (lookC c0 c1 c2 d0 d3 d4 r s ⟨op,a,b,c⟩ fn pc) 311):=⟨_,rfl⟩;rw[← hW] at hC0 hbx hz0;have q:∀ W',Below W.heap.size W W'→∀ j u,(lookC c0 c1 c2 d0 d3 d4 r s ⟨op,a,b,c⟩ fn pc)[j]?=some u→W'.cell? ⟨w.heap.size,j,none⟩=some u:=fun W' h j u hj=>below_cell h (hbx.1 j u hj)
 clear hbx;have HW:=k_ hW;clear hW;have hvW:∀ W',Below W.heap.size W W'→PrgVal W' D p c0 c1 c2:=fun W' h=>hv.fr (Fr.of_below (hC0.trans (h.mono hC0.size)) (fun _=>False)) (fun _ _ h=>h)
 have hDW:∀ k,D k→k<W.heap.size:=fun k hk=>by have:=hD k hk;omega
 have HQQ:=k_ q;clear q;have HC0:=k_ hC0;clear hC0;have HVW:=k_ hvW;clear hvW;have HDW:=k_ hDW;clear hDW;have HZ0:=k_ hz0;clear hz0;obtain⟨⟨a0,m0,rfl,_⟩,⟨a1,m1,rfl,_⟩,a2,m2,rfl,_⟩:=hv;have wi:=fun x m=>within_any W x m
 subst hd3 hd4;clear hD;have WI:=k_ wi;clear wi;unfold lookC at *
 by_cases h9:op=9
 ·subst h9
  go_enter Tryz.func238,Tryz.ntmps238
  go_upto_region 1 with fail
  rw[← HW.out];have p0:W.cell? ⟨w.heap.size,0,none⟩=some _:=HQQ.out _ (Below.refl _ _) 0 _ rfl;have p1:W.cell? ⟨w.heap.size,1,none⟩=some _:=HQQ.out _ (Below.refl _ _) 1 _ rfl;have p2:W.cell? ⟨w.heap.size,2,none⟩=some _:=HQQ.out _ (Below.refl _ _) 2 _ rfl;have p3:W.cell? ⟨w.heap.size,3,none⟩=some _:=HQQ.out _ (Below.refl _ _) 3 _ rfl;have p4:W.cell? ⟨w.heap.size,4,none⟩=some _:=HQQ.out _ (Below.refl _ _) 4 _ rfl;have p5:W.cell? ⟨w.heap.size,5,none⟩=some _:=HQQ.out _ (Below.refl _ _) 5 _ rfl;have p6:W.cell? ⟨w.heap.size,6,none⟩=some _:=HQQ.out _ (Below.refl _ _) 6 _ rfl;have p7:W.cell? ⟨w.heap.size,7,none⟩=some _:=HQQ.out _ (Below.refl _ _) 7 _ rfl;have p8:W.cell? ⟨w.heap.size,8,none⟩=some _:=HQQ.out _ (Below.refl _ _) 8 _ rfl;have p9:W.cell? ⟨w.heap.size,9,none⟩=some _:=HQQ.out _ (Below.refl _ _) 9 _ rfl;have p10:W.cell? ⟨w.heap.size,10,none⟩=some _:=HQQ.out _ (Below.refl _ _) 10 _ rfl;have p11:W.cell? ⟨w.heap.size,11,none⟩=some _:=HQQ.out _ (Below.refl _ _) 11 _ rfl;have p12:W.cell? ⟨w.heap.size,12,none⟩=some _:=HQQ.out _ (Below.refl _ _) 12 _ rfl;have p13:W.cell? ⟨w.heap.size,13,none⟩=some _:=HQQ.out _ (Below.refl _ _) 13 _ rfl;go_wp2_with fail;refine(WI.out _ _).mono ?_;rintro e w1 ⟨rfl,rfl⟩;go_wp2_with fail
  go_ret
  exact⟨by simp[thingsB],HC0.out⟩
 have e9:(op == 9)=false:=by simpa using h9
 by_cases h10:op=10
 ·subst h10
  go_enter Tryz.func238,Tryz.ntmps238
  go_upto_region 1 with fail
  rw[← HW.out];have p0:W.cell? ⟨w.heap.size,0,none⟩=some _:=HQQ.out _ (Below.refl _ _) 0 _ rfl;have p1:W.cell? ⟨w.heap.size,1,none⟩=some _:=HQQ.out _ (Below.refl _ _) 1 _ rfl;have p2:W.cell? ⟨w.heap.size,2,none⟩=some _:=HQQ.out _ (Below.refl _ _) 2 _ rfl;have p3:W.cell? ⟨w.heap.size,3,none⟩=some _:=HQQ.out _ (Below.refl _ _) 3 _ rfl;have p4:W.cell? ⟨w.heap.size,4,none⟩=some _:=HQQ.out _ (Below.refl _ _) 4 _ rfl;have p5:W.cell? ⟨w.heap.size,5,none⟩=some _:=HQQ.out _ (Below.refl _ _) 5 _ rfl;have p6:W.cell? ⟨w.heap.size,6,none⟩=some _:=HQQ.out _ (Below.refl _ _) 6 _ rfl;have p7:W.cell? ⟨w.heap.size,7,none⟩=some _:=HQQ.out _ (Below.refl _ _) 7 _ rfl;have p8:W.cell? ⟨w.heap.size,8,none⟩=some _:=HQQ.out _ (Below.refl _ _) 8 _ rfl;have p9:W.cell? ⟨w.heap.size,9,none⟩=some _:=HQQ.out _ (Below.refl _ _) 9 _ rfl;have p10:W.cell? ⟨w.heap.size,10,none⟩=some _:=HQQ.out _ (Below.refl _ _) 10 _ rfl;have p11:W.cell? ⟨w.heap.size,11,none⟩=some _:=HQQ.out _ (Below.refl _ _) 11 _ rfl;have p12:W.cell? ⟨w.heap.size,12,none⟩=some _:=HQQ.out _ (Below.refl _ _) 12 _ rfl;have p13:W.cell? ⟨w.heap.size,13,none⟩=some _:=HQQ.out _ (Below.refl _ _) 13 _ rfl;go_wp2_with fail;refine(WI.out _ _).mono ?_;rintro e w1 ⟨rfl,rfl⟩;go_wp2_with fail
  go_ret
  exact⟨by simp[thingsB],HC0.out⟩
 have e10:(op == 10)=false:=by simpa using h10
 by_cases h21:op=21
 ·subst h21
  go_enter Tryz.func238,Tryz.ntmps238
  go_upto_region 1 with fail
  rw[← HW.out];have p0:W.cell? ⟨w.heap.size,0,none⟩=some _:=HQQ.out _ (Below.refl _ _) 0 _ rfl;have p1:W.cell? ⟨w.heap.size,1,none⟩=some _:=HQQ.out _ (Below.refl _ _) 1 _ rfl;have p2:W.cell? ⟨w.heap.size,2,none⟩=some _:=HQQ.out _ (Below.refl _ _) 2 _ rfl;have p3:W.cell? ⟨w.heap.size,3,none⟩=some _:=HQQ.out _ (Below.refl _ _) 3 _ rfl;have p4:W.cell? ⟨w.heap.size,4,none⟩=some _:=HQQ.out _ (Below.refl _ _) 4 _ rfl;have p5:W.cell? ⟨w.heap.size,5,none⟩=some _:=HQQ.out _ (Below.refl _ _) 5 _ rfl;have p6:W.cell? ⟨w.heap.size,6,none⟩=some _:=HQQ.out _ (Below.refl _ _) 6 _ rfl;have p7:W.cell? ⟨w.heap.size,7,none⟩=some _:=HQQ.out _ (Below.refl _ _) 7 _ rfl;have p8:W.cell? ⟨w.heap.size,8,none⟩=some _:=HQQ.out _ (Below.refl _ _) 8 _ rfl;have p9:W.cell? ⟨w.heap.size,9,none⟩=some _:=HQQ.out _ (Below.refl _ _) 9 _ rfl;have p10:W.cell? ⟨w.heap.size,10,none⟩=some _:=HQQ.out _ (Below.refl _ _) 10 _ rfl;have p11:W.cell? ⟨w.heap.size,11,none⟩=some _:=HQQ.out _ (Below.refl _ _) 11 _ rfl;have p12:W.cell? ⟨w.heap.size,12,none⟩=some _:=HQQ.out _ (Below.refl _ _) 12 _ rfl;have p13:W.cell? ⟨w.heap.size,13,none⟩=some _:=HQQ.out _ (Below.refl _ _) 13 _ rfl;go_wp2_with fail;refine(WI.out _ _).mono ?_;rintro e w1 ⟨rfl,rfl⟩;go_wp2_with fail
  go_ret
  exact⟨by simp[thingsB],HC0.out⟩
 have e21:(op == 21)=false:=by simpa using h21
 by_cases h23:op=23
 ·subst h23
  go_enter Tryz.func238,Tryz.ntmps238
  go_upto_region 1 with fail
  rw[← HW.out];have p0:W.cell? ⟨w.heap.size,0,none⟩=some _:=HQQ.out _ (Below.refl _ _) 0 _ rfl;have p1:W.cell? ⟨w.heap.size,1,none⟩=some _:=HQQ.out _ (Below.refl _ _) 1 _ rfl;have p2:W.cell? ⟨w.heap.size,2,none⟩=some _:=HQQ.out _ (Below.refl _ _) 2 _ rfl;have p3:W.cell? ⟨w.heap.size,3,none⟩=some _:=HQQ.out _ (Below.refl _ _) 3 _ rfl;have p4:W.cell? ⟨w.heap.size,4,none⟩=some _:=HQQ.out _ (Below.refl _ _) 4 _ rfl;have p5:W.cell? ⟨w.heap.size,5,none⟩=some _:=HQQ.out _ (Below.refl _ _) 5 _ rfl;have p6:W.cell? ⟨w.heap.size,6,none⟩=some _:=HQQ.out _ (Below.refl _ _) 6 _ rfl;have p7:W.cell? ⟨w.heap.size,7,none⟩=some _:=HQQ.out _ (Below.refl _ _) 7 _ rfl;have p8:W.cell? ⟨w.heap.size,8,none⟩=some _:=HQQ.out _ (Below.refl _ _) 8 _ rfl;have p9:W.cell? ⟨w.heap.size,9,none⟩=some _:=HQQ.out _ (Below.refl _ _) 9 _ rfl;have p10:W.cell? ⟨w.heap.size,10,none⟩=some _:=HQQ.out _ (Below.refl _ _) 10 _ rfl;have p11:W.cell? ⟨w.heap.size,11,none⟩=some _:=HQQ.out _ (Below.refl _ _) 11 _ rfl;have p12:W.cell? ⟨w.heap.size,12,none⟩=some _:=HQQ.out _ (Below.refl _ _) 12 _ rfl;have p13:W.cell? ⟨w.heap.size,13,none⟩=some _:=HQQ.out _ (Below.refl _ _) 13 _ rfl;go_wp2_with fail;refine(WI.out _ _).mono ?_;rintro e w1 ⟨rfl,rfl⟩;go_wp2_with fail
  go_ret
  exact⟨by simp[thingsB],HC0.out⟩
 have e23:(op == 23)=false:=by simpa using h23
 by_cases h24:op=24
 ·subst h24
  go_enter Tryz.func238,Tryz.ntmps238
  go_upto_region 1 with fail
  rw[← HW.out];have p0:W.cell? ⟨w.heap.size,0,none⟩=some _:=HQQ.out _ (Below.refl _ _) 0 _ rfl;have p1:W.cell? ⟨w.heap.size,1,none⟩=some _:=HQQ.out _ (Below.refl _ _) 1 _ rfl;have p2:W.cell? ⟨w.heap.size,2,none⟩=some _:=HQQ.out _ (Below.refl _ _) 2 _ rfl;have p3:W.cell? ⟨w.heap.size,3,none⟩=some _:=HQQ.out _ (Below.refl _ _) 3 _ rfl;have p4:W.cell? ⟨w.heap.size,4,none⟩=some _:=HQQ.out _ (Below.refl _ _) 4 _ rfl;have p5:W.cell? ⟨w.heap.size,5,none⟩=some _:=HQQ.out _ (Below.refl _ _) 5 _ rfl;have p6:W.cell? ⟨w.heap.size,6,none⟩=some _:=HQQ.out _ (Below.refl _ _) 6 _ rfl;have p7:W.cell? ⟨w.heap.size,7,none⟩=some _:=HQQ.out _ (Below.refl _ _) 7 _ rfl;have p8:W.cell? ⟨w.heap.size,8,none⟩=some _:=HQQ.out _ (Below.refl _ _) 8 _ rfl;have p9:W.cell? ⟨w.heap.size,9,none⟩=some _:=HQQ.out _ (Below.refl _ _) 9 _ rfl;have p10:W.cell? ⟨w.heap.size,10,none⟩=some _:=HQQ.out _ (Below.refl _ _) 10 _ rfl;have p11:W.cell? ⟨w.heap.size,11,none⟩=some _:=HQQ.out _ (Below.refl _ _) 11 _ rfl;have p12:W.cell? ⟨w.heap.size,12,none⟩=some _:=HQQ.out _ (Below.refl _ _) 12 _ rfl;have p13:W.cell? ⟨w.heap.size,13,none⟩=some _:=HQQ.out _ (Below.refl _ _) 13 _ rfl;go_wp2_with fail;refine(WI.out _ _).mono ?_;rintro e w1 ⟨rfl,rfl⟩;go_wp2_with fail
  go_ret
  exact⟨by simp[thingsB],HC0.out⟩
 have e24:(op == 24)=false:=by simpa using h24
 by_cases h13:op=13
 ·subst h13
  go_enter Tryz.func238,Tryz.ntmps238
  go_upto_region 1 with fail
  rw[← HW.out];have p0:W.cell? ⟨w.heap.size,0,none⟩=some _:=HQQ.out _ (Below.refl _ _) 0 _ rfl;have p1:W.cell? ⟨w.heap.size,1,none⟩=some _:=HQQ.out _ (Below.refl _ _) 1 _ rfl;have p2:W.cell? ⟨w.heap.size,2,none⟩=some _:=HQQ.out _ (Below.refl _ _) 2 _ rfl;have p3:W.cell? ⟨w.heap.size,3,none⟩=some _:=HQQ.out _ (Below.refl _ _) 3 _ rfl;have p4:W.cell? ⟨w.heap.size,4,none⟩=some _:=HQQ.out _ (Below.refl _ _) 4 _ rfl;have p5:W.cell? ⟨w.heap.size,5,none⟩=some _:=HQQ.out _ (Below.refl _ _) 5 _ rfl;have p6:W.cell? ⟨w.heap.size,6,none⟩=some _:=HQQ.out _ (Below.refl _ _) 6 _ rfl;have p7:W.cell? ⟨w.heap.size,7,none⟩=some _:=HQQ.out _ (Below.refl _ _) 7 _ rfl;have p8:W.cell? ⟨w.heap.size,8,none⟩=some _:=HQQ.out _ (Below.refl _ _) 8 _ rfl;have p9:W.cell? ⟨w.heap.size,9,none⟩=some _:=HQQ.out _ (Below.refl _ _) 9 _ rfl;have p10:W.cell? ⟨w.heap.size,10,none⟩=some _:=HQQ.out _ (Below.refl _ _) 10 _ rfl;have p11:W.cell? ⟨w.heap.size,11,none⟩=some _:=HQQ.out _ (Below.refl _ _) 11 _ rfl;have p12:W.cell? ⟨w.heap.size,12,none⟩=some _:=HQQ.out _ (Below.refl _ _) 12 _ rfl;have p13:W.cell? ⟨w.heap.size,13,none⟩=some _:=HQQ.out _ (Below.refl _ _) 13 _ rfl;go_wp2_with fail;refine(WI.out _ _).mono ?_;rintro e w1 ⟨rfl,rfl⟩;go_wp2_with fail
  go_ret
  exact⟨by simp[thingsB],HC0.out⟩
 have e13:(op == 13)=false:=by simpa using h13
 by_cases h11:op=11
 ·subst h11
  go_enter Tryz.func238,Tryz.ntmps238
  go_upto_region 1 with fail
  rw[← HW.out];have p0:W.cell? ⟨w.heap.size,0,none⟩=some _:=HQQ.out _ (Below.refl _ _) 0 _ rfl;have p1:W.cell? ⟨w.heap.size,1,none⟩=some _:=HQQ.out _ (Below.refl _ _) 1 _ rfl;have p2:W.cell? ⟨w.heap.size,2,none⟩=some _:=HQQ.out _ (Below.refl _ _) 2 _ rfl;have p3:W.cell? ⟨w.heap.size,3,none⟩=some _:=HQQ.out _ (Below.refl _ _) 3 _ rfl;have p4:W.cell? ⟨w.heap.size,4,none⟩=some _:=HQQ.out _ (Below.refl _ _) 4 _ rfl;have p5:W.cell? ⟨w.heap.size,5,none⟩=some _:=HQQ.out _ (Below.refl _ _) 5 _ rfl;have p6:W.cell? ⟨w.heap.size,6,none⟩=some _:=HQQ.out _ (Below.refl _ _) 6 _ rfl;have p7:W.cell? ⟨w.heap.size,7,none⟩=some _:=HQQ.out _ (Below.refl _ _) 7 _ rfl;have p8:W.cell? ⟨w.heap.size,8,none⟩=some _:=HQQ.out _ (Below.refl _ _) 8 _ rfl;have p9:W.cell? ⟨w.heap.size,9,none⟩=some _:=HQQ.out _ (Below.refl _ _) 9 _ rfl;have p10:W.cell? ⟨w.heap.size,10,none⟩=some _:=HQQ.out _ (Below.refl _ _) 10 _ rfl;have p11:W.cell? ⟨w.heap.size,11,none⟩=some _:=HQQ.out _ (Below.refl _ _) 11 _ rfl;have p12:W.cell? ⟨w.heap.size,12,none⟩=some _:=HQQ.out _ (Below.refl _ _) 12 _ rfl;have p13:W.cell? ⟨w.heap.size,13,none⟩=some _:=HQQ.out _ (Below.refl _ _) 13 _ rfl;go_wp2_with fail;refine(WI.out _ _).mono ?_;rintro e w1 ⟨rfl,rfl⟩;go_wp2_with fail
  go_ret
  exact⟨by simp[thingsB],HC0.out⟩
 have e11:(op == 11)=false:=by simpa using h11
 by_cases h16:op=16
 ·subst h16
  go_enter Tryz.func238,Tryz.ntmps238
  go_upto_region 1 with fail
  rw[← HW.out];have p0:W.cell? ⟨w.heap.size,0,none⟩=some _:=HQQ.out _ (Below.refl _ _) 0 _ rfl;have p1:W.cell? ⟨w.heap.size,1,none⟩=some _:=HQQ.out _ (Below.refl _ _) 1 _ rfl;have p2:W.cell? ⟨w.heap.size,2,none⟩=some _:=HQQ.out _ (Below.refl _ _) 2 _ rfl;have p3:W.cell? ⟨w.heap.size,3,none⟩=some _:=HQQ.out _ (Below.refl _ _) 3 _ rfl;have p4:W.cell? ⟨w.heap.size,4,none⟩=some _:=HQQ.out _ (Below.refl _ _) 4 _ rfl;have p5:W.cell? ⟨w.heap.size,5,none⟩=some _:=HQQ.out _ (Below.refl _ _) 5 _ rfl;have p6:W.cell? ⟨w.heap.size,6,none⟩=some _:=HQQ.out _ (Below.refl _ _) 6 _ rfl;have p7:W.cell? ⟨w.heap.size,7,none⟩=some _:=HQQ.out _ (Below.refl _ _) 7 _ rfl;have p8:W.cell? ⟨w.heap.size,8,none⟩=some _:=HQQ.out _ (Below.refl _ _) 8 _ rfl;have p9:W.cell? ⟨w.heap.size,9,none⟩=some _:=HQQ.out _ (Below.refl _ _) 9 _ rfl;have p10:W.cell? ⟨w.heap.size,10,none⟩=some _:=HQQ.out _ (Below.refl _ _) 10 _ rfl;have p11:W.cell? ⟨w.heap.size,11,none⟩=some _:=HQQ.out _ (Below.refl _ _) 11 _ rfl;have p12:W.cell? ⟨w.heap.size,12,none⟩=some _:=HQQ.out _ (Below.refl _ _) 12 _ rfl;have p13:W.cell? ⟨w.heap.size,13,none⟩=some _:=HQQ.out _ (Below.refl _ _) 13 _ rfl;go_wp2_with fail;refine(WI.out _ _).mono ?_;rintro e w1 ⟨rfl,rfl⟩;go_wp2_with fail
  go_ret
  exact⟨by simp[thingsB],HC0.out⟩
 have e16:(op == 16)=false:=by simpa using h16
 by_cases h17:op=17
 ·subst h17
  go_enter Tryz.func238,Tryz.ntmps238
  go_upto_region 1 with fail
  rw[← HW.out];have p0:W.cell? ⟨w.heap.size,0,none⟩=some _:=HQQ.out _ (Below.refl _ _) 0 _ rfl;have p1:W.cell? ⟨w.heap.size,1,none⟩=some _:=HQQ.out _ (Below.refl _ _) 1 _ rfl;have p2:W.cell? ⟨w.heap.size,2,none⟩=some _:=HQQ.out _ (Below.refl _ _) 2 _ rfl;have p3:W.cell? ⟨w.heap.size,3,none⟩=some _:=HQQ.out _ (Below.refl _ _) 3 _ rfl;have p4:W.cell? ⟨w.heap.size,4,none⟩=some _:=HQQ.out _ (Below.refl _ _) 4 _ rfl;have p5:W.cell? ⟨w.heap.size,5,none⟩=some _:=HQQ.out _ (Below.refl _ _) 5 _ rfl;have p6:W.cell? ⟨w.heap.size,6,none⟩=some _:=HQQ.out _ (Below.refl _ _) 6 _ rfl;have p7:W.cell? ⟨w.heap.size,7,none⟩=some _:=HQQ.out _ (Below.refl _ _) 7 _ rfl;have p8:W.cell? ⟨w.heap.size,8,none⟩=some _:=HQQ.out _ (Below.refl _ _) 8 _ rfl;have p9:W.cell? ⟨w.heap.size,9,none⟩=some _:=HQQ.out _ (Below.refl _ _) 9 _ rfl;have p10:W.cell? ⟨w.heap.size,10,none⟩=some _:=HQQ.out _ (Below.refl _ _) 10 _ rfl;have p11:W.cell? ⟨w.heap.size,11,none⟩=some _:=HQQ.out _ (Below.refl _ _) 11 _ rfl;have p12:W.cell? ⟨w.heap.size,12,none⟩=some _:=HQQ.out _ (Below.refl _ _) 12 _ rfl;have p13:W.cell? ⟨w.heap.size,13,none⟩=some _:=HQQ.out _ (Below.refl _ _) 13 _ rfl;go_wp2_with fail;refine(WI.out _ _).mono ?_;rintro e w1 ⟨rfl,rfl⟩;go_wp2_with fail
  go_ret
  exact⟨by simp[thingsB],HC0.out⟩
 have e17:(op == 17)=false:=by simpa using h17
 by_cases h18:op=18
 ·subst h18
  go_enter Tryz.func238,Tryz.ntmps238
  go_upto_region 1 with fail
  rw[← HW.out];have p0:W.cell? ⟨w.heap.size,0,none⟩=some _:=HQQ.out _ (Below.refl _ _) 0 _ rfl;have p1:W.cell? ⟨w.heap.size,1,none⟩=some _:=HQQ.out _ (Below.refl _ _) 1 _ rfl;have p2:W.cell? ⟨w.heap.size,2,none⟩=some _:=HQQ.out _ (Below.refl _ _) 2 _ rfl;have p3:W.cell? ⟨w.heap.size,3,none⟩=some _:=HQQ.out _ (Below.refl _ _) 3 _ rfl;have p4:W.cell? ⟨w.heap.size,4,none⟩=some _:=HQQ.out _ (Below.refl _ _) 4 _ rfl;have p5:W.cell? ⟨w.heap.size,5,none⟩=some _:=HQQ.out _ (Below.refl _ _) 5 _ rfl;have p6:W.cell? ⟨w.heap.size,6,none⟩=some _:=HQQ.out _ (Below.refl _ _) 6 _ rfl;have p7:W.cell? ⟨w.heap.size,7,none⟩=some _:=HQQ.out _ (Below.refl _ _) 7 _ rfl;have p8:W.cell? ⟨w.heap.size,8,none⟩=some _:=HQQ.out _ (Below.refl _ _) 8 _ rfl;have p9:W.cell? ⟨w.heap.size,9,none⟩=some _:=HQQ.out _ (Below.refl _ _) 9 _ rfl;have p10:W.cell? ⟨w.heap.size,10,none⟩=some _:=HQQ.out _ (Below.refl _ _) 10 _ rfl;have p11:W.cell? ⟨w.heap.size,11,none⟩=some _:=HQQ.out _ (Below.refl _ _) 11 _ rfl;have p12:W.cell? ⟨w.heap.size,12,none⟩=some _:=HQQ.out _ (Below.refl _ _) 12 _ rfl;have p13:W.cell? ⟨w.heap.size,13,none⟩=some _:=HQQ.out _ (Below.refl _ _) 13 _ rfl;go_wp2_with fail;refine(WI.out _ _).mono ?_;rintro e w1 ⟨rfl,rfl⟩;go_wp2_with fail
  go_ret
  exact⟨by simp[thingsB],HC0.out⟩
 have e18:(op == 18)=false:=by simpa using h18
 by_cases h14:op=14
 ·subst h14
  go_enter Tryz.func238,Tryz.ntmps238
  go_upto_region 1 with fail
  rw[← HW.out];have p0:W.cell? ⟨w.heap.size,0,none⟩=some _:=HQQ.out _ (Below.refl _ _) 0 _ rfl;have p1:W.cell? ⟨w.heap.size,1,none⟩=some _:=HQQ.out _ (Below.refl _ _) 1 _ rfl;have p2:W.cell? ⟨w.heap.size,2,none⟩=some _:=HQQ.out _ (Below.refl _ _) 2 _ rfl;have p3:W.cell? ⟨w.heap.size,3,none⟩=some _:=HQQ.out _ (Below.refl _ _) 3 _ rfl;have p4:W.cell? ⟨w.heap.size,4,none⟩=some _:=HQQ.out _ (Below.refl _ _) 4 _ rfl;have p5:W.cell? ⟨w.heap.size,5,none⟩=some _:=HQQ.out _ (Below.refl _ _) 5 _ rfl;have p6:W.cell? ⟨w.heap.size,6,none⟩=some _:=HQQ.out _ (Below.refl _ _) 6 _ rfl;have p7:W.cell? ⟨w.heap.size,7,none⟩=some _:=HQQ.out _ (Below.refl _ _) 7 _ rfl;have p8:W.cell? ⟨w.heap.size,8,none⟩=some _:=HQQ.out _ (Below.refl _ _) 8 _ rfl;have p9:W.cell? ⟨w.heap.size,9,none⟩=some _:=HQQ.out _ (Below.refl _ _) 9 _ rfl;have p10:W.cell? ⟨w.heap.size,10,none⟩=some _:=HQQ.out _ (Below.refl _ _) 10 _ rfl;have p11:W.cell? ⟨w.heap.size,11,none⟩=some _:=HQQ.out _ (Below.refl _ _) 11 _ rfl;have p12:W.cell? ⟨w.heap.size,12,none⟩=some _:=HQQ.out _ (Below.refl _ _) 12 _ rfl;have p13:W.cell? ⟨w.heap.size,13,none⟩=some _:=HQQ.out _ (Below.refl _ _) 13 _ rfl;go_wp2_with fail;refine(WI.out _ _).mono ?_;rintro e w1 ⟨rfl,rfl⟩;go_wp2_with fail
  go_ret
  exact⟨by simp[thingsB],HC0.out⟩
 have e14:(op == 14)=false:=by simpa using h14
 by_cases h19:op=19
 ·subst h19
  go_enter Tryz.func238,Tryz.ntmps238
  go_upto_region 1 with fail
  rw[← HW.out];have p0:W.cell? ⟨w.heap.size,0,none⟩=some _:=HQQ.out _ (Below.refl _ _) 0 _ rfl;have p1:W.cell? ⟨w.heap.size,1,none⟩=some _:=HQQ.out _ (Below.refl _ _) 1 _ rfl;have p2:W.cell? ⟨w.heap.size,2,none⟩=some _:=HQQ.out _ (Below.refl _ _) 2 _ rfl;have p3:W.cell? ⟨w.heap.size,3,none⟩=some _:=HQQ.out _ (Below.refl _ _) 3 _ rfl;have p4:W.cell? ⟨w.heap.size,4,none⟩=some _:=HQQ.out _ (Below.refl _ _) 4 _ rfl;have p5:W.cell? ⟨w.heap.size,5,none⟩=some _:=HQQ.out _ (Below.refl _ _) 5 _ rfl;have p6:W.cell? ⟨w.heap.size,6,none⟩=some _:=HQQ.out _ (Below.refl _ _) 6 _ rfl;have p7:W.cell? ⟨w.heap.size,7,none⟩=some _:=HQQ.out _ (Below.refl _ _) 7 _ rfl;have p8:W.cell? ⟨w.heap.size,8,none⟩=some _:=HQQ.out _ (Below.refl _ _) 8 _ rfl;have p9:W.cell? ⟨w.heap.size,9,none⟩=some _:=HQQ.out _ (Below.refl _ _) 9 _ rfl;have p10:W.cell? ⟨w.heap.size,10,none⟩=some _:=HQQ.out _ (Below.refl _ _) 10 _ rfl;have p11:W.cell? ⟨w.heap.size,11,none⟩=some _:=HQQ.out _ (Below.refl _ _) 11 _ rfl;have p12:W.cell? ⟨w.heap.size,12,none⟩=some _:=HQQ.out _ (Below.refl _ _) 12 _ rfl;have p13:W.cell? ⟨w.heap.size,13,none⟩=some _:=HQQ.out _ (Below.refl _ _) 13 _ rfl;go_wp2_with fail;refine(WI.out _ _).mono ?_;rintro e w1 ⟨rfl,rfl⟩;go_wp2_with fail
  go_ret
  exact⟨by simp[thingsB],HC0.out⟩
 have e19:(op == 19)=false:=by simpa using h19
 by_cases h15:op=15
 ·subst h15
  go_enter Tryz.func238,Tryz.ntmps238
  go_upto_region 1 with fail
  rw[← HW.out];have p0:W.cell? ⟨w.heap.size,0,none⟩=some _:=HQQ.out _ (Below.refl _ _) 0 _ rfl;have p1:W.cell? ⟨w.heap.size,1,none⟩=some _:=HQQ.out _ (Below.refl _ _) 1 _ rfl;have p2:W.cell? ⟨w.heap.size,2,none⟩=some _:=HQQ.out _ (Below.refl _ _) 2 _ rfl;have p3:W.cell? ⟨w.heap.size,3,none⟩=some _:=HQQ.out _ (Below.refl _ _) 3 _ rfl;have p4:W.cell? ⟨w.heap.size,4,none⟩=some _:=HQQ.out _ (Below.refl _ _) 4 _ rfl;have p5:W.cell? ⟨w.heap.size,5,none⟩=some _:=HQQ.out _ (Below.refl _ _) 5 _ rfl;have p6:W.cell? ⟨w.heap.size,6,none⟩=some _:=HQQ.out _ (Below.refl _ _) 6 _ rfl;have p7:W.cell? ⟨w.heap.size,7,none⟩=some _:=HQQ.out _ (Below.refl _ _) 7 _ rfl;have p8:W.cell? ⟨w.heap.size,8,none⟩=some _:=HQQ.out _ (Below.refl _ _) 8 _ rfl;have p9:W.cell? ⟨w.heap.size,9,none⟩=some _:=HQQ.out _ (Below.refl _ _) 9 _ rfl;have p10:W.cell? ⟨w.heap.size,10,none⟩=some _:=HQQ.out _ (Below.refl _ _) 10 _ rfl;have p11:W.cell? ⟨w.heap.size,11,none⟩=some _:=HQQ.out _ (Below.refl _ _) 11 _ rfl;have p12:W.cell? ⟨w.heap.size,12,none⟩=some _:=HQQ.out _ (Below.refl _ _) 12 _ rfl;have p13:W.cell? ⟨w.heap.size,13,none⟩=some _:=HQQ.out _ (Below.refl _ _) 13 _ rfl;go_wp2_with fail;refine(WI.out _ _).mono ?_;rintro e w1 ⟨rfl,rfl⟩;go_wp2_with fail
  go_ret
  exact⟨by simp[thingsB],HC0.out⟩
 have e15:(op == 15)=false:=by simpa using h15
 by_cases h20:op=20
 ·subst h20
  go_enter Tryz.func238,Tryz.ntmps238
  go_upto_region 1 with fail
  rw[← HW.out];have p0:W.cell? ⟨w.heap.size,0,none⟩=some _:=HQQ.out _ (Below.refl _ _) 0 _ rfl;have p1:W.cell? ⟨w.heap.size,1,none⟩=some _:=HQQ.out _ (Below.refl _ _) 1 _ rfl;have p2:W.cell? ⟨w.heap.size,2,none⟩=some _:=HQQ.out _ (Below.refl _ _) 2 _ rfl;have p3:W.cell? ⟨w.heap.size,3,none⟩=some _:=HQQ.out _ (Below.refl _ _) 3 _ rfl;have p4:W.cell? ⟨w.heap.size,4,none⟩=some _:=HQQ.out _ (Below.refl _ _) 4 _ rfl;have p5:W.cell? ⟨w.heap.size,5,none⟩=some _:=HQQ.out _ (Below.refl _ _) 5 _ rfl;have p6:W.cell? ⟨w.heap.size,6,none⟩=some _:=HQQ.out _ (Below.refl _ _) 6 _ rfl;have p7:W.cell? ⟨w.heap.size,7,none⟩=some _:=HQQ.out _ (Below.refl _ _) 7 _ rfl;have p8:W.cell? ⟨w.heap.size,8,none⟩=some _:=HQQ.out _ (Below.refl _ _) 8 _ rfl;have p9:W.cell? ⟨w.heap.size,9,none⟩=some _:=HQQ.out _ (Below.refl _ _) 9 _ rfl;have p10:W.cell? ⟨w.heap.size,10,none⟩=some _:=HQQ.out _ (Below.refl _ _) 10 _ rfl;have p11:W.cell? ⟨w.heap.size,11,none⟩=some _:=HQQ.out _ (Below.refl _ _) 11 _ rfl;have p12:W.cell? ⟨w.heap.size,12,none⟩=some _:=HQQ.out _ (Below.refl _ _) 12 _ rfl;have p13:W.cell? ⟨w.heap.size,13,none⟩=some _:=HQQ.out _ (Below.refl _ _) 13 _ rfl;go_wp2_with fail;refine(WI.out _ _).mono ?_;rintro e w1 ⟨rfl,rfl⟩;go_wp2_with fail
  go_ret
  exact⟨by simp[thingsB],HC0.out⟩
 have e20:(op == 20)=false:=by simpa using h20
 go_enter Tryz.func238,Tryz.ntmps238
 go_upto_region 1 with fail
 rw[← HW.out];have p0:W.cell? ⟨w.heap.size,0,none⟩=some _:=HQQ.out _ (Below.refl _ _) 0 _ rfl;have p1:W.cell? ⟨w.heap.size,1,none⟩=some _:=HQQ.out _ (Below.refl _ _) 1 _ rfl;have p2:W.cell? ⟨w.heap.size,2,none⟩=some _:=HQQ.out _ (Below.refl _ _) 2 _ rfl;have p3:W.cell? ⟨w.heap.size,3,none⟩=some _:=HQQ.out _ (Below.refl _ _) 3 _ rfl;have p4:W.cell? ⟨w.heap.size,4,none⟩=some _:=HQQ.out _ (Below.refl _ _) 4 _ rfl;have p5:W.cell? ⟨w.heap.size,5,none⟩=some _:=HQQ.out _ (Below.refl _ _) 5 _ rfl;have p6:W.cell? ⟨w.heap.size,6,none⟩=some _:=HQQ.out _ (Below.refl _ _) 6 _ rfl;have p7:W.cell? ⟨w.heap.size,7,none⟩=some _:=HQQ.out _ (Below.refl _ _) 7 _ rfl;have p8:W.cell? ⟨w.heap.size,8,none⟩=some _:=HQQ.out _ (Below.refl _ _) 8 _ rfl;have p9:W.cell? ⟨w.heap.size,9,none⟩=some _:=HQQ.out _ (Below.refl _ _) 9 _ rfl;have p10:W.cell? ⟨w.heap.size,10,none⟩=some _:=HQQ.out _ (Below.refl _ _) 10 _ rfl;have p11:W.cell? ⟨w.heap.size,11,none⟩=some _:=HQQ.out _ (Below.refl _ _) 11 _ rfl;have p12:W.cell? ⟨w.heap.size,12,none⟩=some _:=HQQ.out _ (Below.refl _ _) 12 _ rfl;have p13:W.cell? ⟨w.heap.size,13,none⟩=some _:=HQQ.out _ (Below.refl _ _) 13 _ rfl;go_wp2_with fail
 go_ret
 exact⟨by simp[thingsB, *],HC0.out⟩
theorem placesS_any (w:World) (x:Int) :
  Calls Tryz.prog 203 #[.int .i64 x] w fun e w'=>∃ y:Int,e=.returned (.tuple #[.int .i64 y,.bool (isLocB x)])∧w=w':=by
 unfold isLocB
 by_cases h:x<64
 ·have h1:decide (64≤x)=false:=by simpa using h
  rw[h1,Bool.false_and];clear h1
  go_enter Tryz.func203,Tryz.ntmps203
  go_wp2_with fail
  go_ret2
  first | exact⟨0,rfl,rfl⟩ | exact⟨⟨0,rfl⟩,rfl⟩ | exact⟨⟨x - 64,rfl⟩,rfl⟩ | exact⟨x - 64,rfl,rfl⟩
 ·have h1:decide (64≤x)=true:=by simpa using h
  rw[h1,Bool.true_and];clear h1
  by_cases h2:80≤x
  ·have h3:decide (x<80)=false:=by simpa using h2
   rw[h3];clear h3
   go_enter Tryz.func203,Tryz.ntmps203
   go_wp2_with fail
   go_ret2
   first | exact⟨0,rfl,rfl⟩ | exact⟨⟨0,rfl⟩,rfl⟩ | exact⟨⟨x - 64,rfl⟩,rfl⟩ | exact⟨x - 64,rfl,rfl⟩
  ·have h3:decide (x<80)=true:=by simpa using h2
   rw[h3];clear h3;have i1:IntKind.i64.wrap (x - 64)=x - 64:=IntWalk.i64_in _ (by omega)
   go_enter Tryz.func203,Tryz.ntmps203
   go_wp2_with fail
   go_ret2
   first | exact⟨0,rfl,rfl⟩ | exact⟨⟨0,rfl⟩,rfl⟩ | exact⟨⟨x - 64,rfl⟩,rfl⟩ | exact⟨x - 64,rfl,rfl⟩
theorem places_any (w:World) (x:Int) :
  Calls Tryz.prog 296 #[.int .i64 x] w fun e w'=>e=.returned (.bool (isLocB x))∧w=w':=by
 have pl:=placesS_any w x;generalize isLocB x=z at *;have PL:=k_ pl;clear pl
 go_enter Tryz.func296,Tryz.ntmps296
 go_wp2_with fail;refine PL.out.mono ?_;rintro e w' ⟨y,rfl,rfl⟩;go_wp2_with fail
 go_ret
 exact⟨rfl,rfl⟩
theorem indexFunc_any (w:World) (D:Nat→Prop) (a:Option Addr) (l:List Int) (c:Nat) (hsl:IntSl w D a l) (hn:l.length≤100000) :
  Calls Tryz.prog 325 #[.slice a l.length c,.func (.func 296) #[] #[]] w fun e w'=>∃ k:Int,e=.returned (.int .i64 k)∧decide (0≤k)=l.any isLocB∧w=w':=by
 have pl:=fun x=>places_any w x
 have PL:=k_ pl;clear pl;have HSL:=k_ hsl;clear hsl
 go_enter Tryz.func325,Tryz.ntmps325
 go_wp2_with fail
 go_loopw [8] (fun i wr=>∃ k:Nat,k≤l.length∧i=.int .i64 k∧wr=w∧(l.take k).any isLocB=false) (fun i _=>l.length - (intOf i).toNat)
 case atStart=>exact⟨0,Nat.zero_le _,by first | rfl | trivial,by first | rfl | trivial,by first | rfl | trivial | simp⟩
 case round =>
  obtain⟨k,hk,rfl,rfl,hall⟩:=hrel
  by_cases hlt:k<l.length
  ·obtain⟨b',o',rfl,_,hx⟩:=HSL.out k hlt
   have hsn:=take_snoc l k hlt;have hmem:=List.getElem_mem hlt;generalize l[k]=x at *;have WX:=k_ (PL.out x)
   cases hw:isLocB x
   ·have hno:(l.take (k+1)).any isLocB=false:=by
     rw[hsn,List.any_append,hall];simp[hw]
    rw[hw] at WX;clear hsn hmem hall hw;have HNO:=k_ hno;clear hno;go_wp2_with fail;refine WX.out.mono ?_;rintro e w9 ⟨rfl,rfl⟩;go_wp2_with fail
    go_roundw
    case rel=>exact⟨k+1,by omega,by go_num,by first | rfl | trivial,HNO.out⟩
    case measure=>simp[intOf];omega
   ·have hyes:l.any isLocB=true:=by
     rw[List.any_eq_true];exact⟨x,hmem,hw⟩
    have hk0:decide ((0:Int)≤(k:Int))=true:=by simp
    rw[hw] at WX;clear hsn hmem hall hw;have HYES:=k_ hyes;clear hyes;have HK0:=k_ hk0;clear hk0;go_wp2_with fail;refine WX.out.mono ?_;rintro e w9 ⟨rfl,rfl⟩;go_wp2_with fail
    go_ret
    exact⟨k,rfl,by rw[HYES.out];exact HK0.out,by first | rfl | trivial⟩
  ·have hk':k=l.length:=by omega
   subst hk';rw[List.take_length] at hall;have HALL:=k_ hall;clear hall;go_wp2_with fail
   go_ret
   exact⟨-1,rfl,by rw[HALL.out];rfl,by first | rfl | trivial⟩
theorem containsFunc_any (w:World) (D:Nat→Prop) (a:Option Addr) (l:List Int) (c:Nat) (hsl:IntSl w D a l) (hn:l.length≤100000) :
  Calls Tryz.prog 295 #[.slice a l.length c,.func (.func 296) #[] #[]] w fun e w'=>e=.returned (.bool (l.any isLocB))∧w=w':=by
 have ix:=indexFunc_any w D a l c hsl hn;clear hsl;generalize l.any isLocB=z at *;have IX:=k_ ix;clear ix
 go_enter Tryz.func295,Tryz.ntmps295
 go_wp2_with fail;refine IX.out.mono ?_;rintro e w' ⟨k,rfl,hk,rfl⟩;have HK:=k_ hk;clear hk;go_wp2_with fail
 go_ret
 exact⟨by rw[← HK.out];rfl,rfl⟩
end Go.Proofs.YtbkkhmafheimfaaGreatDoor
