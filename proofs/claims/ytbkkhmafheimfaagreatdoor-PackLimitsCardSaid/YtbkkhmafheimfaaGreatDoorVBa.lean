/- Walks: a step of flow: whether all that is read is of the kinds that are asked; the kind that is set. -/
import Derived.Test.YtbkkhmafheimfaaGreatDoorVAz
set_option linter.unusedVariables false
set_option linter.unusedSimpArgs false
set_option maxRecDepth 100000
set_option maxHeartbeats 6400000
namespace Go.Proofs.YtbkkhmafheimfaaGreatDoor
open Go.ChangeShapes Go.WideShapes Go.ChangeAt Go.RowKit
theorem readsF_any (w:World) (D:Nat→Prop) (p:Prg) (f:Fun) (K:List Int) (c0 c1 c2 d0 d3 d4 kv:Value) (i:Ins) (hv:StepV w D p f K c0 c1 c2 d0 d3 d4 kv) (ho:StepOk p f i K.length) (hn:K.length≤3000) :
  Calls Tryz.prog 172 #[.agg (stepC c0 c1 c2 d0 d3 d4 kv f.result f.slots i)] w fun e w'=>e=.returned (.bool (readsK p f.result i K))∧Below w.heap.size w w':=by
 obtain⟨op,a,b,c⟩:=i;have kd:=fun W h k=>kind_any W D p f K c0 c1 c2 d0 d3 d4 kv ⟨op,a,b,c⟩ h k
 have th:=fun W h k j=>through_any W D p f K c0 c1 c2 d0 d3 d4 kv ⟨op,a,b,c⟩ h k j
 have ar:=fun W h (hop:op=21∨op=23∨op=24)=>argsF_any W D p f K c0 c1 c2 d0 d3 d4 kv ⟨op,a,b,c⟩ h (ho.call hop).1 (by have:=(ho.call hop).2;omega) (by have:=(ho.call hop).2;omega)
 have hgs:op=17→_:=ho.gstore
 dsimp only at kd th ar hgs ⊢
 have hbx:=fun wr h=>box2 w (stepC c0 c1 c2 d0 d3 d4 kv f.result f.slots ⟨op,a,b,c⟩) #[.int .i64 op,.int .i64 a,.int .i64 b,.int .i64 c] 197 32 wr h
 have hz0:((w.alloc (.cells (stepC c0 c1 c2 d0 d3 d4 kv f.result f.slots ⟨op,a,b,c⟩) 197)).alloc (.cells #[.int .i64 op,.int .i64 a,.int .i64 b,.int .i64 c] 32)).heap.size=w.heap.size+2:=by simp
 obtain⟨W,hW⟩:∃ W,W=(w.alloc (.cells (stepC c0 c1 c2 d0 d3 d4 kv f.result f.slots ⟨op,a,b,c⟩) 197)).alloc (.cells #[.int .i64 op,.int .i64 a,.int .i64 b,.int .i64 c] 32):=⟨_,rfl⟩;rw[← hW] at hbx hz0;have hC0:Below w.heap.size w W:=(hbx W (by rw[← hz0];exact Below.refl _ _)).2.2.1;have q:∀ W',Below W.heap.size W W'→∀ j u,(stepC c0 c1 c2 d0 d3 d4 kv f.result f.slots ⟨op,a,b,c⟩)[j]?=some u→W'.cell? ⟨w.heap.size,j,none⟩=some u:=fun W' h=>(hbx W' (by rw[← hz0];exact h)).1
 have q2:∀ W',Below W.heap.size W W'→∀ j u,(#[.int .i64 op,.int .i64 a,.int .i64 b,.int .i64 c]:Array Value)[j]?=some u→W'.cell? ⟨w.heap.size+1,j,none⟩=some u:=fun W' h=>(hbx W' (by rw[← hz0];exact h)).2.1
 have HW:=k_ hW;clear hW hbx;have hvW:∀ W',Below W.heap.size W W'→StepV W' D p f K c0 c1 c2 d0 d3 d4 kv:=fun W' h=>hv.below (hC0.trans (h.mono hC0.size))
 obtain⟨o0,o1,o2,o3,o4,o5,o6⟩:=hv.one;have HQQ:=k_ q;have HQR:=k_ q2;clear q q2;have HC0:=k_ hC0;clear hC0;have HVW:=k_ hvW;clear hvW;have HZ0:=k_ hz0;clear hz0;have KD:=k_ fun W' (h:Below W.heap.size W W') k=>kd W' (HVW.out W' h) k
 have TH:=k_ fun W' (h:Below W.heap.size W W') k j=>th W' (HVW.out W' h) k j
 have AR:=k_ (ar W (HVW.out W (Below.refl _ _)));clear kd th ar ho;generalize hR:readsK p f.result ⟨op,a,b,c⟩ K=R at *;generalize f.slots=fs at *;generalize f.result=fr at *;have HR:=k_ hR;clear hR;have HV:=k_ hv;have HGS:=k_ hgs;clear hv hgs;unfold stepC at *
 go_enter Tryz.func172,Tryz.ntmps172
 go_upto_region 2 with fail
 rw[← HW.out];have p0:W.cell? ⟨w.heap.size,0,none⟩=some _:=HQQ.out _ (Below.refl _ _) 0 _ rfl;have p1:W.cell? ⟨w.heap.size,1,none⟩=some _:=HQQ.out _ (Below.refl _ _) 1 _ rfl;have p2:W.cell? ⟨w.heap.size,2,none⟩=some _:=HQQ.out _ (Below.refl _ _) 2 _ rfl;have p3:W.cell? ⟨w.heap.size,3,none⟩=some _:=HQQ.out _ (Below.refl _ _) 3 _ rfl;have p4:W.cell? ⟨w.heap.size,4,none⟩=some _:=HQQ.out _ (Below.refl _ _) 4 _ rfl;have p5:W.cell? ⟨w.heap.size,5,none⟩=some _:=HQQ.out _ (Below.refl _ _) 5 _ rfl;have p6:W.cell? ⟨w.heap.size,6,none⟩=some _:=HQQ.out _ (Below.refl _ _) 6 _ rfl;have p7:W.cell? ⟨w.heap.size,7,none⟩=some _:=HQQ.out _ (Below.refl _ _) 7 _ rfl;have p8:W.cell? ⟨w.heap.size,8,none⟩=some (.int .i64 _):=HQQ.out _ (Below.refl _ _) 8 _ rfl;have p9:W.cell? ⟨w.heap.size,9,none⟩=some (.int .i64 _):=HQQ.out _ (Below.refl _ _) 9 _ rfl;have p10:W.cell? ⟨w.heap.size,10,none⟩=some (.int .i64 _):=HQQ.out _ (Below.refl _ _) 10 _ rfl;have p11:W.cell? ⟨w.heap.size,11,none⟩=some (.int .i64 _):=HQQ.out _ (Below.refl _ _) 11 _ rfl;have p12:W.cell? ⟨w.heap.size,12,none⟩=some _:=HQQ.out _ (Below.refl _ _) 12 _ rfl;have r0:W.cell? ⟨w.heap.size+1,0,none⟩=some (.int .i64 _):=HQR.out _ (Below.refl _ _) 0 _ rfl;have r1:W.cell? ⟨w.heap.size+1,1,none⟩=some (.int .i64 _):=HQR.out _ (Below.refl _ _) 1 _ rfl;have r2:W.cell? ⟨w.heap.size+1,2,none⟩=some (.int .i64 _):=HQR.out _ (Below.refl _ _) 2 _ rfl;have r3:W.cell? ⟨w.heap.size+1,3,none⟩=some (.int .i64 _):=HQR.out _ (Below.refl _ _) 3 _ rfl
 by_cases h3:op=3
 ·subst h3
  have hrr:R=((kindA K b == 1 && kindA K c == 1)):=by rw[← HR.out];simp[readsK]
  have kb:=fun W' h=>KD.out W' h b
  have kc:=fun W' h=>KD.out W' h c
  generalize kindA K b=x at *;generalize kindA K c=y at *;have KB:=k_ kb;have KC:=k_ kc;clear kb kc KD TH AR;have HRR:=k_ hrr;clear hrr HR;go_wp2_with fail;refine(KB.out _ (Below.refl _ _)).mono ?_;rintro e w1 ⟨rfl,hb1⟩;have HB1:=k_ ((Below.refl W.heap.size W).trans (hb1.mono (Below.refl W.heap.size W).size));have HG1:=k_ (HC0.out.trans (HB1.out.mono HC0.out.size));clear hb1;clear p0 p1 p2 p3 p4 p5 p6 p7 p8 p9 p10 p11 p12;clear r0 r1 r2 r3;have p0:w1.cell? ⟨w.heap.size,0,none⟩=some _:=HQQ.out _ HB1.out 0 _ rfl;have p1:w1.cell? ⟨w.heap.size,1,none⟩=some _:=HQQ.out _ HB1.out 1 _ rfl;have p2:w1.cell? ⟨w.heap.size,2,none⟩=some _:=HQQ.out _ HB1.out 2 _ rfl;have p3:w1.cell? ⟨w.heap.size,3,none⟩=some _:=HQQ.out _ HB1.out 3 _ rfl;have p4:w1.cell? ⟨w.heap.size,4,none⟩=some _:=HQQ.out _ HB1.out 4 _ rfl;have p5:w1.cell? ⟨w.heap.size,5,none⟩=some _:=HQQ.out _ HB1.out 5 _ rfl;have p6:w1.cell? ⟨w.heap.size,6,none⟩=some _:=HQQ.out _ HB1.out 6 _ rfl;have p7:w1.cell? ⟨w.heap.size,7,none⟩=some _:=HQQ.out _ HB1.out 7 _ rfl;have p8:w1.cell? ⟨w.heap.size,8,none⟩=some (.int .i64 _):=HQQ.out _ HB1.out 8 _ rfl;have p9:w1.cell? ⟨w.heap.size,9,none⟩=some (.int .i64 _):=HQQ.out _ HB1.out 9 _ rfl;have p10:w1.cell? ⟨w.heap.size,10,none⟩=some (.int .i64 _):=HQQ.out _ HB1.out 10 _ rfl;have p11:w1.cell? ⟨w.heap.size,11,none⟩=some (.int .i64 _):=HQQ.out _ HB1.out 11 _ rfl;have p12:w1.cell? ⟨w.heap.size,12,none⟩=some _:=HQQ.out _ HB1.out 12 _ rfl;have r0:w1.cell? ⟨w.heap.size+1,0,none⟩=some (.int .i64 _):=HQR.out _ HB1.out 0 _ rfl;have r1:w1.cell? ⟨w.heap.size+1,1,none⟩=some (.int .i64 _):=HQR.out _ HB1.out 1 _ rfl;have r2:w1.cell? ⟨w.heap.size+1,2,none⟩=some (.int .i64 _):=HQR.out _ HB1.out 2 _ rfl;have r3:w1.cell? ⟨w.heap.size+1,3,none⟩=some (.int .i64 _):=HQR.out _ HB1.out 3 _ rfl
  by_cases hx:x=1
  ·subst hx
   go_wp2_with fail;refine(KC.out _ HB1.out).mono ?_;rintro e w2 ⟨rfl,hb2⟩;have HB2:=k_ (HB1.out.trans (hb2.mono HB1.out.size));have HG2:=k_ (HC0.out.trans (HB2.out.mono HC0.out.size));clear hb2;clear p0 p1 p2 p3 p4 p5 p6 p7 p8 p9 p10 p11 p12;clear r0 r1 r2 r3;go_wp2_with fail
   go_ret
   exact⟨by rw[HRR.out];simp[*],HG2.out⟩
  ·have hx':(x == 1)=false:=by simpa using hx
   clear hx;clear p0 p1 p2 p3 p4 p5 p6 p7 p8 p9 p10 p11 p12;clear r0 r1 r2 r3;go_wp2_with fail
   go_ret
   exact⟨by rw[HRR.out];simp[*],HG1.out⟩
 by_cases h4:op=4
 ·subst h4
  have hrr:R=((kindA K b == 1 && kindA K c == 1)):=by rw[← HR.out];simp[readsK]
  have kb:=fun W' h=>KD.out W' h b
  have kc:=fun W' h=>KD.out W' h c
  generalize kindA K b=x at *;generalize kindA K c=y at *;have KB:=k_ kb;have KC:=k_ kc;clear kb kc KD TH AR;have HRR:=k_ hrr;clear hrr HR;go_wp2_with fail;refine(KB.out _ (Below.refl _ _)).mono ?_;rintro e w1 ⟨rfl,hb1⟩;have HB1:=k_ ((Below.refl W.heap.size W).trans (hb1.mono (Below.refl W.heap.size W).size));have HG1:=k_ (HC0.out.trans (HB1.out.mono HC0.out.size));clear hb1;clear p0 p1 p2 p3 p4 p5 p6 p7 p8 p9 p10 p11 p12;clear r0 r1 r2 r3;have p0:w1.cell? ⟨w.heap.size,0,none⟩=some _:=HQQ.out _ HB1.out 0 _ rfl;have p1:w1.cell? ⟨w.heap.size,1,none⟩=some _:=HQQ.out _ HB1.out 1 _ rfl;have p2:w1.cell? ⟨w.heap.size,2,none⟩=some _:=HQQ.out _ HB1.out 2 _ rfl;have p3:w1.cell? ⟨w.heap.size,3,none⟩=some _:=HQQ.out _ HB1.out 3 _ rfl;have p4:w1.cell? ⟨w.heap.size,4,none⟩=some _:=HQQ.out _ HB1.out 4 _ rfl;have p5:w1.cell? ⟨w.heap.size,5,none⟩=some _:=HQQ.out _ HB1.out 5 _ rfl;have p6:w1.cell? ⟨w.heap.size,6,none⟩=some _:=HQQ.out _ HB1.out 6 _ rfl;have p7:w1.cell? ⟨w.heap.size,7,none⟩=some _:=HQQ.out _ HB1.out 7 _ rfl;have p8:w1.cell? ⟨w.heap.size,8,none⟩=some (.int .i64 _):=HQQ.out _ HB1.out 8 _ rfl;have p9:w1.cell? ⟨w.heap.size,9,none⟩=some (.int .i64 _):=HQQ.out _ HB1.out 9 _ rfl;have p10:w1.cell? ⟨w.heap.size,10,none⟩=some (.int .i64 _):=HQQ.out _ HB1.out 10 _ rfl;have p11:w1.cell? ⟨w.heap.size,11,none⟩=some (.int .i64 _):=HQQ.out _ HB1.out 11 _ rfl;have p12:w1.cell? ⟨w.heap.size,12,none⟩=some _:=HQQ.out _ HB1.out 12 _ rfl;have r0:w1.cell? ⟨w.heap.size+1,0,none⟩=some (.int .i64 _):=HQR.out _ HB1.out 0 _ rfl;have r1:w1.cell? ⟨w.heap.size+1,1,none⟩=some (.int .i64 _):=HQR.out _ HB1.out 1 _ rfl;have r2:w1.cell? ⟨w.heap.size+1,2,none⟩=some (.int .i64 _):=HQR.out _ HB1.out 2 _ rfl;have r3:w1.cell? ⟨w.heap.size+1,3,none⟩=some (.int .i64 _):=HQR.out _ HB1.out 3 _ rfl
  by_cases hx:x=1
  ·subst hx
   go_wp2_with fail;refine(KC.out _ HB1.out).mono ?_;rintro e w2 ⟨rfl,hb2⟩;have HB2:=k_ (HB1.out.trans (hb2.mono HB1.out.size));have HG2:=k_ (HC0.out.trans (HB2.out.mono HC0.out.size));clear hb2;clear p0 p1 p2 p3 p4 p5 p6 p7 p8 p9 p10 p11 p12;clear r0 r1 r2 r3;go_wp2_with fail
   go_ret
   exact⟨by rw[HRR.out];simp[*],HG2.out⟩
  ·have hx':(x == 1)=false:=by simpa using hx
   clear hx;clear p0 p1 p2 p3 p4 p5 p6 p7 p8 p9 p10 p11 p12;clear r0 r1 r2 r3;go_wp2_with fail
   go_ret
   exact⟨by rw[HRR.out];simp[*],HG1.out⟩
 by_cases h5:op=5
 ·subst h5
  have hrr:R=((kindA K b == 1 && kindA K c == 1)):=by rw[← HR.out];simp[readsK]
  have kb:=fun W' h=>KD.out W' h b
  have kc:=fun W' h=>KD.out W' h c
  generalize kindA K b=x at *;generalize kindA K c=y at *;have KB:=k_ kb;have KC:=k_ kc;clear kb kc KD TH AR;have HRR:=k_ hrr;clear hrr HR;go_wp2_with fail;refine(KB.out _ (Below.refl _ _)).mono ?_;rintro e w1 ⟨rfl,hb1⟩;have HB1:=k_ ((Below.refl W.heap.size W).trans (hb1.mono (Below.refl W.heap.size W).size));have HG1:=k_ (HC0.out.trans (HB1.out.mono HC0.out.size));clear hb1;clear p0 p1 p2 p3 p4 p5 p6 p7 p8 p9 p10 p11 p12;clear r0 r1 r2 r3;have p0:w1.cell? ⟨w.heap.size,0,none⟩=some _:=HQQ.out _ HB1.out 0 _ rfl;have p1:w1.cell? ⟨w.heap.size,1,none⟩=some _:=HQQ.out _ HB1.out 1 _ rfl;have p2:w1.cell? ⟨w.heap.size,2,none⟩=some _:=HQQ.out _ HB1.out 2 _ rfl;have p3:w1.cell? ⟨w.heap.size,3,none⟩=some _:=HQQ.out _ HB1.out 3 _ rfl;have p4:w1.cell? ⟨w.heap.size,4,none⟩=some _:=HQQ.out _ HB1.out 4 _ rfl;have p5:w1.cell? ⟨w.heap.size,5,none⟩=some _:=HQQ.out _ HB1.out 5 _ rfl;have p6:w1.cell? ⟨w.heap.size,6,none⟩=some _:=HQQ.out _ HB1.out 6 _ rfl;have p7:w1.cell? ⟨w.heap.size,7,none⟩=some _:=HQQ.out _ HB1.out 7 _ rfl;have p8:w1.cell? ⟨w.heap.size,8,none⟩=some (.int .i64 _):=HQQ.out _ HB1.out 8 _ rfl;have p9:w1.cell? ⟨w.heap.size,9,none⟩=some (.int .i64 _):=HQQ.out _ HB1.out 9 _ rfl;have p10:w1.cell? ⟨w.heap.size,10,none⟩=some (.int .i64 _):=HQQ.out _ HB1.out 10 _ rfl;have p11:w1.cell? ⟨w.heap.size,11,none⟩=some (.int .i64 _):=HQQ.out _ HB1.out 11 _ rfl;have p12:w1.cell? ⟨w.heap.size,12,none⟩=some _:=HQQ.out _ HB1.out 12 _ rfl;have r0:w1.cell? ⟨w.heap.size+1,0,none⟩=some (.int .i64 _):=HQR.out _ HB1.out 0 _ rfl;have r1:w1.cell? ⟨w.heap.size+1,1,none⟩=some (.int .i64 _):=HQR.out _ HB1.out 1 _ rfl;have r2:w1.cell? ⟨w.heap.size+1,2,none⟩=some (.int .i64 _):=HQR.out _ HB1.out 2 _ rfl;have r3:w1.cell? ⟨w.heap.size+1,3,none⟩=some (.int .i64 _):=HQR.out _ HB1.out 3 _ rfl
  by_cases hx:x=1
  ·subst hx
   go_wp2_with fail;refine(KC.out _ HB1.out).mono ?_;rintro e w2 ⟨rfl,hb2⟩;have HB2:=k_ (HB1.out.trans (hb2.mono HB1.out.size));have HG2:=k_ (HC0.out.trans (HB2.out.mono HC0.out.size));clear hb2;clear p0 p1 p2 p3 p4 p5 p6 p7 p8 p9 p10 p11 p12;clear r0 r1 r2 r3;go_wp2_with fail
   go_ret
   exact⟨by rw[HRR.out];simp[*],HG2.out⟩
  ·have hx':(x == 1)=false:=by simpa using hx
   clear hx;clear p0 p1 p2 p3 p4 p5 p6 p7 p8 p9 p10 p11 p12;clear r0 r1 r2 r3;go_wp2_with fail
   go_ret
   exact⟨by rw[HRR.out];simp[*],HG1.out⟩
 by_cases h6:op=6
 ·subst h6
  have hrr:R=((kindA K b == 1 && kindA K c == 1)):=by rw[← HR.out];simp[readsK]
  have kb:=fun W' h=>KD.out W' h b
  have kc:=fun W' h=>KD.out W' h c
  generalize kindA K b=x at *;generalize kindA K c=y at *;have KB:=k_ kb;have KC:=k_ kc;clear kb kc KD TH AR;have HRR:=k_ hrr;clear hrr HR;go_wp2_with fail;refine(KB.out _ (Below.refl _ _)).mono ?_;rintro e w1 ⟨rfl,hb1⟩;have HB1:=k_ ((Below.refl W.heap.size W).trans (hb1.mono (Below.refl W.heap.size W).size));have HG1:=k_ (HC0.out.trans (HB1.out.mono HC0.out.size));clear hb1;clear p0 p1 p2 p3 p4 p5 p6 p7 p8 p9 p10 p11 p12;clear r0 r1 r2 r3;have p0:w1.cell? ⟨w.heap.size,0,none⟩=some _:=HQQ.out _ HB1.out 0 _ rfl;have p1:w1.cell? ⟨w.heap.size,1,none⟩=some _:=HQQ.out _ HB1.out 1 _ rfl;have p2:w1.cell? ⟨w.heap.size,2,none⟩=some _:=HQQ.out _ HB1.out 2 _ rfl;have p3:w1.cell? ⟨w.heap.size,3,none⟩=some _:=HQQ.out _ HB1.out 3 _ rfl;have p4:w1.cell? ⟨w.heap.size,4,none⟩=some _:=HQQ.out _ HB1.out 4 _ rfl;have p5:w1.cell? ⟨w.heap.size,5,none⟩=some _:=HQQ.out _ HB1.out 5 _ rfl;have p6:w1.cell? ⟨w.heap.size,6,none⟩=some _:=HQQ.out _ HB1.out 6 _ rfl;have p7:w1.cell? ⟨w.heap.size,7,none⟩=some _:=HQQ.out _ HB1.out 7 _ rfl;have p8:w1.cell? ⟨w.heap.size,8,none⟩=some (.int .i64 _):=HQQ.out _ HB1.out 8 _ rfl;have p9:w1.cell? ⟨w.heap.size,9,none⟩=some (.int .i64 _):=HQQ.out _ HB1.out 9 _ rfl;have p10:w1.cell? ⟨w.heap.size,10,none⟩=some (.int .i64 _):=HQQ.out _ HB1.out 10 _ rfl;have p11:w1.cell? ⟨w.heap.size,11,none⟩=some (.int .i64 _):=HQQ.out _ HB1.out 11 _ rfl;have p12:w1.cell? ⟨w.heap.size,12,none⟩=some _:=HQQ.out _ HB1.out 12 _ rfl;have r0:w1.cell? ⟨w.heap.size+1,0,none⟩=some (.int .i64 _):=HQR.out _ HB1.out 0 _ rfl;have r1:w1.cell? ⟨w.heap.size+1,1,none⟩=some (.int .i64 _):=HQR.out _ HB1.out 1 _ rfl;have r2:w1.cell? ⟨w.heap.size+1,2,none⟩=some (.int .i64 _):=HQR.out _ HB1.out 2 _ rfl;have r3:w1.cell? ⟨w.heap.size+1,3,none⟩=some (.int .i64 _):=HQR.out _ HB1.out 3 _ rfl
  by_cases hx:x=1
  ·subst hx
   go_wp2_with fail;refine(KC.out _ HB1.out).mono ?_;rintro e w2 ⟨rfl,hb2⟩;have HB2:=k_ (HB1.out.trans (hb2.mono HB1.out.size));have HG2:=k_ (HC0.out.trans (HB2.out.mono HC0.out.size));clear hb2;clear p0 p1 p2 p3 p4 p5 p6 p7 p8 p9 p10 p11 p12;clear r0 r1 r2 r3;go_wp2_with fail
   go_ret
   exact⟨by rw[HRR.out];simp[*],HG2.out⟩
  ·have hx':(x == 1)=false:=by simpa using hx
   clear hx;clear p0 p1 p2 p3 p4 p5 p6 p7 p8 p9 p10 p11 p12;clear r0 r1 r2 r3;go_wp2_with fail
   go_ret
   exact⟨by rw[HRR.out];simp[*],HG1.out⟩
 by_cases h7:op=7
 ·subst h7
  have hrr:R=((kindA K b == 1 && kindA K c == 1)):=by rw[← HR.out];simp[readsK]
  have kb:=fun W' h=>KD.out W' h b
  have kc:=fun W' h=>KD.out W' h c
  generalize kindA K b=x at *;generalize kindA K c=y at *;have KB:=k_ kb;have KC:=k_ kc;clear kb kc KD TH AR;have HRR:=k_ hrr;clear hrr HR;go_wp2_with fail;refine(KB.out _ (Below.refl _ _)).mono ?_;rintro e w1 ⟨rfl,hb1⟩;have HB1:=k_ ((Below.refl W.heap.size W).trans (hb1.mono (Below.refl W.heap.size W).size));have HG1:=k_ (HC0.out.trans (HB1.out.mono HC0.out.size));clear hb1;clear p0 p1 p2 p3 p4 p5 p6 p7 p8 p9 p10 p11 p12;clear r0 r1 r2 r3;have p0:w1.cell? ⟨w.heap.size,0,none⟩=some _:=HQQ.out _ HB1.out 0 _ rfl;have p1:w1.cell? ⟨w.heap.size,1,none⟩=some _:=HQQ.out _ HB1.out 1 _ rfl;have p2:w1.cell? ⟨w.heap.size,2,none⟩=some _:=HQQ.out _ HB1.out 2 _ rfl;have p3:w1.cell? ⟨w.heap.size,3,none⟩=some _:=HQQ.out _ HB1.out 3 _ rfl;have p4:w1.cell? ⟨w.heap.size,4,none⟩=some _:=HQQ.out _ HB1.out 4 _ rfl;have p5:w1.cell? ⟨w.heap.size,5,none⟩=some _:=HQQ.out _ HB1.out 5 _ rfl;have p6:w1.cell? ⟨w.heap.size,6,none⟩=some _:=HQQ.out _ HB1.out 6 _ rfl;have p7:w1.cell? ⟨w.heap.size,7,none⟩=some _:=HQQ.out _ HB1.out 7 _ rfl;have p8:w1.cell? ⟨w.heap.size,8,none⟩=some (.int .i64 _):=HQQ.out _ HB1.out 8 _ rfl;have p9:w1.cell? ⟨w.heap.size,9,none⟩=some (.int .i64 _):=HQQ.out _ HB1.out 9 _ rfl;have p10:w1.cell? ⟨w.heap.size,10,none⟩=some (.int .i64 _):=HQQ.out _ HB1.out 10 _ rfl;have p11:w1.cell? ⟨w.heap.size,11,none⟩=some (.int .i64 _):=HQQ.out _ HB1.out 11 _ rfl;have p12:w1.cell? ⟨w.heap.size,12,none⟩=some _:=HQQ.out _ HB1.out 12 _ rfl;have r0:w1.cell? ⟨w.heap.size+1,0,none⟩=some (.int .i64 _):=HQR.out _ HB1.out 0 _ rfl;have r1:w1.cell? ⟨w.heap.size+1,1,none⟩=some (.int .i64 _):=HQR.out _ HB1.out 1 _ rfl;have r2:w1.cell? ⟨w.heap.size+1,2,none⟩=some (.int .i64 _):=HQR.out _ HB1.out 2 _ rfl;have r3:w1.cell? ⟨w.heap.size+1,3,none⟩=some (.int .i64 _):=HQR.out _ HB1.out 3 _ rfl
  by_cases hx:x=1
  ·subst hx
   go_wp2_with fail;refine(KC.out _ HB1.out).mono ?_;rintro e w2 ⟨rfl,hb2⟩;have HB2:=k_ (HB1.out.trans (hb2.mono HB1.out.size));have HG2:=k_ (HC0.out.trans (HB2.out.mono HC0.out.size));clear hb2;clear p0 p1 p2 p3 p4 p5 p6 p7 p8 p9 p10 p11 p12;clear r0 r1 r2 r3;go_wp2_with fail
   go_ret
   exact⟨by rw[HRR.out];simp[*],HG2.out⟩
  ·have hx':(x == 1)=false:=by simpa using hx
   clear hx;clear p0 p1 p2 p3 p4 p5 p6 p7 p8 p9 p10 p11 p12;clear r0 r1 r2 r3;go_wp2_with fail
   go_ret
   exact⟨by rw[HRR.out];simp[*],HG1.out⟩
 by_cases h8:op=8
 ·subst h8
  have hrr:R=((kindA K b == 1 && kindA K c == 1)):=by rw[← HR.out];simp[readsK]
  have kb:=fun W' h=>KD.out W' h b
  have kc:=fun W' h=>KD.out W' h c
  generalize kindA K b=x at *;generalize kindA K c=y at *;have KB:=k_ kb;have KC:=k_ kc;clear kb kc KD TH AR;have HRR:=k_ hrr;clear hrr HR;go_wp2_with fail;refine(KB.out _ (Below.refl _ _)).mono ?_;rintro e w1 ⟨rfl,hb1⟩;have HB1:=k_ ((Below.refl W.heap.size W).trans (hb1.mono (Below.refl W.heap.size W).size));have HG1:=k_ (HC0.out.trans (HB1.out.mono HC0.out.size));clear hb1;clear p0 p1 p2 p3 p4 p5 p6 p7 p8 p9 p10 p11 p12;clear r0 r1 r2 r3;have p0:w1.cell? ⟨w.heap.size,0,none⟩=some _:=HQQ.out _ HB1.out 0 _ rfl;have p1:w1.cell? ⟨w.heap.size,1,none⟩=some _:=HQQ.out _ HB1.out 1 _ rfl;have p2:w1.cell? ⟨w.heap.size,2,none⟩=some _:=HQQ.out _ HB1.out 2 _ rfl;have p3:w1.cell? ⟨w.heap.size,3,none⟩=some _:=HQQ.out _ HB1.out 3 _ rfl;have p4:w1.cell? ⟨w.heap.size,4,none⟩=some _:=HQQ.out _ HB1.out 4 _ rfl;have p5:w1.cell? ⟨w.heap.size,5,none⟩=some _:=HQQ.out _ HB1.out 5 _ rfl;have p6:w1.cell? ⟨w.heap.size,6,none⟩=some _:=HQQ.out _ HB1.out 6 _ rfl;have p7:w1.cell? ⟨w.heap.size,7,none⟩=some _:=HQQ.out _ HB1.out 7 _ rfl;have p8:w1.cell? ⟨w.heap.size,8,none⟩=some (.int .i64 _):=HQQ.out _ HB1.out 8 _ rfl;have p9:w1.cell? ⟨w.heap.size,9,none⟩=some (.int .i64 _):=HQQ.out _ HB1.out 9 _ rfl;have p10:w1.cell? ⟨w.heap.size,10,none⟩=some (.int .i64 _):=HQQ.out _ HB1.out 10 _ rfl;have p11:w1.cell? ⟨w.heap.size,11,none⟩=some (.int .i64 _):=HQQ.out _ HB1.out 11 _ rfl;have p12:w1.cell? ⟨w.heap.size,12,none⟩=some _:=HQQ.out _ HB1.out 12 _ rfl;have r0:w1.cell? ⟨w.heap.size+1,0,none⟩=some (.int .i64 _):=HQR.out _ HB1.out 0 _ rfl;have r1:w1.cell? ⟨w.heap.size+1,1,none⟩=some (.int .i64 _):=HQR.out _ HB1.out 1 _ rfl;have r2:w1.cell? ⟨w.heap.size+1,2,none⟩=some (.int .i64 _):=HQR.out _ HB1.out 2 _ rfl;have r3:w1.cell? ⟨w.heap.size+1,3,none⟩=some (.int .i64 _):=HQR.out _ HB1.out 3 _ rfl
  by_cases hx:x=1
  ·subst hx
   go_wp2_with fail;refine(KC.out _ HB1.out).mono ?_;rintro e w2 ⟨rfl,hb2⟩;have HB2:=k_ (HB1.out.trans (hb2.mono HB1.out.size));have HG2:=k_ (HC0.out.trans (HB2.out.mono HC0.out.size));clear hb2;clear p0 p1 p2 p3 p4 p5 p6 p7 p8 p9 p10 p11 p12;clear r0 r1 r2 r3;go_wp2_with fail
   go_ret
   exact⟨by rw[HRR.out];simp[*],HG2.out⟩
  ·have hx':(x == 1)=false:=by simpa using hx
   clear hx;clear p0 p1 p2 p3 p4 p5 p6 p7 p8 p9 p10 p11 p12;clear r0 r1 r2 r3;go_wp2_with fail
   go_ret
   exact⟨by rw[HRR.out];simp[*],HG1.out⟩
 by_cases h2:op=2
 ·subst h2
  have hrr:R=(kindA K b != 0):=by rw[← HR.out];simp[readsK]
  have kb:=fun W' h=>KD.out W' h b
  generalize kindA K b=x at *;have KB:=k_ kb;clear kb KD TH AR;have HRR:=k_ hrr;clear hrr HR;go_wp2_with fail;refine(KB.out _ (Below.refl _ _)).mono ?_;rintro e w1 ⟨rfl,hb1⟩;have HB1:=k_ ((Below.refl W.heap.size W).trans (hb1.mono (Below.refl W.heap.size W).size));have HG1:=k_ (HC0.out.trans (HB1.out.mono HC0.out.size));clear hb1;clear p0 p1 p2 p3 p4 p5 p6 p7 p8 p9 p10 p11 p12;clear r0 r1 r2 r3;go_wp2_with fail
  go_ret
  exact⟨by rw[HRR.out];rfl,HG1.out⟩
 by_cases h10:op=10
 ·subst h10
  have hrr:R=((kindA K a == 1)):=by rw[← HR.out];simp[readsK]
  have kb:=fun W' h=>KD.out W' h a
  generalize kindA K a=x at *;have KB:=k_ kb;clear kb KD TH AR;have HRR:=k_ hrr;clear hrr HR;go_wp2_with fail;refine(KB.out _ (Below.refl _ _)).mono ?_;rintro e w1 ⟨rfl,hb1⟩;have HB1:=k_ ((Below.refl W.heap.size W).trans (hb1.mono (Below.refl W.heap.size W).size));have HG1:=k_ (HC0.out.trans (HB1.out.mono HC0.out.size));clear hb1;clear p0 p1 p2 p3 p4 p5 p6 p7 p8 p9 p10 p11 p12;clear r0 r1 r2 r3;go_wp2_with fail
  go_ret
  exact⟨by rw[HRR.out];rfl,HG1.out⟩
 by_cases h29:op=29
 ·subst h29
  have hrr:R=((kindA K a == 1)):=by rw[← HR.out];simp[readsK]
  have kb:=fun W' h=>KD.out W' h a
  generalize kindA K a=x at *;have KB:=k_ kb;clear kb KD TH AR;have HRR:=k_ hrr;clear hrr HR;go_wp2_with fail;refine(KB.out _ (Below.refl _ _)).mono ?_;rintro e w1 ⟨rfl,hb1⟩;have HB1:=k_ ((Below.refl W.heap.size W).trans (hb1.mono (Below.refl W.heap.size W).size));have HG1:=k_ (HC0.out.trans (HB1.out.mono HC0.out.size));clear hb1;clear p0 p1 p2 p3 p4 p5 p6 p7 p8 p9 p10 p11 p12;clear r0 r1 r2 r3;go_wp2_with fail
  go_ret
  exact⟨by rw[HRR.out];rfl,HG1.out⟩
 by_cases h12:op=12
 ·subst h12
  have hrr:R=(isPtrB (kindA K b)):=by rw[← HR.out];simp[readsK]
  have kb:=fun W' h=>KD.out W' h b
  have pl:=fun W'=>fpoints_any W' (kindA K b)
  generalize kindA K b=x at *;have KB:=k_ kb;clear kb KD TH AR;have HRR:=k_ hrr;clear hrr HR;have PL:=k_ pl;clear pl;go_wp2_with fail;refine(KB.out _ (Below.refl _ _)).mono ?_;rintro e w1 ⟨rfl,hb1⟩;have HB1:=k_ ((Below.refl W.heap.size W).trans (hb1.mono (Below.refl W.heap.size W).size));have HG1:=k_ (HC0.out.trans (HB1.out.mono HC0.out.size));clear hb1;clear p0 p1 p2 p3 p4 p5 p6 p7 p8 p9 p10 p11 p12;clear r0 r1 r2 r3;go_wp2_with fail;refine(PL.out _).mono ?_;rintro e w' ⟨rfl,rfl⟩;go_wp2_with fail
  go_ret
  exact⟨by rw[HRR.out];rfl,HG1.out⟩
 by_cases h14:op=14
 ·subst h14
  have hrr:R=((throughA p 14 K b c != 0)):=by rw[← HR.out];simp[readsK]
  have th:=fun W' h=>TH.out W' h b c
  generalize throughA p 14 K b c=x at *;have TH2:=k_ th;clear th KD TH AR;have HRR:=k_ hrr;clear hrr HR;go_wp2_with fail;refine(TH2.out _ (Below.refl _ _)).mono ?_;rintro e w1 ⟨rfl,hb1⟩;have HB1:=k_ ((Below.refl W.heap.size W).trans (hb1.mono (Below.refl W.heap.size W).size));have HG1:=k_ (HC0.out.trans (HB1.out.mono HC0.out.size));clear hb1;clear p0 p1 p2 p3 p4 p5 p6 p7 p8 p9 p10 p11 p12;clear r0 r1 r2 r3;go_wp2_with fail
  go_ret
  exact⟨by rw[HRR.out];rfl,HG1.out⟩
 by_cases h19:op=19
 ·subst h19
  have hrr:R=((throughA p 19 K b c != 0)):=by rw[← HR.out];simp[readsK]
  have th:=fun W' h=>TH.out W' h b c
  generalize throughA p 19 K b c=x at *;have TH2:=k_ th;clear th KD TH AR;have HRR:=k_ hrr;clear hrr HR;go_wp2_with fail;refine(TH2.out _ (Below.refl _ _)).mono ?_;rintro e w1 ⟨rfl,hb1⟩;have HB1:=k_ ((Below.refl W.heap.size W).trans (hb1.mono (Below.refl W.heap.size W).size));have HG1:=k_ (HC0.out.trans (HB1.out.mono HC0.out.size));clear hb1;clear p0 p1 p2 p3 p4 p5 p6 p7 p8 p9 p10 p11 p12;clear r0 r1 r2 r3;go_wp2_with fail
  go_ret
  exact⟨by rw[HRR.out];rfl,HG1.out⟩
 by_cases h15:op=15
 ·subst h15
  have hrr:R=((throughA p 15 K a b != 0 && kindA K c == throughA p 15 K a b)):=by rw[← HR.out];simp[readsK]
  have th:=fun W' h=>TH.out W' h a b
  have kc:=fun W' h=>KD.out W' h c
  generalize throughA p 15 K a b=x at *;generalize kindA K c=y at *;have TH2:=k_ th;have KC:=k_ kc;clear th kc KD TH AR;have HRR:=k_ hrr;clear hrr HR;go_wp2_with fail;refine(TH2.out _ (Below.refl _ _)).mono ?_;rintro e w1 ⟨rfl,hb1⟩;have HB1:=k_ ((Below.refl W.heap.size W).trans (hb1.mono (Below.refl W.heap.size W).size));have HG1:=k_ (HC0.out.trans (HB1.out.mono HC0.out.size));clear hb1;clear p0 p1 p2 p3 p4 p5 p6 p7 p8 p9 p10 p11 p12;clear r0 r1 r2 r3;have p0:w1.cell? ⟨w.heap.size,0,none⟩=some _:=HQQ.out _ HB1.out 0 _ rfl;have p1:w1.cell? ⟨w.heap.size,1,none⟩=some _:=HQQ.out _ HB1.out 1 _ rfl;have p2:w1.cell? ⟨w.heap.size,2,none⟩=some _:=HQQ.out _ HB1.out 2 _ rfl;have p3:w1.cell? ⟨w.heap.size,3,none⟩=some _:=HQQ.out _ HB1.out 3 _ rfl;have p4:w1.cell? ⟨w.heap.size,4,none⟩=some _:=HQQ.out _ HB1.out 4 _ rfl;have p5:w1.cell? ⟨w.heap.size,5,none⟩=some _:=HQQ.out _ HB1.out 5 _ rfl;have p6:w1.cell? ⟨w.heap.size,6,none⟩=some _:=HQQ.out _ HB1.out 6 _ rfl;have p7:w1.cell? ⟨w.heap.size,7,none⟩=some _:=HQQ.out _ HB1.out 7 _ rfl;have p8:w1.cell? ⟨w.heap.size,8,none⟩=some (.int .i64 _):=HQQ.out _ HB1.out 8 _ rfl;have p9:w1.cell? ⟨w.heap.size,9,none⟩=some (.int .i64 _):=HQQ.out _ HB1.out 9 _ rfl;have p10:w1.cell? ⟨w.heap.size,10,none⟩=some (.int .i64 _):=HQQ.out _ HB1.out 10 _ rfl;have p11:w1.cell? ⟨w.heap.size,11,none⟩=some (.int .i64 _):=HQQ.out _ HB1.out 11 _ rfl;have p12:w1.cell? ⟨w.heap.size,12,none⟩=some _:=HQQ.out _ HB1.out 12 _ rfl;have r0:w1.cell? ⟨w.heap.size+1,0,none⟩=some (.int .i64 _):=HQR.out _ HB1.out 0 _ rfl;have r1:w1.cell? ⟨w.heap.size+1,1,none⟩=some (.int .i64 _):=HQR.out _ HB1.out 1 _ rfl;have r2:w1.cell? ⟨w.heap.size+1,2,none⟩=some (.int .i64 _):=HQR.out _ HB1.out 2 _ rfl;have r3:w1.cell? ⟨w.heap.size+1,3,none⟩=some (.int .i64 _):=HQR.out _ HB1.out 3 _ rfl
  by_cases hx:x=0
  ·subst hx
   clear p0 p1 p2 p3 p4 p5 p6 p7 p8 p9 p10 p11 p12;clear r0 r1 r2 r3;go_wp2_with fail
   go_ret
   exact⟨by rw[HRR.out];simp[*],HG1.out⟩
  ·have hx':(x != 0)=true:=by simpa using hx
   have hx2:(x == 0)=false:=by simpa using hx
   clear hx;go_wp2_with fail;refine(KC.out _ HB1.out).mono ?_;rintro e w2 ⟨rfl,hb2⟩;have HB2:=k_ (HB1.out.trans (hb2.mono HB1.out.size));have HG2:=k_ (HC0.out.trans (HB2.out.mono HC0.out.size));clear hb2;clear p0 p1 p2 p3 p4 p5 p6 p7 p8 p9 p10 p11 p12;clear r0 r1 r2 r3;go_wp2_with fail
   go_ret
   exact⟨by rw[HRR.out];simp[*],HG2.out⟩
 by_cases h20:op=20
 ·subst h20
  have hrr:R=((throughA p 20 K a b != 0 && kindA K c == throughA p 20 K a b)):=by rw[← HR.out];simp[readsK]
  have th:=fun W' h=>TH.out W' h a b
  have kc:=fun W' h=>KD.out W' h c
  generalize throughA p 20 K a b=x at *;generalize kindA K c=y at *;have TH2:=k_ th;have KC:=k_ kc;clear th kc KD TH AR;have HRR:=k_ hrr;clear hrr HR;go_wp2_with fail;refine(TH2.out _ (Below.refl _ _)).mono ?_;rintro e w1 ⟨rfl,hb1⟩;have HB1:=k_ ((Below.refl W.heap.size W).trans (hb1.mono (Below.refl W.heap.size W).size));have HG1:=k_ (HC0.out.trans (HB1.out.mono HC0.out.size));clear hb1;clear p0 p1 p2 p3 p4 p5 p6 p7 p8 p9 p10 p11 p12;clear r0 r1 r2 r3;have p0:w1.cell? ⟨w.heap.size,0,none⟩=some _:=HQQ.out _ HB1.out 0 _ rfl;have p1:w1.cell? ⟨w.heap.size,1,none⟩=some _:=HQQ.out _ HB1.out 1 _ rfl;have p2:w1.cell? ⟨w.heap.size,2,none⟩=some _:=HQQ.out _ HB1.out 2 _ rfl;have p3:w1.cell? ⟨w.heap.size,3,none⟩=some _:=HQQ.out _ HB1.out 3 _ rfl;have p4:w1.cell? ⟨w.heap.size,4,none⟩=some _:=HQQ.out _ HB1.out 4 _ rfl;have p5:w1.cell? ⟨w.heap.size,5,none⟩=some _:=HQQ.out _ HB1.out 5 _ rfl;have p6:w1.cell? ⟨w.heap.size,6,none⟩=some _:=HQQ.out _ HB1.out 6 _ rfl;have p7:w1.cell? ⟨w.heap.size,7,none⟩=some _:=HQQ.out _ HB1.out 7 _ rfl;have p8:w1.cell? ⟨w.heap.size,8,none⟩=some (.int .i64 _):=HQQ.out _ HB1.out 8 _ rfl;have p9:w1.cell? ⟨w.heap.size,9,none⟩=some (.int .i64 _):=HQQ.out _ HB1.out 9 _ rfl;have p10:w1.cell? ⟨w.heap.size,10,none⟩=some (.int .i64 _):=HQQ.out _ HB1.out 10 _ rfl;have p11:w1.cell? ⟨w.heap.size,11,none⟩=some (.int .i64 _):=HQQ.out _ HB1.out 11 _ rfl;have p12:w1.cell? ⟨w.heap.size,12,none⟩=some _:=HQQ.out _ HB1.out 12 _ rfl;have r0:w1.cell? ⟨w.heap.size+1,0,none⟩=some (.int .i64 _):=HQR.out _ HB1.out 0 _ rfl;have r1:w1.cell? ⟨w.heap.size+1,1,none⟩=some (.int .i64 _):=HQR.out _ HB1.out 1 _ rfl;have r2:w1.cell? ⟨w.heap.size+1,2,none⟩=some (.int .i64 _):=HQR.out _ HB1.out 2 _ rfl;have r3:w1.cell? ⟨w.heap.size+1,3,none⟩=some (.int .i64 _):=HQR.out _ HB1.out 3 _ rfl
  by_cases hx:x=0
  ·subst hx
   clear p0 p1 p2 p3 p4 p5 p6 p7 p8 p9 p10 p11 p12;clear r0 r1 r2 r3;go_wp2_with fail
   go_ret
   exact⟨by rw[HRR.out];simp[*],HG1.out⟩
  ·have hx':(x != 0)=true:=by simpa using hx
   have hx2:(x == 0)=false:=by simpa using hx
   clear hx;go_wp2_with fail;refine(KC.out _ HB1.out).mono ?_;rintro e w2 ⟨rfl,hb2⟩;have HB2:=k_ (HB1.out.trans (hb2.mono HB1.out.size));have HG2:=k_ (HC0.out.trans (HB2.out.mono HC0.out.size));clear hb2;clear p0 p1 p2 p3 p4 p5 p6 p7 p8 p9 p10 p11 p12;clear r0 r1 r2 r3;go_wp2_with fail
   go_ret
   exact⟨by rw[HRR.out];simp[*],HG2.out⟩
 by_cases h17:op=17
 ·subst h17
  have hrr:R=(kindA K b == globA p a):=by rw[← HR.out];simp[readsK]
  have kb:=fun W' h=>KD.out W' h b
  generalize kindA K b=x at *;obtain⟨⟨ga,gc,hc0,hgl⟩,_⟩:=(HVW.out W (Below.refl _ _)).prg;obtain⟨j,hja⟩:∃ j:Nat,a=j:=⟨a.toNat,by have:=HGS.out rfl;omega⟩;have hj:j<p.globals.length:=by have:=HGS.out rfl;omega
  have hga:globA p a=p.globals[j]:=by unfold globA;rw[hja];simp[hj]
  obtain⟨gb,go,hgae,_,hx⟩:=hgl j hj;rw[hga] at hrr;subst hja hc0 hgae;have hlt:(j:Int)<(p.globals.length:Int):=by omega
  clear hga hgl HGS HVW;generalize p.globals[j]=y at *;generalize p.globals.length=n at *;have KB:=k_ kb;clear kb KD TH AR;have HRR:=k_ hrr;clear hrr HR;have HR0:=k_ ((Below.refl W.heap.size W).drew)
  go_upto_region 25 with fail
  go_region_law (first | (go_simp;go_at_call 241;refine(KB.out _ HR0.out).mono ?_;rintro e w1 ⟨rfl,hb1⟩;have HB1:=k_ (HR0.out.trans (hb1.mono HR0.out.size));have HG1:=k_ (HC0.out.trans (HB1.out.mono HC0.out.size));have hx:=below_cell HB1.out hx;have p0:=below_cell HB1.out p0;have r1:=below_cell HB1.out r1;clear hb1))
  all_goals
   go_wp2_with fail
   go_ret
   exact⟨by rw[HRR.out];rfl,HG1.out⟩
 by_cases h21:op=21
 ·subst h21
  have AR2:=k_ (AR.out (by simp));have hrr:R=(argsOk K c (calleeR p b).args (calleeR p b).args.length):=by rw[← HR.out];simp[readsK]
  clear KD TH AR;generalize argsOk K c (calleeR p b).args (calleeR p b).args.length=x at *;have HRR:=k_ hrr;clear hrr HR;go_wp2_with fail;refine(AR2.out).mono ?_;rintro e w1 ⟨rfl,hb1⟩;have HB1:=k_ ((Below.refl W.heap.size W).trans (hb1.mono (Below.refl W.heap.size W).size));have HG1:=k_ (HC0.out.trans (HB1.out.mono HC0.out.size));clear hb1;clear p0 p1 p2 p3 p4 p5 p6 p7 p8 p9 p10 p11 p12;clear r0 r1 r2 r3;go_wp2_with fail
  go_ret
  exact⟨by rw[HRR.out];rfl,HG1.out⟩
 by_cases h23:op=23
 ·subst h23
  have AR2:=k_ (AR.out (by simp));have hrr:R=(argsOk K c (calleeR p b).args (calleeR p b).args.length):=by rw[← HR.out];simp[readsK]
  clear KD TH AR;generalize argsOk K c (calleeR p b).args (calleeR p b).args.length=x at *;have HRR:=k_ hrr;clear hrr HR;go_wp2_with fail;refine(AR2.out).mono ?_;rintro e w1 ⟨rfl,hb1⟩;have HB1:=k_ ((Below.refl W.heap.size W).trans (hb1.mono (Below.refl W.heap.size W).size));have HG1:=k_ (HC0.out.trans (HB1.out.mono HC0.out.size));clear hb1;clear p0 p1 p2 p3 p4 p5 p6 p7 p8 p9 p10 p11 p12;clear r0 r1 r2 r3;go_wp2_with fail
  go_ret
  exact⟨by rw[HRR.out];rfl,HG1.out⟩
 by_cases h24:op=24
 ·subst h24
  have AR2:=k_ (AR.out (by simp));have hrr:R=(argsOk K c (calleeR p b).args (calleeR p b).args.length):=by rw[← HR.out];simp[readsK]
  clear KD TH AR;generalize argsOk K c (calleeR p b).args (calleeR p b).args.length=x at *;have HRR:=k_ hrr;clear hrr HR;go_wp2_with fail;refine(AR2.out).mono ?_;rintro e w1 ⟨rfl,hb1⟩;have HB1:=k_ ((Below.refl W.heap.size W).trans (hb1.mono (Below.refl W.heap.size W).size));have HG1:=k_ (HC0.out.trans (HB1.out.mono HC0.out.size));clear hb1;clear p0 p1 p2 p3 p4 p5 p6 p7 p8 p9 p10 p11 p12;clear r0 r1 r2 r3;go_wp2_with fail
  go_ret
  exact⟨by rw[HRR.out];rfl,HG1.out⟩
 by_cases h22:op=22
 ·subst h22
  by_cases hz:fr=0
  ·subst hz
   have hrr:R=true:=by rw[← HR.out];simp[readsK]
   clear KD TH AR;have HRR:=k_ hrr;clear hrr HR
   go_upto_region 31 with fail
   go_quiet (fail)
   go_wp2_with fail
   go_ret
   exact⟨by rw[HRR.out];rfl,HC0.out.trans (below_drewN (Below.refl W.heap.size W) _ |>.mono HC0.out.size)⟩
  ·have hz':(fr == 0)=false:=by simpa using hz
   have hrr:R=(kindA K a == fr):=by rw[← HR.out];simp[readsK,hz]
   have kb:=fun W' h=>KD.out W' h a
   generalize kindA K a=x at *;have KB:=k_ kb;clear kb KD TH AR hz;have HRR:=k_ hrr;clear hrr HR;have HR0:=k_ ((Below.refl W.heap.size W).drew)
   go_upto_region 31 with fail
   go_region_law (first | (go_simp;go_at_call 241;refine(KB.out _ HR0.out).mono ?_;rintro e w1 ⟨rfl,hb1⟩;have HB1:=k_ (HR0.out.trans (hb1.mono HR0.out.size));have HG1:=k_ (HC0.out.trans (HB1.out.mono HC0.out.size));have p4:=below_cell HB1.out p4;clear hb1))
   all_goals
    go_wp2_with fail
    go_ret
    exact⟨by rw[HRR.out];rfl,HG1.out⟩
 by_cases h25:op=25
 ·subst h25
  have hrr:R=(kindA K a == 1 && kindA K b == 16):=by rw[← HR.out];simp[readsK]
  have kb:=fun W' h=>KD.out W' h a
  have kc:=fun W' h=>KD.out W' h b
  generalize kindA K a=x at *;generalize kindA K b=y at *;have KB:=k_ kb;have KC:=k_ kc;clear kb kc KD TH AR;have HRR:=k_ hrr;clear hrr HR;go_wp2_with fail;refine(KB.out _ (Below.refl _ _)).mono ?_;rintro e w1 ⟨rfl,hb1⟩;have HB1:=k_ ((Below.refl W.heap.size W).trans (hb1.mono (Below.refl W.heap.size W).size));have HG1:=k_ (HC0.out.trans (HB1.out.mono HC0.out.size));clear hb1;clear p0 p1 p2 p3 p4 p5 p6 p7 p8 p9 p10 p11 p12;clear r0 r1 r2 r3;have p0:w1.cell? ⟨w.heap.size,0,none⟩=some _:=HQQ.out _ HB1.out 0 _ rfl;have p1:w1.cell? ⟨w.heap.size,1,none⟩=some _:=HQQ.out _ HB1.out 1 _ rfl;have p2:w1.cell? ⟨w.heap.size,2,none⟩=some _:=HQQ.out _ HB1.out 2 _ rfl;have p3:w1.cell? ⟨w.heap.size,3,none⟩=some _:=HQQ.out _ HB1.out 3 _ rfl;have p4:w1.cell? ⟨w.heap.size,4,none⟩=some _:=HQQ.out _ HB1.out 4 _ rfl;have p5:w1.cell? ⟨w.heap.size,5,none⟩=some _:=HQQ.out _ HB1.out 5 _ rfl;have p6:w1.cell? ⟨w.heap.size,6,none⟩=some _:=HQQ.out _ HB1.out 6 _ rfl;have p7:w1.cell? ⟨w.heap.size,7,none⟩=some _:=HQQ.out _ HB1.out 7 _ rfl;have p8:w1.cell? ⟨w.heap.size,8,none⟩=some (.int .i64 _):=HQQ.out _ HB1.out 8 _ rfl;have p9:w1.cell? ⟨w.heap.size,9,none⟩=some (.int .i64 _):=HQQ.out _ HB1.out 9 _ rfl;have p10:w1.cell? ⟨w.heap.size,10,none⟩=some (.int .i64 _):=HQQ.out _ HB1.out 10 _ rfl;have p11:w1.cell? ⟨w.heap.size,11,none⟩=some (.int .i64 _):=HQQ.out _ HB1.out 11 _ rfl;have p12:w1.cell? ⟨w.heap.size,12,none⟩=some _:=HQQ.out _ HB1.out 12 _ rfl;have r0:w1.cell? ⟨w.heap.size+1,0,none⟩=some (.int .i64 _):=HQR.out _ HB1.out 0 _ rfl;have r1:w1.cell? ⟨w.heap.size+1,1,none⟩=some (.int .i64 _):=HQR.out _ HB1.out 1 _ rfl;have r2:w1.cell? ⟨w.heap.size+1,2,none⟩=some (.int .i64 _):=HQR.out _ HB1.out 2 _ rfl;have r3:w1.cell? ⟨w.heap.size+1,3,none⟩=some (.int .i64 _):=HQR.out _ HB1.out 3 _ rfl
  by_cases hx:x=1
  ·subst hx
   go_wp2_with fail;refine(KC.out _ HB1.out).mono ?_;rintro e w2 ⟨rfl,hb2⟩;have HB2:=k_ (HB1.out.trans (hb2.mono HB1.out.size));have HG2:=k_ (HC0.out.trans (HB2.out.mono HC0.out.size));clear hb2;clear p0 p1 p2 p3 p4 p5 p6 p7 p8 p9 p10 p11 p12;clear r0 r1 r2 r3;go_wp2_with fail
   go_ret
   exact⟨by rw[HRR.out];simp[*],HG2.out⟩
  ·have hx':(x == 1)=false:=by simpa using hx
   clear hx;clear p0 p1 p2 p3 p4 p5 p6 p7 p8 p9 p10 p11 p12;clear r0 r1 r2 r3;go_wp2_with fail
   go_ret
   exact⟨by rw[HRR.out];simp[*],HG1.out⟩
 have hrr:R=true:=by
  rw[← HR.out];unfold readsK
  dsimp only
  rw[if_neg (by omega),if_neg (by omega),if_neg (by omega),if_neg (by omega),if_neg (by omega),if_neg (by omega),if_neg (by omega),if_neg (by omega),if_neg (by omega),if_neg (by omega)]
 have n2:(op == 2)=false:=by simpa using h2
 have n3:(op == 3)=false:=by simpa using h3
 have n4:(op == 4)=false:=by simpa using h4
 have n5:(op == 5)=false:=by simpa using h5
 have n6:(op == 6)=false:=by simpa using h6
 have n7:(op == 7)=false:=by simpa using h7
 have n8:(op == 8)=false:=by simpa using h8
 have n10:(op == 10)=false:=by simpa using h10
 have n29:(op == 29)=false:=by simpa using h29
 have n12:(op == 12)=false:=by simpa using h12
 have n14:(op == 14)=false:=by simpa using h14
 have n19:(op == 19)=false:=by simpa using h19
 have n15:(op == 15)=false:=by simpa using h15
 have n20:(op == 20)=false:=by simpa using h20
 have n17:(op == 17)=false:=by simpa using h17
 have n21:(op == 21)=false:=by simpa using h21
 have n23:(op == 23)=false:=by simpa using h23
 have n24:(op == 24)=false:=by simpa using h24
 have n22:(op == 22)=false:=by simpa using h22
 have n25:(op == 25)=false:=by simpa using h25
 clear h2 h3 h4 h5 h6 h7 h8 h10 h29 h12 h14 h19 h15 h20 h17 h21 h23 h24 h22 h25 KD TH AR;have HRR:=k_ hrr;clear hrr HR;go_wp2_with fail
 go_ret
 exact⟨by rw[HRR.out];rfl,HC0.out⟩
end Go.Proofs.YtbkkhmafheimfaaGreatDoor
