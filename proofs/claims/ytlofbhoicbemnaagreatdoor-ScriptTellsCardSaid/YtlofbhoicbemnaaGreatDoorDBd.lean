/- Walks: of a program of three kinds of instructions alone: what a step of flow reads and sets. -/
import Derived.Test.YtlofbhoicbemnaaGreatDoorDBc
set_option linter.unusedVariables false
set_option linter.unusedSimpArgs false
set_option maxRecDepth 100000
set_option maxHeartbeats 6400000
namespace Go.Proofs.YtlofbhoicbemnaaGreatDoor
open Go.ChangeShapes Go.WideShapes Go.ChangeAt Go.RowKit
theorem readsF_z (w:World) (D:Nat→Prop) (p:Prg) (f:Fun) (K:List Int) (c0 c1 c2 d0 d3 d4 kv:Value) (i:Ins) (hv:StepV w D p f K c0 c1 c2 d0 d3 d4 kv) (hz:Zi i) :
  Calls Tryz.prog 227 #[.agg (stepC c0 c1 c2 d0 d3 d4 kv f.result f.slots i)] w fun e w'=>e=.returned (.bool (readsK p f.result i K))∧Below w.heap.size w w':=by
 obtain⟨op,a,b,c⟩:=i;have ho:=hz.op;have kd:=fun W h k=>kind_any W D p f K c0 c1 c2 d0 d3 d4 kv ⟨op,a,b,c⟩ h k
 try dsimp only at kd ⊢
 have hbx:=fun wr h=>box2 w (stepC c0 c1 c2 d0 d3 d4 kv f.result f.slots ⟨op,a,b,c⟩) #[.int .i64 op,.int .i64 a,.int .i64 b,.int .i64 c] 248 63 wr h
 have hz0:((w.alloc (.cells (stepC c0 c1 c2 d0 d3 d4 kv f.result f.slots ⟨op,a,b,c⟩) 248)).alloc (.cells #[.int .i64 op,.int .i64 a,.int .i64 b,.int .i64 c] 63)).heap.size=w.heap.size+2:=by simp
 obtain⟨W,hW⟩:∃ W,W=(w.alloc (.cells (stepC c0 c1 c2 d0 d3 d4 kv f.result f.slots ⟨op,a,b,c⟩) 248)).alloc (.cells #[.int .i64 op,.int .i64 a,.int .i64 b,.int .i64 c] 63):=⟨_,rfl⟩;rw[← hW] at hbx hz0;have hC0:Below w.heap.size w W:=(hbx W (by rw[← hz0];exact Below.refl _ _)).2.2.1;have q:∀ W',Below W.heap.size W W'→∀ j u,(stepC c0 c1 c2 d0 d3 d4 kv f.result f.slots ⟨op,a,b,c⟩)[j]?=some u→W'.cell? ⟨w.heap.size,j,none⟩=some u:=fun W' h=>(hbx W' (by rw[← hz0];exact h)).1
 have q2:∀ W',Below W.heap.size W W'→∀ j u,(#[.int .i64 op,.int .i64 a,.int .i64 b,.int .i64 c]:Array Value)[j]?=some u→W'.cell? ⟨w.heap.size+1,j,none⟩=some u:=fun W' h=>(hbx W' (by rw[← hz0];exact h)).2.1
 have HW:=k_ hW;clear hW hbx;have hvW:∀ W',Below W.heap.size W W'→StepV W' D p f K c0 c1 c2 d0 d3 d4 kv:=fun W' h=>hv.below (hC0.trans (h.mono hC0.size))
 obtain⟨o0,o1,o2,o3,o4,o5,o6⟩:=hv.one;have HQQ:=k_ q;have HQR:=k_ q2;clear q q2;have HC0:=k_ hC0;clear hC0;have HVW:=k_ hvW;clear hvW;have HZ0:=k_ hz0;clear hz0;have KD:=k_ fun W' (h:Below W.heap.size W W') k=>kd W' (HVW.out W' h) k
 clear kd hz;generalize hR:readsK p f.result ⟨op,a,b,c⟩ K=R at *;generalize f.slots=fs at *;generalize f.result=fr at *;have HR:=k_ hR;clear hR hv;unfold stepC at *
 go_enter Tryz.func227,Tryz.ntmps227
 go_upto_region 2 with fail
 rw[← HW.out];obtain⟨p0,p1,p2,p3,p4,p5,p6,p7⟩:=c_8 (HQQ.out _ (Below.refl _ _)) rfl rfl rfl rfl rfl rfl rfl rfl;have p8:W.cell? ⟨w.heap.size,8,none⟩=some (.int .i64 _):=HQQ.out _ (Below.refl _ _) 8 _ rfl;have p9:W.cell? ⟨w.heap.size,9,none⟩=some (.int .i64 _):=HQQ.out _ (Below.refl _ _) 9 _ rfl;have p10:W.cell? ⟨w.heap.size,10,none⟩=some (.int .i64 _):=HQQ.out _ (Below.refl _ _) 10 _ rfl;have p11:W.cell? ⟨w.heap.size,11,none⟩=some (.int .i64 _):=HQQ.out _ (Below.refl _ _) 11 _ rfl;have p12:W.cell? ⟨w.heap.size,12,none⟩=some _:=HQQ.out _ (Below.refl _ _) 12 _ rfl;have r0:W.cell? ⟨w.heap.size+1,0,none⟩=some (.int .i64 _):=HQR.out _ (Below.refl _ _) 0 _ rfl;have r1:W.cell? ⟨w.heap.size+1,1,none⟩=some (.int .i64 _):=HQR.out _ (Below.refl _ _) 1 _ rfl;have r2:W.cell? ⟨w.heap.size+1,2,none⟩=some (.int .i64 _):=HQR.out _ (Below.refl _ _) 2 _ rfl;have r3:W.cell? ⟨w.heap.size+1,3,none⟩=some (.int .i64 _):=HQR.out _ (Below.refl _ _) 3 _ rfl
 rcases ho with rfl | rfl | rfl
 ·have HRR:=k_ (show R=true from by rw[← HR.out];simp[readsK])
  clear HR KD;go_wp2_with fail
  go_ret
  exact⟨by rw[HRR.out];rfl,HC0.out⟩
 ·have hrr:R=(kindA K a == 1):=by rw[← HR.out];simp[readsK]
  have kb:=fun W' h=>KD.out W' h a
  generalize kindA K a=x at *;have KB:=k_ kb;have HRR:=k_ hrr;clear kb KD hrr HR;go_wp2_with fail;refine(KB.out _ (Below.refl _ _)).mono ?_;rintro e w1 ⟨rfl,hb1⟩;have HB1:=k_ ((Below.refl W.heap.size W).trans (hb1.mono (Below.refl W.heap.size W).size));have HG1:=k_ (HC0.out.trans (HB1.out.mono HC0.out.size));clear hb1;clear p0 p1 p2 p3 p4 p5 p6 p7 p8 p9 p10 p11 p12;clear r0 r1 r2 r3;go_wp2_with fail
  go_ret
  exact⟨by rw[HRR.out];rfl,HG1.out⟩
 ·have HRR:=k_ (show R=true from by rw[← HR.out];simp[readsK])
  clear HR KD;go_wp2_with fail
  go_ret
  exact⟨by rw[HRR.out];rfl,HC0.out⟩
theorem setsF_z (w:World) (D:Nat→Prop) (p:Prg) (f:Fun) (K:List Int) (c0 c1 c2 d0 d3 d4 kv:Value) (i:Ins) (hv:StepV w D p f K c0 c1 c2 d0 d3 d4 kv) (hz:Zi i) :
  Calls Tryz.prog 230 #[.agg (stepC c0 c1 c2 d0 d3 d4 kv f.result f.slots i)] w fun e w'=>e=.returned (.int .i64 (setsK p f i K))∧Below w.heap.size w w':=by
 obtain⟨op,a,b,c⟩:=i;have ho:=hz.op
 try dsimp only
 have hbx:=fun wr h=>box2 w (stepC c0 c1 c2 d0 d3 d4 kv f.result f.slots ⟨op,a,b,c⟩) #[.int .i64 op,.int .i64 a,.int .i64 b,.int .i64 c] 248 63 wr h
 have hz0:((w.alloc (.cells (stepC c0 c1 c2 d0 d3 d4 kv f.result f.slots ⟨op,a,b,c⟩) 248)).alloc (.cells #[.int .i64 op,.int .i64 a,.int .i64 b,.int .i64 c] 63)).heap.size=w.heap.size+2:=by simp
 obtain⟨W,hW⟩:∃ W,W=(w.alloc (.cells (stepC c0 c1 c2 d0 d3 d4 kv f.result f.slots ⟨op,a,b,c⟩) 248)).alloc (.cells #[.int .i64 op,.int .i64 a,.int .i64 b,.int .i64 c] 63):=⟨_,rfl⟩;rw[← hW] at hbx hz0;have hC0:Below w.heap.size w W:=(hbx W (by rw[← hz0];exact Below.refl _ _)).2.2.1;have q:∀ W',Below W.heap.size W W'→∀ j u,(stepC c0 c1 c2 d0 d3 d4 kv f.result f.slots ⟨op,a,b,c⟩)[j]?=some u→W'.cell? ⟨w.heap.size,j,none⟩=some u:=fun W' h=>(hbx W' (by rw[← hz0];exact h)).1
 have q2:∀ W',Below W.heap.size W W'→∀ j u,(#[.int .i64 op,.int .i64 a,.int .i64 b,.int .i64 c]:Array Value)[j]?=some u→W'.cell? ⟨w.heap.size+1,j,none⟩=some u:=fun W' h=>(hbx W' (by rw[← hz0];exact h)).2.1
 have HW:=k_ hW;clear hW hbx;have hvW:∀ W',Below W.heap.size W W'→StepV W' D p f K c0 c1 c2 d0 d3 d4 kv:=fun W' h=>hv.below (hC0.trans (h.mono hC0.size))
 obtain⟨o0,o1,o2,o3,o4,o5,o6⟩:=hv.one;have HQQ:=k_ q;have HQR:=k_ q2;clear q q2;have HC0:=k_ hC0;clear hC0;have HVW:=k_ hvW;clear hvW;have HZ0:=k_ hz0;clear hz0;clear hz;have hrr:setsK p f ⟨op,a,b,c⟩ K=1:=by rcases ho with rfl | rfl | rfl <;> simp[setsK]
 rw[hrr];generalize f.slots=fs at *;generalize f.result=fr at *;clear hv hrr;unfold stepC at *
 go_enter Tryz.func230,Tryz.ntmps230
 go_upto_region 2 with fail
 rw[← HW.out];obtain⟨p0,p1,p2,p3,p4,p5,p6,p7⟩:=c_8 (HQQ.out _ (Below.refl _ _)) rfl rfl rfl rfl rfl rfl rfl rfl;have p8:W.cell? ⟨w.heap.size,8,none⟩=some (.int .i64 _):=HQQ.out _ (Below.refl _ _) 8 _ rfl;have p9:W.cell? ⟨w.heap.size,9,none⟩=some (.int .i64 _):=HQQ.out _ (Below.refl _ _) 9 _ rfl;have p10:W.cell? ⟨w.heap.size,10,none⟩=some (.int .i64 _):=HQQ.out _ (Below.refl _ _) 10 _ rfl;have p11:W.cell? ⟨w.heap.size,11,none⟩=some (.int .i64 _):=HQQ.out _ (Below.refl _ _) 11 _ rfl;have p12:W.cell? ⟨w.heap.size,12,none⟩=some _:=HQQ.out _ (Below.refl _ _) 12 _ rfl;have r0:W.cell? ⟨w.heap.size+1,0,none⟩=some (.int .i64 _):=HQR.out _ (Below.refl _ _) 0 _ rfl;have r1:W.cell? ⟨w.heap.size+1,1,none⟩=some (.int .i64 _):=HQR.out _ (Below.refl _ _) 1 _ rfl;have r2:W.cell? ⟨w.heap.size+1,2,none⟩=some (.int .i64 _):=HQR.out _ (Below.refl _ _) 2 _ rfl;have r3:W.cell? ⟨w.heap.size+1,3,none⟩=some (.int .i64 _):=HQR.out _ (Below.refl _ _) 3 _ rfl
 rcases ho with rfl | rfl | rfl
 all_goals
  go_wp2_with fail
  go_ret
  exact⟨rfl,HC0.out⟩
end Go.Proofs.YtlofbhoicbemnaaGreatDoor
