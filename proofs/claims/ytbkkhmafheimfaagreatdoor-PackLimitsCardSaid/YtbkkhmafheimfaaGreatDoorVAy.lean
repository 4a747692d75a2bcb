/- Walks: a step of flow: the kind of a slot, of a field; the function that is called. -/
import Derived.Test.YtbkkhmafheimfaaGreatDoorVAx
set_option linter.unusedVariables false
set_option linter.unusedSimpArgs false
set_option maxRecDepth 100000
set_option maxHeartbeats 1600000
namespace Go.Proofs.YtbkkhmafheimfaaGreatDoor
open Go.ChangeShapes Go.WideShapes Go.ChangeAt Go.RowKit
def stepC (c0 c1 c2 d0 d3 d4 kv:Value) (r s:Int) (i:Ins):Array Value:=#[c0,c1,c2,d0,.int .i64 r,.int .i64 s,d3,d4,.int .i64 i.op,.int .i64 i.a,.int .i64 i.b,.int .i64 i.c,kv]
structure StepV (w:World) (D:Nat→Prop) (p:Prg) (f:Fun) (K:List Int) (c0 c1 c2 d0 d3 d4 kv:Value):Prop where
 prg:PrgVal w D p c0 c1 c2
 fn:FunVal w D f d0 (.int .i64 f.result) (.int .i64 f.slots) d3 d4
 ks:∃ a c,kv=.slice a K.length c∧IntSl w D a K
 dom:∀ k,D k→k<w.heap.size
theorem StepV.below {w w':World} {D:Nat→Prop} {p:Prg} {f:Fun} {K:List Int} {c0 c1 c2 d0 d3 d4 kv:Value} (h:StepV w D p f K c0 c1 c2 d0 d3 d4 kv) (hb:Below w.heap.size w w'):StepV w' D p f K c0 c1 c2 d0 d3 d4 kv:=by
 obtain⟨h1,h2,⟨a,c,h3,h4⟩,h5⟩:=h;have hf:=Fr.of_below hb (fun _=>False);exact⟨h1.fr hf (fun _ _ h=>h),h2.fr hf (fun _ _ h=>h),⟨a,c,h3,h4.fr hf (fun _ _ h=>h)⟩,fun k hk=>Nat.lt_of_lt_of_le (h5 k hk) hb.size⟩
theorem StepV.one {w:World} {D:Nat→Prop} {p:Prg} {f:Fun} {K:List Int} {c0 c1 c2 d0 d3 d4 kv:Value} (h:StepV w D p f K c0 c1 c2 d0 d3 d4 kv):c0.oneCell'=true∧c1.oneCell'=true∧c2.oneCell'=true∧d0.oneCell'=true∧d3.oneCell'=true∧d4.oneCell'=true∧kv.oneCell'=true:=by
 obtain⟨⟨⟨_,_,rfl,_⟩,⟨_,_,rfl,_⟩,_,_,rfl,_⟩,⟨_,_,⟨_,_,rfl,_⟩,⟨_,_,rfl,_⟩,_,_,rfl,_⟩,⟨_,_,rfl,_⟩,_⟩:=h;exact⟨rfl,rfl,rfl,rfl,rfl,rfl,rfl⟩
theorem kindA_in {K:List Int} (j:Nat) (h:j<K.length):kindA K j=K[j]:=by
 rw[kindA_get K j (by omega)]
 simp[h]
theorem kind_any (w:World) (D:Nat→Prop) (p:Prg) (f:Fun) (K:List Int) (c0 c1 c2 d0 d3 d4 kv:Value) (i:Ins) (hv:StepV w D p f K c0 c1 c2 d0 d3 d4 kv) (k:Int) :
  Calls Tryz.prog 241 #[.agg (stepC c0 c1 c2 d0 d3 d4 kv f.result f.slots i),.int .i64 k] w fun e w'=>e=.returned (.int .i64 (kindA K k))∧Below w.heap.size w w':=by
 obtain⟨op,a,b,c⟩:=i;have hC0:=(Below.refl w.heap.size w).alloc (Nat.le_refl _) (.cells (stepC c0 c1 c2 d0 d3 d4 kv f.result f.slots ⟨op,a,b,c⟩) 197);have hbx:=box1 w (stepC c0 c1 c2 d0 d3 d4 kv f.result f.slots ⟨op,a,b,c⟩) 197 _ (Below.refl _ _);have hz0:(w.alloc (.cells (stepC c0 c1 c2 d0 d3 d4 kv f.result f.slots ⟨op,a,b,c⟩) 197)).heap.size=w.heap.size+1:=by simp
 obtain⟨W,hW⟩:∃ W,W=w.alloc (.cells (stepC c0 c1 c2 d0 d3 d4 kv f.result f.slots ⟨op,a,b,c⟩) 197):=⟨_,rfl⟩;rw[← hW] at hC0 hbx hz0;have q:∀ W',Below W.heap.size W W'→∀ j u,(stepC c0 c1 c2 d0 d3 d4 kv f.result f.slots ⟨op,a,b,c⟩)[j]?=some u→W'.cell? ⟨w.heap.size,j,none⟩=some u:=fun W' h j u hj=>below_cell h (hbx.1 j u hj)
 clear hbx;have HW:=k_ hW;clear hW;have hvW:∀ W',Below W.heap.size W W'→StepV W' D p f K c0 c1 c2 d0 d3 d4 kv:=fun W' h=>hv.below (hC0.trans (h.mono hC0.size))
 obtain⟨o0,o1,o2,o3,o4,o5,o6⟩:=hv.one;have HQQ:=k_ q;clear q;have HC0:=k_ hC0;clear hC0;have HVW:=k_ hvW;clear hvW;have HZ0:=k_ hz0;clear hz0;obtain⟨ka,kc,hkv,hks⟩:=(HVW.out W (Below.refl _ _)).ks;clear hv
 by_cases h0:k<0
 ·have e0:kindA K k=0:=by unfold kindA;rw[if_neg (by omega)]
  rw[e0];clear hks;subst hkv;generalize f.result=fr at *;generalize f.slots=fs at *;generalize K.length=n at *;unfold stepC at *
  go_enter Tryz.func241,Tryz.ntmps241
  go_upto_region 1 with fail
  rw[← HW.out];have p0:W.cell? ⟨w.heap.size,0,none⟩=some _:=HQQ.out _ (Below.refl _ _) 0 _ rfl;have p1:W.cell? ⟨w.heap.size,1,none⟩=some _:=HQQ.out _ (Below.refl _ _) 1 _ rfl;have p2:W.cell? ⟨w.heap.size,2,none⟩=some _:=HQQ.out _ (Below.refl _ _) 2 _ rfl;have p3:W.cell? ⟨w.heap.size,3,none⟩=some _:=HQQ.out _ (Below.refl _ _) 3 _ rfl;have p4:W.cell? ⟨w.heap.size,4,none⟩=some _:=HQQ.out _ (Below.refl _ _) 4 _ rfl;have p5:W.cell? ⟨w.heap.size,5,none⟩=some _:=HQQ.out _ (Below.refl _ _) 5 _ rfl;have p6:W.cell? ⟨w.heap.size,6,none⟩=some _:=HQQ.out _ (Below.refl _ _) 6 _ rfl;have p7:W.cell? ⟨w.heap.size,7,none⟩=some _:=HQQ.out _ (Below.refl _ _) 7 _ rfl;have p8:W.cell? ⟨w.heap.size,8,none⟩=some (.int .i64 _):=HQQ.out _ (Below.refl _ _) 8 _ rfl;have p9:W.cell? ⟨w.heap.size,9,none⟩=some (.int .i64 _):=HQQ.out _ (Below.refl _ _) 9 _ rfl;have p10:W.cell? ⟨w.heap.size,10,none⟩=some (.int .i64 _):=HQQ.out _ (Below.refl _ _) 10 _ rfl;have p11:W.cell? ⟨w.heap.size,11,none⟩=some (.int .i64 _):=HQQ.out _ (Below.refl _ _) 11 _ rfl;have p12:W.cell? ⟨w.heap.size,12,none⟩=some _:=HQQ.out _ (Below.refl _ _) 12 _ rfl;go_wp2_with fail
  go_ret
  exact⟨rfl,HC0.out⟩
 ·obtain⟨j,rfl⟩:∃ j:Nat,k=j:=⟨k.toNat,by omega⟩
  by_cases hj:j<K.length
  ·rw[kindA_in j hj]
   obtain⟨kb,ko,rfl,_,hx⟩:=hks j hj;subst hkv;have hlt:(j:Int)<(K.length:Int):=by omega
   generalize K[j]=x at *;generalize K.length=n at *;generalize f.result=fr at *;generalize f.slots=fs at *;clear hks;unfold stepC at *
   go_enter Tryz.func241,Tryz.ntmps241
   go_upto_region 1 with fail
   rw[← HW.out];have p0:W.cell? ⟨w.heap.size,0,none⟩=some _:=HQQ.out _ (Below.refl _ _) 0 _ rfl;have p1:W.cell? ⟨w.heap.size,1,none⟩=some _:=HQQ.out _ (Below.refl _ _) 1 _ rfl;have p2:W.cell? ⟨w.heap.size,2,none⟩=some _:=HQQ.out _ (Below.refl _ _) 2 _ rfl;have p3:W.cell? ⟨w.heap.size,3,none⟩=some _:=HQQ.out _ (Below.refl _ _) 3 _ rfl;have p4:W.cell? ⟨w.heap.size,4,none⟩=some _:=HQQ.out _ (Below.refl _ _) 4 _ rfl;have p5:W.cell? ⟨w.heap.size,5,none⟩=some _:=HQQ.out _ (Below.refl _ _) 5 _ rfl;have p6:W.cell? ⟨w.heap.size,6,none⟩=some _:=HQQ.out _ (Below.refl _ _) 6 _ rfl;have p7:W.cell? ⟨w.heap.size,7,none⟩=some _:=HQQ.out _ (Below.refl _ _) 7 _ rfl;have p8:W.cell? ⟨w.heap.size,8,none⟩=some (.int .i64 _):=HQQ.out _ (Below.refl _ _) 8 _ rfl;have p9:W.cell? ⟨w.heap.size,9,none⟩=some (.int .i64 _):=HQQ.out _ (Below.refl _ _) 9 _ rfl;have p10:W.cell? ⟨w.heap.size,10,none⟩=some (.int .i64 _):=HQQ.out _ (Below.refl _ _) 10 _ rfl;have p11:W.cell? ⟨w.heap.size,11,none⟩=some (.int .i64 _):=HQQ.out _ (Below.refl _ _) 11 _ rfl;have p12:W.cell? ⟨w.heap.size,12,none⟩=some _:=HQQ.out _ (Below.refl _ _) 12 _ rfl;go_wp2_with fail
   go_ret
   exact⟨rfl,HC0.out⟩
  ·have e0:kindA K (j:Int)=0:=by unfold kindA;rw[if_neg (by omega)]
   rw[e0];have hlt:(K.length:Int)≤(j:Int):=by omega
   clear hks;subst hkv;generalize K.length=n at *;generalize f.result=fr at *;generalize f.slots=fs at *;unfold stepC at *
   go_enter Tryz.func241,Tryz.ntmps241
   go_upto_region 1 with fail
   rw[← HW.out];have p0:W.cell? ⟨w.heap.size,0,none⟩=some _:=HQQ.out _ (Below.refl _ _) 0 _ rfl;have p1:W.cell? ⟨w.heap.size,1,none⟩=some _:=HQQ.out _ (Below.refl _ _) 1 _ rfl;have p2:W.cell? ⟨w.heap.size,2,none⟩=some _:=HQQ.out _ (Below.refl _ _) 2 _ rfl;have p3:W.cell? ⟨w.heap.size,3,none⟩=some _:=HQQ.out _ (Below.refl _ _) 3 _ rfl;have p4:W.cell? ⟨w.heap.size,4,none⟩=some _:=HQQ.out _ (Below.refl _ _) 4 _ rfl;have p5:W.cell? ⟨w.heap.size,5,none⟩=some _:=HQQ.out _ (Below.refl _ _) 5 _ rfl;have p6:W.cell? ⟨w.heap.size,6,none⟩=some _:=HQQ.out _ (Below.refl _ _) 6 _ rfl;have p7:W.cell? ⟨w.heap.size,7,none⟩=some _:=HQQ.out _ (Below.refl _ _) 7 _ rfl;have p8:W.cell? ⟨w.heap.size,8,none⟩=some (.int .i64 _):=HQQ.out _ (Below.refl _ _) 8 _ rfl;have p9:W.cell? ⟨w.heap.size,9,none⟩=some (.int .i64 _):=HQQ.out _ (Below.refl _ _) 9 _ rfl;have p10:W.cell? ⟨w.heap.size,10,none⟩=some (.int .i64 _):=HQQ.out _ (Below.refl _ _) 10 _ rfl;have p11:W.cell? ⟨w.heap.size,11,none⟩=some (.int .i64 _):=HQQ.out _ (Below.refl _ _) 11 _ rfl;have p12:W.cell? ⟨w.heap.size,12,none⟩=some _:=HQQ.out _ (Below.refl _ _) 12 _ rfl;go_wp2_with fail
   go_ret
   exact⟨rfl,HC0.out⟩
theorem pointsX_any (w:World) (x:Int) :
  Calls Tryz.prog 231 #[.int .i64 x] w fun e w'=>e=.returned (.tuple #[.int .i64 (if isPtrB x then x - 16 else 0),.bool (isPtrB x)])∧w=w':=by
 unfold isPtrB
 by_cases h:x<16
 ·have h1:decide (16≤x)=false:=by simpa using h
  rw[h1,Bool.false_and];clear h1
  go_enter Tryz.func231,Tryz.ntmps231
  go_wp2_with fail
  go_ret2
  exact⟨rfl,rfl⟩
 ·have h1:decide (16≤x)=true:=by simpa using h
  rw[h1,Bool.true_and];clear h1
  by_cases h2:32≤x
  ·have h3:decide (x<32)=false:=by simpa using h2
   rw[h3];clear h3
   go_enter Tryz.func231,Tryz.ntmps231
   go_wp2_with fail
   go_ret2
   exact⟨rfl,rfl⟩
  ·have h3:decide (x<32)=true:=by simpa using h2
   rw[h3];clear h3;have i1:IntKind.i64.wrap (x - 16)=x - 16:=IntWalk.i64_in _ (by omega)
   go_enter Tryz.func231,Tryz.ntmps231
   go_wp2_with fail
   go_ret2
   exact⟨rfl,rfl⟩
theorem placesX_any (w:World) (x:Int) :
  Calls Tryz.prog 203 #[.int .i64 x] w fun e w'=>e=.returned (.tuple #[.int .i64 (if isLocB x then x - 64 else 0),.bool (isLocB x)])∧w=w':=by
 unfold isLocB
 by_cases h:x<64
 ·have h1:decide (64≤x)=false:=by simpa using h
  rw[h1,Bool.false_and];clear h1
  go_enter Tryz.func203,Tryz.ntmps203
  go_wp2_with fail
  go_ret2
  exact⟨rfl,rfl⟩
 ·have h1:decide (64≤x)=true:=by simpa using h
  rw[h1,Bool.true_and];clear h1
  by_cases h2:80≤x
  ·have h3:decide (x<80)=false:=by simpa using h2
   rw[h3];clear h3
   go_enter Tryz.func203,Tryz.ntmps203
   go_wp2_with fail
   go_ret2
   exact⟨rfl,rfl⟩
  ·have h3:decide (x<80)=true:=by simpa using h2
   rw[h3];clear h3;have i1:IntKind.i64.wrap (x - 64)=x - 64:=IntWalk.i64_in _ (by omega)
   go_enter Tryz.func203,Tryz.ntmps203
   go_wp2_with fail
   go_ret2
   exact⟨rfl,rfl⟩
theorem fpoints_any (w:World) (x:Int) :
  Calls Tryz.prog 242 #[.int .i64 x] w fun e w'=>e=.returned (.bool (isPtrB x))∧w=w':=by
 have pl:=pointsX_any w x;generalize (if isPtrB x then x - 16 else 0)=y at *;generalize isPtrB x=z at *;have PL:=k_ pl;clear pl
 go_enter Tryz.func242,Tryz.ntmps242
 go_wp2_with fail;refine PL.out.mono ?_;rintro e w' ⟨rfl,rfl⟩;go_wp2_with fail
 go_ret
 exact⟨rfl,rfl⟩
theorem fieldF_any (w:World) (D:Nat→Prop) (p:Prg) (f:Fun) (K:List Int) (c0 c1 c2 d0 d3 d4 kv:Value) (i:Ins) (hv:StepV w D p f K c0 c1 c2 d0 d3 d4 kv) (of k:Int) (hof:0≤of) :
  Calls Tryz.prog 297 #[.agg (stepC c0 c1 c2 d0 d3 d4 kv f.result f.slots i),.int .i64 of,.int .i64 k] w fun e w'=>e=.returned (.int .i64 (fieldA p of k))∧Below w.heap.size w w':=by
 obtain⟨op,a,b,c⟩:=i;obtain⟨j,rfl⟩:∃ j:Nat,of=j:=⟨of.toNat,by omega⟩;have hC0:=(Below.refl w.heap.size w).alloc (Nat.le_refl _) (.cells (stepC c0 c1 c2 d0 d3 d4 kv f.result f.slots ⟨op,a,b,c⟩) 197);have hbx:=box1 w (stepC c0 c1 c2 d0 d3 d4 kv f.result f.slots ⟨op,a,b,c⟩) 197 _ (Below.refl _ _);have hz0:(w.alloc (.cells (stepC c0 c1 c2 d0 d3 d4 kv f.result f.slots ⟨op,a,b,c⟩) 197)).heap.size=w.heap.size+1:=by simp
 obtain⟨W,hW⟩:∃ W,W=w.alloc (.cells (stepC c0 c1 c2 d0 d3 d4 kv f.result f.slots ⟨op,a,b,c⟩) 197):=⟨_,rfl⟩;rw[← hW] at hC0 hbx hz0;have q:∀ W',Below W.heap.size W W'→∀ j u,(stepC c0 c1 c2 d0 d3 d4 kv f.result f.slots ⟨op,a,b,c⟩)[j]?=some u→W'.cell? ⟨w.heap.size,j,none⟩=some u:=fun W' h j u hj=>below_cell h (hbx.1 j u hj)
 clear hbx;have HW:=k_ hW;clear hW;have hvW:∀ W',Below W.heap.size W W'→StepV W' D p f K c0 c1 c2 d0 d3 d4 kv:=fun W' h=>hv.below (hC0.trans (h.mono hC0.size))
 obtain⟨o0,o1,o2,o3,o4,o5,o6⟩:=hv.one;have HQQ:=k_ q;clear q;have HC0:=k_ hC0;clear hC0;have HVW:=k_ hvW;clear hvW;have HZ0:=k_ hz0;clear hz0;obtain⟨_,⟨s0,s1,hc1,hsh⟩,_⟩:=(HVW.out W (Below.refl _ _)).prg;clear hv;generalize f.result=fr at *;generalize f.slots=fs at *;subst hc1
 by_cases hj:p.shapes.length≤j
 ·have e0:fieldA p (j:Int) k=0:=by unfold fieldA;rw[if_neg (by omega)]
  rw[e0];have hlt:(p.shapes.length:Int)≤(j:Int):=by omega
  clear hsh;generalize p.shapes.length=n at *;unfold stepC at *
  go_enter Tryz.func297,Tryz.ntmps297
  go_upto_region 1 with fail
  rw[← HW.out];have p0:W.cell? ⟨w.heap.size,0,none⟩=some _:=HQQ.out _ (Below.refl _ _) 0 _ rfl;have p1:W.cell? ⟨w.heap.size,1,none⟩=some _:=HQQ.out _ (Below.refl _ _) 1 _ rfl;have p2:W.cell? ⟨w.heap.size,2,none⟩=some _:=HQQ.out _ (Below.refl _ _) 2 _ rfl;have p3:W.cell? ⟨w.heap.size,3,none⟩=some _:=HQQ.out _ (Below.refl _ _) 3 _ rfl;have p4:W.cell? ⟨w.heap.size,4,none⟩=some _:=HQQ.out _ (Below.refl _ _) 4 _ rfl;have p5:W.cell? ⟨w.heap.size,5,none⟩=some _:=HQQ.out _ (Below.refl _ _) 5 _ rfl;have p6:W.cell? ⟨w.heap.size,6,none⟩=some _:=HQQ.out _ (Below.refl _ _) 6 _ rfl;have p7:W.cell? ⟨w.heap.size,7,none⟩=some _:=HQQ.out _ (Below.refl _ _) 7 _ rfl;have p8:W.cell? ⟨w.heap.size,8,none⟩=some (.int .i64 _):=HQQ.out _ (Below.refl _ _) 8 _ rfl;have p9:W.cell? ⟨w.heap.size,9,none⟩=some (.int .i64 _):=HQQ.out _ (Below.refl _ _) 9 _ rfl;have p10:W.cell? ⟨w.heap.size,10,none⟩=some (.int .i64 _):=HQQ.out _ (Below.refl _ _) 10 _ rfl;have p11:W.cell? ⟨w.heap.size,11,none⟩=some (.int .i64 _):=HQQ.out _ (Below.refl _ _) 11 _ rfl;have p12:W.cell? ⟨w.heap.size,12,none⟩=some _:=HQQ.out _ (Below.refl _ _) 12 _ rfl;go_wp2_with fail
  go_ret
  exact⟨rfl,HC0.out⟩
 obtain⟨sb,so,rfl,_,a',c',hx,hy⟩:=hsh j (by omega);have hlt:(j:Int)<(p.shapes.length:Int):=by omega
 by_cases h0:k<0
 ·have e0:fieldA p (j:Int) k=0:=by unfold fieldA;rw[if_neg (by omega)]
  rw[e0];clear hy hsh hx;generalize p.shapes.length=n at *;unfold stepC at *
  go_enter Tryz.func297,Tryz.ntmps297
  go_upto_region 1 with fail
  rw[← HW.out];have p0:W.cell? ⟨w.heap.size,0,none⟩=some _:=HQQ.out _ (Below.refl _ _) 0 _ rfl;have p1:W.cell? ⟨w.heap.size,1,none⟩=some _:=HQQ.out _ (Below.refl _ _) 1 _ rfl;have p2:W.cell? ⟨w.heap.size,2,none⟩=some _:=HQQ.out _ (Below.refl _ _) 2 _ rfl;have p3:W.cell? ⟨w.heap.size,3,none⟩=some _:=HQQ.out _ (Below.refl _ _) 3 _ rfl;have p4:W.cell? ⟨w.heap.size,4,none⟩=some _:=HQQ.out _ (Below.refl _ _) 4 _ rfl;have p5:W.cell? ⟨w.heap.size,5,none⟩=some _:=HQQ.out _ (Below.refl _ _) 5 _ rfl;have p6:W.cell? ⟨w.heap.size,6,none⟩=some _:=HQQ.out _ (Below.refl _ _) 6 _ rfl;have p7:W.cell? ⟨w.heap.size,7,none⟩=some _:=HQQ.out _ (Below.refl _ _) 7 _ rfl;have p8:W.cell? ⟨w.heap.size,8,none⟩=some (.int .i64 _):=HQQ.out _ (Below.refl _ _) 8 _ rfl;have p9:W.cell? ⟨w.heap.size,9,none⟩=some (.int .i64 _):=HQQ.out _ (Below.refl _ _) 9 _ rfl;have p10:W.cell? ⟨w.heap.size,10,none⟩=some (.int .i64 _):=HQQ.out _ (Below.refl _ _) 10 _ rfl;have p11:W.cell? ⟨w.heap.size,11,none⟩=some (.int .i64 _):=HQQ.out _ (Below.refl _ _) 11 _ rfl;have p12:W.cell? ⟨w.heap.size,12,none⟩=some _:=HQQ.out _ (Below.refl _ _) 12 _ rfl;go_wp2_with fail
  go_ret
  exact⟨rfl,HC0.out⟩
 obtain⟨m,rfl⟩:∃ m:Nat,k=m:=⟨k.toNat,by omega⟩;have hL:(p.shapes[(j:Int).toNat]?).getD []=p.shapes[j]:=by simp[show j<p.shapes.length by omega]
 obtain⟨S,hS⟩:∃ S,S=p.shapes[j]:=⟨_,rfl⟩;rw[← hS] at hL hx hy;clear hS
 by_cases hm:m<S.length
 ·have e0:fieldA p (j:Int) (m:Int)=S[m]:=by
   unfold fieldA;rw[hL,if_pos ⟨by omega,by omega,by omega⟩]
   simp[hm]
  rw[e0];obtain⟨mb,mo,rfl,_,hz⟩:=hy m hm;have hlt2:(m:Int)<(S.length:Int):=by omega
  clear hL hy hsh e0;generalize S[m]=x at *;clear hm;generalize S.length=n2 at *;generalize p.shapes.length=n at *;unfold stepC at *
  go_enter Tryz.func297,Tryz.ntmps297
  go_upto_region 1 with fail
  rw[← HW.out];have p0:W.cell? ⟨w.heap.size,0,none⟩=some _:=HQQ.out _ (Below.refl _ _) 0 _ rfl;have p1:W.cell? ⟨w.heap.size,1,none⟩=some _:=HQQ.out _ (Below.refl _ _) 1 _ rfl;have p2:W.cell? ⟨w.heap.size,2,none⟩=some _:=HQQ.out _ (Below.refl _ _) 2 _ rfl;have p3:W.cell? ⟨w.heap.size,3,none⟩=some _:=HQQ.out _ (Below.refl _ _) 3 _ rfl;have p4:W.cell? ⟨w.heap.size,4,none⟩=some _:=HQQ.out _ (Below.refl _ _) 4 _ rfl;have p5:W.cell? ⟨w.heap.size,5,none⟩=some _:=HQQ.out _ (Below.refl _ _) 5 _ rfl;have p6:W.cell? ⟨w.heap.size,6,none⟩=some _:=HQQ.out _ (Below.refl _ _) 6 _ rfl;have p7:W.cell? ⟨w.heap.size,7,none⟩=some _:=HQQ.out _ (Below.refl _ _) 7 _ rfl;have p8:W.cell? ⟨w.heap.size,8,none⟩=some (.int .i64 _):=HQQ.out _ (Below.refl _ _) 8 _ rfl;have p9:W.cell? ⟨w.heap.size,9,none⟩=some (.int .i64 _):=HQQ.out _ (Below.refl _ _) 9 _ rfl;have p10:W.cell? ⟨w.heap.size,10,none⟩=some (.int .i64 _):=HQQ.out _ (Below.refl _ _) 10 _ rfl;have p11:W.cell? ⟨w.heap.size,11,none⟩=some (.int .i64 _):=HQQ.out _ (Below.refl _ _) 11 _ rfl;have p12:W.cell? ⟨w.heap.size,12,none⟩=some _:=HQQ.out _ (Below.refl _ _) 12 _ rfl;go_wp2_with fail
  go_ret
  exact⟨rfl,HC0.out⟩
 ·have e0:fieldA p (j:Int) (m:Int)=0:=by
   unfold fieldA;rw[hL,if_neg (by omega)]
  rw[e0];have hlt2:(S.length:Int)≤(m:Int):=by omega
  clear hL hy hsh e0 hm;generalize S.length=n2 at *;generalize p.shapes.length=n at *;unfold stepC at *
  go_enter Tryz.func297,Tryz.ntmps297
  go_upto_region 1 with fail
  rw[← HW.out];have p0:W.cell? ⟨w.heap.size,0,none⟩=some _:=HQQ.out _ (Below.refl _ _) 0 _ rfl;have p1:W.cell? ⟨w.heap.size,1,none⟩=some _:=HQQ.out _ (Below.refl _ _) 1 _ rfl;have p2:W.cell? ⟨w.heap.size,2,none⟩=some _:=HQQ.out _ (Below.refl _ _) 2 _ rfl;have p3:W.cell? ⟨w.heap.size,3,none⟩=some _:=HQQ.out _ (Below.refl _ _) 3 _ rfl;have p4:W.cell? ⟨w.heap.size,4,none⟩=some _:=HQQ.out _ (Below.refl _ _) 4 _ rfl;have p5:W.cell? ⟨w.heap.size,5,none⟩=some _:=HQQ.out _ (Below.refl _ _) 5 _ rfl;have p6:W.cell? ⟨w.heap.size,6,none⟩=some _:=HQQ.out _ (Below.refl _ _) 6 _ rfl;have p7:W.cell? ⟨w.heap.size,7,none⟩=some _:=HQQ.out _ (Below.refl _ _) 7 _ rfl;have p8:W.cell? ⟨w.heap.size,8,none⟩=some (.int .i64 _):=HQQ.out _ (Below.refl _ _) 8 _ rfl;have p9:W.cell? ⟨w.heap.size,9,none⟩=some (.int .i64 _):=HQQ.out _ (Below.refl _ _) 9 _ rfl;have p10:W.cell? ⟨w.heap.size,10,none⟩=some (.int .i64 _):=HQQ.out _ (Below.refl _ _) 10 _ rfl;have p11:W.cell? ⟨w.heap.size,11,none⟩=some (.int .i64 _):=HQQ.out _ (Below.refl _ _) 11 _ rfl;have p12:W.cell? ⟨w.heap.size,12,none⟩=some _:=HQQ.out _ (Below.refl _ _) 12 _ rfl;go_wp2_with fail
  go_ret
  exact⟨rfl,HC0.out⟩
theorem fld_args (a:Option Addr) (n c:Nat) (r s:Int) (x y:Value) (w:World):(Instr.field 36 (.agg #[.slice a n c,.int .i64 r,.int .i64 s,x,y]) 0).run Tryz.prog w=.ok (.slice a n c) w:=by kernel_rfl
theorem fld_result (v:Value) (r s:Int) (x y:Value) (w:World):(Instr.field 36 (.agg #[v,.int .i64 r,.int .i64 s,x,y]) 1).run Tryz.prog w=.ok (.int .i64 r) w:=by kernel_rfl
def FunPost (g:Fun) (D:Nat→Prop) (w:World) (e:Ending) (w':World):Prop :=
 ∃ d0 d3 d4,e=.returned (.agg #[d0,.int .i64 g.result,.int .i64 g.slots,d3,d4])∧FunVal w' D g d0 (.int .i64 g.result) (.int .i64 g.slots) d3 d4∧Below w.heap.size w w'
theorem funPost {g:Fun} {D:Nat→Prop} {w w':World} {d0 d3 d4:Value} (h:FunVal w' D g d0 (.int .i64 g.result) (.int .i64 g.slots) d3 d4) (hb:Below w.heap.size w w'):FunPost g D w (.returned (.agg #[d0,.int .i64 g.result,.int .i64 g.slots,d3,d4])) w':=⟨_,_,_,rfl,h,hb⟩
theorem calleeF_any (w:World) (D:Nat→Prop) (p:Prg) (f:Fun) (K:List Int) (c0 c1 c2 d0 d3 d4 kv:Value) (i:Ins) (hv:StepV w D p f K c0 c1 c2 d0 d3 d4 kv) (hb:0≤i.b∧i.b<p.funcs.length) :
  Calls Tryz.prog 174 #[.agg (stepC c0 c1 c2 d0 d3 d4 kv f.result f.slots i)] w (FunPost (calleeR p i.b) D w):=by
 obtain⟨op,a,b,c⟩:=i
 dsimp only at hb ⊢
 have hC0:=(Below.refl w.heap.size w).alloc (Nat.le_refl _) (.cells (stepC c0 c1 c2 d0 d3 d4 kv f.result f.slots ⟨op,a,b,c⟩) 197);have hbx:=box1 w (stepC c0 c1 c2 d0 d3 d4 kv f.result f.slots ⟨op,a,b,c⟩) 197 _ (Below.refl _ _);have hz0:(w.alloc (.cells (stepC c0 c1 c2 d0 d3 d4 kv f.result f.slots ⟨op,a,b,c⟩) 197)).heap.size=w.heap.size+1:=by simp
 obtain⟨W,hW⟩:∃ W,W=w.alloc (.cells (stepC c0 c1 c2 d0 d3 d4 kv f.result f.slots ⟨op,a,b,c⟩) 197):=⟨_,rfl⟩;rw[← hW] at hC0 hbx hz0;have q:∀ W',Below W.heap.size W W'→∀ j u,(stepC c0 c1 c2 d0 d3 d4 kv f.result f.slots ⟨op,a,b,c⟩)[j]?=some u→W'.cell? ⟨w.heap.size,j,none⟩=some u:=fun W' h j u hj=>below_cell h (hbx.1 j u hj)
 clear hbx;have HW:=k_ hW;clear hW;have hvW:∀ W',Below W.heap.size W W'→StepV W' D p f K c0 c1 c2 d0 d3 d4 kv:=fun W' h=>hv.below (hC0.trans (h.mono hC0.size))
 obtain⟨o0,o1,o2,o3,o4,o5,o6⟩:=hv.one;have HQQ:=k_ q;clear q;have HC0:=k_ hC0;clear hC0;have HVW:=k_ hvW;clear hvW;have HZ0:=k_ hz0;clear hz0;obtain⟨j,rfl⟩:∃ j:Nat,b=j:=⟨b.toNat,by omega⟩;have hj:j<p.funcs.length:=by omega
 have hg:calleeR p (j:Int)=p.funcs[j]:=by unfold calleeR;simp[hj]
 rw[hg];obtain⟨_,_,s0,s1,hc2,hfn⟩:=(HVW.out W (Below.refl _ _)).prg;subst hc2;obtain⟨sb,so,rfl,hDs,x0,x1,x2,x3,x4,h0,h1,h2,h3,h4,hfv⟩:=hfn j hj;have hfin:∀ w',Below W.heap.size W w'→FunVal w' D p.funcs[j] x0 (.int .i64 p.funcs[j].result) (.int .i64 p.funcs[j].slots) x3 x4:=fun w' h=>by
  have:=hfv.fr (Fr.of_below h (fun _=>False)) (fun _ _ h=>h);obtain⟨q1,q2,q3⟩:=this;exact⟨rfl,rfl,q3⟩
 obtain⟨rfl,rfl,⟨g0,g1,rfl,_⟩,⟨g2,g3,rfl,_⟩,g4,g5,rfl,_⟩:=hfv;have hlt:(j:Int)<(p.funcs.length:Int):=by omega
 clear hv hb hg hfn hDs;generalize p.funcs[j]=g at *;generalize p.funcs.length=n at *;generalize f.result=fr at *;generalize f.slots=fs at *;have HFIN:=k_ hfin;clear hfin;have hl2:=heap_new W (.cells #[.slice none 0 0,.int .i64 0,.int .i64 0,.slice none 0 0,.slice none 0 0] 36);have hb2:=(Below.refl W.heap.size W).alloc (Nat.le_refl _) (.cells #[.slice none 0 0,.int .i64 0,.int .i64 0,.slice none 0 0,.slice none 0 0] 36);have hz2:(W.alloc (.cells #[.slice none 0 0,.int .i64 0,.int .i64 0,.slice none 0 0,.slice none 0 0] 36)).heap.size=W.heap.size+1:=by simp
 obtain⟨W2,hW2⟩:∃ W2,W2=W.alloc (.cells #[.slice none 0 0,.int .i64 0,.int .i64 0,.slice none 0 0,.slice none 0 0] 36):=⟨_,rfl⟩;rw[← hW2] at hl2 hb2 hz2;obtain⟨⟨z0,z1,z2,z3,z4⟩,f0,f1,f2,f3,f4⟩:=five_cells hl2;replace h0:=below_cell hb2 h0;replace h1:=below_cell hb2 h1;replace h2:=below_cell hb2 h2;replace h3:=below_cell hb2 h3;replace h4:=below_cell hb2 h4;have hr:=row_set (row_set (row_set (row_set (row_set hl2 0 (.slice g0 g.args.length g1)) 1 (.int .i64 g.result)) 2 (.int .i64 g.slots)) 3 (.slice g2 g.objects.length g3)) 4 (.slice g4 g.code.length g5);have hf:Fr (onB W.heap.size) W2 _:=(((((Fr.refl (onB W.heap.size) W2).setCell (p:=⟨W.heap.size,0,none⟩) (fun _=>rfl) (.slice g0 g.args.length g1)).setCell (p:=⟨W.heap.size,1,none⟩) (fun _=>rfl) (.int .i64 g.result)).setCell (p:=⟨W.heap.size,2,none⟩) (fun _=>rfl) (.int .i64 g.slots)).setCell (p:=⟨W.heap.size,3,none⟩) (fun _=>rfl) (.slice g2 g.objects.length g3)).setCell (p:=⟨W.heap.size,4,none⟩) (fun _=>rfl) (.slice g4 g.code.length g5);have hbW:=hb2.trans (hf.below hb2.size (fun k hk=>by unfold onB at hk;omega));have hP:=funPost (HFIN.out _ hbW) (HC0.out.trans (hbW.mono HC0.out.size));have HW2:=k_ hW2;rw[HZ0.out] at hr hP f0 f1 f2 f3 f4 z0 z1 z2 z3 z4;have HBW2:=k_ hb2;clear hW2 hb2 hz2 hl2 hf hbW HFIN;have HR:=k_ hr;have HP:=k_ hP;clear hr hP;unfold stepC at *
 go_enter Tryz.func174,Tryz.ntmps174
 go_upto_region 1 with fail
 rw[← HW.out,← HW2.out];have p2:W2.cell? ⟨w.heap.size,2,none⟩=some _:=HQQ.out _ HBW2.out 2 _ rfl;have p10:W2.cell? ⟨w.heap.size,10,none⟩=some _:=HQQ.out _ HBW2.out 10 _ rfl
 go_wp2_with (with_reducible refine bodyPost_ret ?_ rfl HP.out;obtain⟨⟨k0,k1,k2,k3,k4⟩,_⟩:=five_cells HR.out;simp[results,Tryz.results174,go_sem,k0,k1,k2,k3,k4])
end Go.Proofs.YtbkkhmafheimfaaGreatDoor
