/- Walk: a file is read (besom.Unpack). Walk: a file's bytes (besom.Pack). -/
import Derived.Test.YtlofbhoicbemnaaGreatDoorGAg
import Derived.Test.YtlofbhoicbemnaaGreatDoorGAm
set_option linter.unusedVariables false
set_option linter.unusedSimpArgs false
set_option maxRecDepth 100000
set_option maxHeartbeats 6400000
namespace Go.Proofs.YtlofbhoicbemnaaGreatDoor.Tk
open Go.ChangeShapes Go.WideShapes Go.ChangeAt Go.RowKit Go.Maps
def jT (b:ByteArray):ByteArray × RS:=d9 (eX (b,false)).2 (eX (b,false)).1
def unN (b:ByteArray):Nat→Int × RS
 | 0=>(0,(jT b).2)
 | k+1=>eX (unN b k).2
def oD (b:ByteArray):Cfg:=⟨(unN b 1).1,(unN b 2).1,(unN b 3).1,(unN b 4).1,(unN b 5).1⟩
def unE (b:ByteArray):Int:=if (unN b 5).2.2=true∨bK (jT b).1=false∨¬ (oD b).ok then 2 else (bZ (unN b 5).2.1).2
theorem sO (s:RS) (n:Int):(d9 s n).2.1.size≤s.1.size:=by
 unfold d9
 split
 ·exact Nat.zero_le _
 ·rw[ByteArray.size_extract];omega
theorem zi (s:RS) (n:Int):(d9 s n).1.size≤s.1.size:=by
 unfold d9
 split
 ·exact Nat.zero_le _
 ·rw[ByteArray.size_extract];omega
theorem mZ (s:RS):(eX s).2.1.size≤s.1.size:=sO s 4
theorem kr (b:ByteArray) (k:Nat):(unN b k).2.1.size≤b.size:=by
 induction k with
 | zero=>exact Nat.le_trans (sO _ _) (mZ _)
 | succ k ih=>exact Nat.le_trans (mZ _) ih
def zP:Value:=.agg #[.slice none 0 0,.slice none 0 0,.slice none 0 0]
def zC:Cfg:=⟨0,0,0,0,0⟩
def nZ (b:ByteArray) (w:World) (e:Ending) (w':World):Prop :=
 Below w.heap.size w w'∧((unE b≠0∧e=.returned (.tuple #[zP,zC.val,.slice none 0 0,.int .i64 (unE b)])) ∨
  (unE b=0∧∃ c0 c1 c2 v,e=.returned (.tuple #[.agg #[c0,c1,c2],(oD b).val,v,.int .i64 0])∧aD w' (fun k=>w.heap.size≤k∧k<w'.heap.size) (gT (jT b).1) c0 c1 c2 ∧
   Own qp w' w.heap.size v (eT (unN b 5).2.1)))
structure UB (W:World) (B:Nat) (s:RS):Prop where
 a:W.heap[B]?=some (.cells #[.slice none 0 0,.slice none 0 0,.slice none 0 0] 48)
 b:W.heap[B+1]?=some (.cells #[.int .i64 0,.int .i64 0,.int .i64 0,.int .i64 0,.int .i64 0] 50)
 r:FRd W (B+2) s
theorem UB.turn {W W':World} {B:Nat} {s s':RS} (h:UB W B s) (hf:Fr (onB (B+2)) W W') (hr:FRd W' (B+2) s'):UB W' B s' :=
 ⟨hf.heap h.a (by unfold onB;omega),hf.heap h.b (by unfold onB;omega),hr⟩
theorem UB.below {W W':World} {B:Nat} {s:RS} (h:UB W B s) (hb:Below W.heap.size W W'):UB W' B s :=
 ⟨(fb_ hb).heap h.a (fun h=>h),(fb_ hb).heap h.b (fun h=>h),h.r.fr (fb_ hb) (fun h=>h)⟩
theorem mX (W:World) (B:Nat) (x0 x1 x2 y0 y1 y2 y3 y4:Value) {u0 u1 u2 v0 v1 v2 v3 v4:Value} (ha:W.heap[B]?=some (.cells #[u0,u1,u2] 48)) (hb:W.heap[B+1]?=some (.cells #[v0,v1,v2,v3,v4] 50)) :
  ∃ W',W'=(((((((W.setCell ⟨B,0,none⟩ x0).setCell ⟨B,1,none⟩ x1).setCell ⟨B,2,none⟩ x2).setCell ⟨B+1,0,none⟩ y0).setCell ⟨B+1,1,none⟩ y1).setCell ⟨B+1,2,none⟩ y2).setCell ⟨B+1,3,none⟩ y3).setCell ⟨B+1,4,none⟩ y4 ∧
   W'.heap[B]?=some (.cells #[x0,x1,x2] 48)∧W'.heap[B+1]?=some (.cells #[y0,y1,y2,y3,y4] 50)∧Fr (fun k=>k=B∨k=B+1) W W':=by
 have h3:=ag (ag (ag ha 0 x0) 1 x1) 2 x2;have f3:=((Fr.setAt W B 0 x0).trans (Fr.setAt _ B 1 x1) (fun _ _ h=>h)).trans (Fr.setAt _ B 2 x2) (fun _ _ h=>h);have h5:=ag (ag (ag (ag (ag (f3.heap hb (by unfold onB;omega)) 0 y0) 1 y1) 2 y2) 3 y3) 4 y4;have f5:=(((((Fr.setAt ((( W.setCell ⟨B,0,none⟩ x0).setCell ⟨B,1,none⟩ x1).setCell ⟨B,2,none⟩ x2) (B+1) 0 y0).trans (Fr.setAt _ (B+1) 1 y1) (fun _ _ h=>h)).trans (Fr.setAt _ (B+1) 2 y2) (fun _ _ h=>h)).trans (Fr.setAt _ (B+1) 3 y3) (fun _ _ h=>h)).trans (Fr.setAt _ (B+1) 4 y4) (fun _ _ h=>h));refine⟨_,rfl,f5.heap h3 (by unfold onB;omega),h5,(f3.mono (fun k h=>Or.inl h)).trans (f5.mono (fun k h=>Or.inr h)) (fun _ _ h=>h)⟩
theorem qf (t:Array Value) (W:World) (B:Nat) (v e:Value) {x0 x1 x2 y0 y1 y2 y3 y4:Value} (h2:t.getD 2 undef=.pointer (some ⟨B,0,none⟩)) (h3:t.getD 3 undef=.pointer (some ⟨B+1,0,none⟩)) (h4:t.getD 4 undef=v) (h5:t.getD 5 undef=e)
  (ha:W.heap[B]?=some (.cells #[x0,x1,x2] 48)) (hb:W.heap[B+1]?=some (.cells #[y0,y1,y2,y3,y4] 50)) :
  (results Tryz.f19 t).run Tryz.prog W=.ok (.tuple #[.agg #[x0,x1,x2],.agg #[y0,y1,y2,y3,y4],v,e]) W:=by
 obtain⟨⟨k0,k1,k2⟩,_⟩:=aH ha;obtain⟨⟨g0,g1,g2,g3,g4⟩,_⟩:=aB hb;rw[Array.getD_eq_getD_getElem?] at h2 h3 h4 h5
 simp[results,Tryz.results19,go_sem,k0,k1,k2,g0,g1,g2,g3,g4,h2,h3,h4,h5]
theorem Az (b:ByteArray):(bZ b).2=0∨(bZ b).2=2∨(bZ b).2=5:=by
 unfold bZ
 split
 ·split
  ·exact Or.inl rfl
  ·exact Or.inr (Or.inr rfl)
 ·exact Or.inr (Or.inl rfl)
theorem xD (b:ByteArray) (h:(bZ b).2=0):(bZ b).1=eT b:=by
 unfold bZ at *
 split at h
 ·split at h
  ·next h1 h2=>rw[if_pos h1,if_pos h2]
  ·cases h
 ·cases h
theorem Bq {P:Program} {α:Type} {E:Elem P α} {w:World} {B B':Nat} {v:Value} {l:List α} (h:Own E w B v l) (hb:B'≤B):Own E w B' v l:=by
 obtain⟨h1,h2⟩:=h;refine⟨h1,?_⟩
 rcases h2 with h | ⟨g,cap,cur,e,hg,h3⟩
 ·exact Or.inl h
 ·exact Or.inr ⟨g,cap,cur,e,Nat.le_trans hb hg,h3⟩
theorem nR (b:ByteArray) (w:World) (hb:b.size≤100000) :
  Calls Tryz.prog 19 #[.string b] w (nZ b w):=by
 obtain⟨B,hB⟩:∃ B,B=w.heap.size:=⟨_,rfl⟩;have ub:UB (((w.alloc (.cells #[.slice none 0 0,.slice none 0 0,.slice none 0 0] 48)).alloc (.cells #[.int .i64 0,.int .i64 0,.int .i64 0,.int .i64 0,.int .i64 0] 50)).alloc (.cells #[.string b,.bool false] 90)) w.heap.size (b,false):=by
  refine⟨?_,?_,?_⟩
  ·rw[Below.heap_alloc _ _ _ (by simp;omega),Below.heap_alloc _ _ _ (by simp)]
   exact ai _ _
  ·rw[Below.heap_alloc _ _ _ (by simp),show w.heap.size+1=(w.alloc (.cells #[.slice none 0 0,.slice none 0 0,.slice none 0 0] 48)).heap.size from by simp]
   exact ai _ _
  ·unfold FRd
   rw[show w.heap.size+2=((w.alloc (.cells #[.slice none 0 0,.slice none 0 0,.slice none 0 0] 48)).alloc (.cells #[.int .i64 0,.int .i64 0,.int .i64 0,.int .i64 0,.int .i64 0] 50)).heap.size from by simp];exact ai _ _
 have hb0:Below w.heap.size w (((w.alloc (.cells #[.slice none 0 0,.slice none 0 0,.slice none 0 0] 48)).alloc (.cells #[.int .i64 0,.int .i64 0,.int .i64 0,.int .i64 0,.int .i64 0] 50)).alloc (.cells #[.string b,.bool false] 90)):=(((Below.refl _ _).alloc (Nat.le_refl _) _).alloc (by simp) _).alloc (by simp;omega) _;have UB0:=k_ ub;have HB0:=k_ hb0;have HSZ:=k_ hb;clear ub hb0 hb hB B
 go_enter Tryz.func19,Tryz.ntmps19
 go_wp2_with fail;refine(jS _ _ _ UB0.out.r (by have:=HSZ.out;show b.size≤_;omega)).mono ?_;rintro e w1 ⟨rfl,hr,hf⟩;have UB1:=k_ (UB0.out.turn hf hr);have HB1:=k_ (HB0.out.trans (hf.below (N:=w.heap.size) HB0.out.size (fun q hq=>by have hq:q=w.heap.size+2:=hq;omega)));clear hr hf HB0 UB0;go_wp2_with fail;refine(uK _ _ _ UB1.out.r _ (Nat.le_trans (mZ _) (by have:=HSZ.out;show b.size≤_;omega))).mono ?_;rintro e w2 ⟨rfl,hr,hf⟩;have UB2:=k_ (UB1.out.turn hf hr);have HB2:=k_ (HB1.out.trans (hf.below (N:=w.heap.size) HB1.out.size (fun q hq=>by have hq:q=w.heap.size+2:=hq;omega)));clear hr hf HB1 UB1;rw[show d9 (eX (b,false)).2 (eX (b,false)).1=jT b from rfl] at *;obtain⟨x0,hx0⟩:∃ x,x=(eX (b,false)).1:=⟨_,rfl⟩;rw[← hx0];clear hx0;have HSI:=k_ (show (jT b).1.size≤100000 from Nat.le_trans (zi _ _) (Nat.le_trans (mZ _) HSZ.out));obtain⟨img,himg⟩:∃ x,x=(jT b).1:=⟨_,rfl⟩;obtain⟨s0,hs0⟩:∃ x,x=(unN b 0).2:=⟨_,rfl⟩;rw[show (jT b).2=s0 from hs0.symm] at UB2;rw[← himg] at HSI ⊢;have HIMG:=k_ himg;have HS0:=k_ hs0;clear himg hs0;go_wp2_with fail;refine(Dt _ w2 HSI.out).mono ?_;rintro e w3 ⟨c0,c1,c2,rfl,hv,hb⟩;have UB3:=k_ (UB2.out.below hb);have HB3:=k_ (HB2.out.trans (hb.mono HB2.out.size));have HV3:=k_ hv;have HLT:=k_ (show w.heap.size+3≤w2.heap.size∧w2.heap.size≤w3.heap.size from⟨aj UB2.out.r,hb.size⟩);obtain⟨r,hr⟩:∃ r:Int,r=if bK img then 0 else 2:=⟨_,rfl⟩;rw[← hr];have HRR:=k_ hr;obtain⟨⟨a0,m0,e0,_⟩,⟨a1,m1,e1,_⟩,a2,m2,e2,_⟩:=hv;obtain⟨n0,hn0⟩:∃ n,n=(gT img).globals.length:=⟨_,rfl⟩;obtain⟨n1,hn1⟩:∃ n,n=(gT img).shapes.length:=⟨_,rfl⟩;obtain⟨n2,hn2⟩:∃ n,n=(gT img).funcs.length:=⟨_,rfl⟩;rw[← hn0] at e0;rw[← hn1] at e1;rw[← hn2] at e2;subst e0 e1 e2;clear hr hb UB2 HB2 hn0 hn1 hn2;have hb:Below w3.heap.size w3 (w3.alloc (.cells #[.slice a0 n0 m0,.slice a1 n1 m1,.slice a2 n2 m2] 48)):=(Below.refl _ _).alloc (Nat.le_refl _) _;have hr4:=ai w3 (.cells #[.slice a0 n0 m0,.slice a1 n1 m1,.slice a2 n2 m2] 48);have UB4:=k_ (UB3.out.below hb);have HB4:=k_ (HB3.out.trans (hb.mono HB3.out.size));have HV4:=k_ (HV3.out.fr (fb_ hb) (fun _ _ h=>h));clear hb UB3 HB3 HV3;go_wp2_with fail;obtain⟨w4,hw4⟩:∃ u,u=w3.alloc (.cells #[.slice a0 n0 m0,.slice a1 n1 m1,.slice a2 n2 m2] 48):=⟨_,rfl⟩;obtain⟨pb,hpb⟩:∃ u,u=w3.heap.size:=⟨_,rfl⟩;rw[← hw4] at hr4 UB4 HB4 HV4 ⊢;rw[← hpb] at hr4 HLT HV4 ⊢;have HR4:=k_ hr4;clear hw4 hpb hr4;refine(jS _ _ _ UB4.out.r (by rw[HS0.out];exact Nat.le_trans (kr b 0) (by have:=HSZ.out;omega))).mono ?_;rintro e w5 ⟨rfl,hr,hf⟩;obtain⟨x1,hx1⟩:∃ x,x=(eX s0).1:=⟨_,rfl⟩;obtain⟨s1,hs1⟩:∃ x,x=(eX s0).2:=⟨_,rfl⟩;rw[← hs1] at hr;rw[← hx1];have HX1:=k_ (show x1=(unN b 1).1 from by rw[hx1,HS0.out];rfl);have HS1:=k_ (show s1=(unN b 1).2 from by rw[hs1,HS0.out];rfl);have UB5:=k_ (UB4.out.turn hf hr);have HB5:=k_ (HB4.out.trans (hf.below (N:=w.heap.size) HB4.out.size (fun q hq=>by have hq:q=w.heap.size+2:=hq;omega)));have HV5:=k_ (HV4.out.fr hf (fun q hq h=>by have h:q=w.heap.size+2:=h;have:=HLT.out;omega));have HR5:=k_ (hf.heap HR4.out (fun h=>by have h:pb=w.heap.size+2:=h;have:=HLT.out;omega));clear hr hf hx1 hs1 HS0 HB4 UB4 HV4 HR4;go_wp2_with fail;refine(jS _ _ _ UB5.out.r (by rw[HS1.out];exact Nat.le_trans (kr b 1) (by have:=HSZ.out;omega))).mono ?_;rintro e w6 ⟨rfl,hr,hf⟩;obtain⟨x2,hx2⟩:∃ x,x=(eX s1).1:=⟨_,rfl⟩;obtain⟨s2,hs2⟩:∃ x,x=(eX s1).2:=⟨_,rfl⟩;rw[← hs2] at hr;rw[← hx2];have HX2:=k_ (show x2=(unN b 2).1 from by rw[hx2,HS1.out];rfl);have HS2:=k_ (show s2=(unN b 2).2 from by rw[hs2,HS1.out];rfl);have UB6:=k_ (UB5.out.turn hf hr);have HB6:=k_ (HB5.out.trans (hf.below (N:=w.heap.size) HB5.out.size (fun q hq=>by have hq:q=w.heap.size+2:=hq;omega)));have HV6:=k_ (HV5.out.fr hf (fun q hq h=>by have h:q=w.heap.size+2:=h;have:=HLT.out;omega));have HR6:=k_ (hf.heap HR5.out (fun h=>by have h:pb=w.heap.size+2:=h;have:=HLT.out;omega));clear hr hf hx2 hs2 HS1 HB5 UB5 HV5 HR5;go_wp2_with fail;refine(jS _ _ _ UB6.out.r (by rw[HS2.out];exact Nat.le_trans (kr b 2) (by have:=HSZ.out;omega))).mono ?_;rintro e w7 ⟨rfl,hr,hf⟩;obtain⟨x3,hx3⟩:∃ x,x=(eX s2).1:=⟨_,rfl⟩;obtain⟨s3,hs3⟩:∃ x,x=(eX s2).2:=⟨_,rfl⟩;rw[← hs3] at hr;rw[← hx3];have HX3:=k_ (show x3=(unN b 3).1 from by rw[hx3,HS2.out];rfl);have HS3:=k_ (show s3=(unN b 3).2 from by rw[hs3,HS2.out];rfl);have UB7:=k_ (UB6.out.turn hf hr);have HB7:=k_ (HB6.out.trans (hf.below (N:=w.heap.size) HB6.out.size (fun q hq=>by have hq:q=w.heap.size+2:=hq;omega)));have HV7:=k_ (HV6.out.fr hf (fun q hq h=>by have h:q=w.heap.size+2:=h;have:=HLT.out;omega));have HR7:=k_ (hf.heap HR6.out (fun h=>by have h:pb=w.heap.size+2:=h;have:=HLT.out;omega));clear hr hf hx3 hs3 HS2 HB6 UB6 HV6 HR6;go_wp2_with fail;refine(jS _ _ _ UB7.out.r (by rw[HS3.out];exact Nat.le_trans (kr b 3) (by have:=HSZ.out;omega))).mono ?_;rintro e w8 ⟨rfl,hr,hf⟩;obtain⟨x4,hx4⟩:∃ x,x=(eX s3).1:=⟨_,rfl⟩;obtain⟨s4,hs4⟩:∃ x,x=(eX s3).2:=⟨_,rfl⟩;rw[← hs4] at hr;rw[← hx4];have HX4:=k_ (show x4=(unN b 4).1 from by rw[hx4,HS3.out];rfl);have HS4:=k_ (show s4=(unN b 4).2 from by rw[hs4,HS3.out];rfl);have UB8:=k_ (UB7.out.turn hf hr);have HB8:=k_ (HB7.out.trans (hf.below (N:=w.heap.size) HB7.out.size (fun q hq=>by have hq:q=w.heap.size+2:=hq;omega)));have HV8:=k_ (HV7.out.fr hf (fun q hq h=>by have h:q=w.heap.size+2:=h;have:=HLT.out;omega));have HR8:=k_ (hf.heap HR7.out (fun h=>by have h:pb=w.heap.size+2:=h;have:=HLT.out;omega));clear hr hf hx4 hs4 HS3 HB7 UB7 HV7 HR7;go_wp2_with fail;refine(jS _ _ _ UB8.out.r (by rw[HS4.out];exact Nat.le_trans (kr b 4) (by have:=HSZ.out;omega))).mono ?_;rintro e w9 ⟨rfl,hr,hf⟩;obtain⟨x5,hx5⟩:∃ x,x=(eX s4).1:=⟨_,rfl⟩;obtain⟨s5,hs5⟩:∃ x,x=(eX s4).2:=⟨_,rfl⟩;rw[← hs5] at hr;rw[← hx5];have HX5:=k_ (show x5=(unN b 5).1 from by rw[hx5,HS4.out];rfl);have HS5:=k_ (show s5=(unN b 5).2 from by rw[hs5,HS4.out];rfl);have UB9:=k_ (UB8.out.turn hf hr);have HB9:=k_ (HB8.out.trans (hf.below (N:=w.heap.size) HB8.out.size (fun q hq=>by have hq:q=w.heap.size+2:=hq;omega)));have HV9:=k_ (HV8.out.fr hf (fun q hq h=>by have h:q=w.heap.size+2:=h;have:=HLT.out;omega));have HR9:=k_ (hf.heap HR8.out (fun h=>by have h:pb=w.heap.size+2:=h;have:=HLT.out;omega));clear hr hf hx5 hs5 HS4 HB8 UB8 HV8 HR8
 go_upto_region 4 with fail
 obtain⟨w10,hw10⟩:∃ u,u=w9.alloc (.cells #[.int .i64 x1,.int .i64 x2,.int .i64 x3,.int .i64 x4,.int .i64 x5] 50):=⟨_,rfl⟩;have hb:Below w9.heap.size w9 w10:=by rw[hw10];exact(Below.refl _ _).alloc (Nat.le_refl _) _
 have hc:=ai w9 (.cells #[.int .i64 x1,.int .i64 x2,.int .i64 x3,.int .i64 x4,.int .i64 x5] 50);rw[← hw10] at hc ⊢;have UB10:=k_ (UB9.out.below hb);have HB10:=k_ (HB9.out.trans (hb.mono HB9.out.size));have HV10:=k_ (HV9.out.fr (fb_ hb) (fun _ _ h=>h));have HR10:=k_ ((fb_ hb).heap HR9.out (fun h=>h));have hq9:w.heap.size+3≤w9.heap.size:=aj UB9.out.r;obtain⟨qb,hqb⟩:∃ u,u=w9.heap.size:=⟨_,rfl⟩;rw[← hqb] at hc hq9 ⊢;have HC10:=k_ hc;have HQ:=k_ hq9;clear hb hc hq9 hw10 hqb UB9 HB9 HV9 HR9;obtain⟨str,bad⟩:=s5;obtain⟨q0,q1,q2,q3⟩:=aN UB10.out.r;obtain⟨⟨d0,d1,d2,d3,d4⟩,_⟩:=aB HC10.out;obtain⟨⟨a0',a1',a2'⟩,b0,b1,b2⟩:=aH UB10.out.a;obtain⟨⟨e0,e1,e2,e3,e4⟩,f0,f1,f2,f3,f4⟩:=aB UB10.out.b
 cases bad with
 | true =>
   have HN:=k_ (show unE b=2 from by unfold unE;rw[if_pos (Or.inl (by rw[← HS5.out]))]);have SR:=k_ (mX _ w.heap.size (.slice none 0 0) (.slice none 0 0) (.slice none 0 0) (.int .i64 0) (.int .i64 0) (.int .i64 0) (.int .i64 0) (.int .i64 0) UB10.out.a UB10.out.b);go_wp2_with fail;obtain⟨W',hW,r3,r5,hfr⟩:=SR.out;rw[← hW];clear hW;refine bodyPost_ret (qf _ W' w.heap.size _ _ rfl rfl rfl rfl r3 r5) rfl (show nZ b w _ W' from⟨HB10.out.trans (hfr.below HB10.out.size (fun k hk=>by rcases hk with hk | hk <;> omega)),Or.inl ⟨by rw[HN.out];decide,by rw[HN.out];rfl⟩⟩)
 | false =>
   by_cases hok:bK img=true
   case neg =>
    have HN:=k_ (show unE b=2 from by unfold unE;rw[if_pos (Or.inr (Or.inl (by rw[← HIMG.out];exact Bool.eq_false_iff.2 hok)))]);have hrr:=HRR.out;rw[if_neg hok] at hrr;subst hrr;have SR:=k_ (mX _ w.heap.size (.slice none 0 0) (.slice none 0 0) (.slice none 0 0) (.int .i64 0) (.int .i64 0) (.int .i64 0) (.int .i64 0) (.int .i64 0) UB10.out.a UB10.out.b);go_wp2_with fail;obtain⟨W',hW,r3,r5,hfr⟩:=SR.out;rw[← hW];clear hW;refine bodyPost_ret (qf _ W' w.heap.size _ _ rfl rfl rfl rfl r3 r5) rfl (show nZ b w _ W' from⟨HB10.out.trans (hfr.below HB10.out.size (fun k hk=>by rcases hk with hk | hk <;> omega)),Or.inl ⟨by rw[HN.out];decide,by rw[HN.out];rfl⟩⟩)
   case pos =>
    have hrr:=HRR.out;rw[if_pos hok] at hrr;subst hrr;have HOK:=k_ hok;have HCF:=k_ (show oD b=⟨x1,x2,x3,x4,x5⟩ from by unfold oD;rw[← HX1.out,← HX2.out,← HX3.out,← HX4.out,← HX5.out]);clear hok HRR;go_wp2_with fail;refine(kS _ ⟨x1,x2,x3,x4,x5⟩).mono ?_;rintro e w11 ⟨rfl,hb⟩;have UB11:=k_ (UB10.out.below hb);have HB11:=k_ (HB10.out.trans (hb.mono HB10.out.size));have HV11:=k_ (HV10.out.fr (fb_ hb) (fun _ _ h=>h));have HR11:=k_ ((fb_ hb).heap HR10.out (fun h=>h));have HC11:=k_ ((fb_ hb).heap HC10.out (fun h=>h));clear hb UB10 HB10 HV10 HR10 HC10 q0 q1 q2 q3 d0 d1 d2 d3 d4 a0' a1' a2' b0 b1 b2 e0 e1 e2 e3 e4 f0 f1 f2 f3 f4
    by_cases hcf:¬ (⟨x1,x2,x3,x4,x5⟩:Cfg).ok
    ·have HN:=k_ (show unE b=2 from by unfold unE;rw[if_pos (Or.inr (Or.inr (by rw[HCF.out];exact hcf)))])
     rw[if_neg hcf];obtain⟨⟨a0',a1',a2'⟩,b0,b1,b2⟩:=aH UB11.out.a;obtain⟨⟨e0,e1,e2,e3,e4⟩,f0,f1,f2,f3,f4⟩:=aB UB11.out.b;have SR:=k_ (mX _ w.heap.size (.slice none 0 0) (.slice none 0 0) (.slice none 0 0) (.int .i64 0) (.int .i64 0) (.int .i64 0) (.int .i64 0) (.int .i64 0) UB11.out.a UB11.out.b);go_wp2_with fail;obtain⟨W',hW,r3,r5,hfr⟩:=SR.out;rw[← hW];clear hW;refine bodyPost_ret (qf _ W' w.heap.size _ _ rfl rfl rfl rfl r3 r5) rfl (show nZ b w _ W' from⟨HB11.out.trans (hfr.below HB11.out.size (fun k hk=>by rcases hk with hk | hk <;> omega)),Or.inl ⟨by rw[HN.out];decide,by rw[HN.out];rfl⟩⟩)
    have hcf:(⟨x1,x2,x3,x4,x5⟩:Cfg).ok:=Decidable.not_not.1 hcf;have HE:=k_ (show unE b=(bZ str).2 from by
     unfold unE;rw[if_neg (fun h=>h.elim (fun h=>by rw[← HS5.out] at h;cases h) (fun h=>h.elim (fun h=>by rw[← HIMG.out,HOK.out] at h;cases h) (fun h=>h (by rw[HCF.out];exact hcf)))),← HS5.out])
    rw[if_pos hcf];have HSTR:=k_ (show str.size≤100000 from by have h:=kr b 5;rw[← HS5.out] at h;exact Nat.le_trans h HSZ.out);clear hcf;obtain⟨q0,q1,q2,q3⟩:=aN UB11.out.r;go_wp2_with fail;refine(qE str _ HSTR.out).mono ?_;rintro e w12 ⟨v,rfl,ho,hb⟩;have UB12:=k_ (UB11.out.below hb);have HB12:=k_ (HB11.out.trans (hb.mono HB11.out.size));have HV12:=k_ (HV11.out.fr (fb_ hb) (fun _ _ h=>h));have HR12:=k_ ((fb_ hb).heap HR11.out (fun h=>h));have HC12:=k_ ((fb_ hb).heap HC11.out (fun h=>h));have HO12:=k_ ho;have HZ:=k_ HB11.out.size;have HZ3:=k_ (show w.heap.size+3≤w11.heap.size from aj UB11.out.r);clear hb ho UB11 HB11 HV11 HR11 HC11 q0 q1 q2 q3;obtain⟨⟨a0',a1',a2'⟩,b0,b1,b2⟩:=aH UB12.out.a;obtain⟨⟨e0,e1,e2,e3,e4⟩,f0,f1,f2,f3,f4⟩:=aB UB12.out.b;obtain⟨es,hes⟩:∃ x,x=bZ str:=⟨_,rfl⟩;rw[← hes];rw[← hes] at HE HO12;have HES:=k_ hes;clear hes;obtain⟨l,ec⟩:=es;have hec:ec=0∨ec=2∨ec=5:=by have h:=Az str;rw[← HES.out] at h;exact h
    rcases hec with hec | hec | hec
    case inr.inl =>
     subst hec;have HN:=k_ (show unE b=2 from HE.out);have SR:=k_ (mX _ w.heap.size (.slice none 0 0) (.slice none 0 0) (.slice none 0 0) (.int .i64 0) (.int .i64 0) (.int .i64 0) (.int .i64 0) (.int .i64 0) UB12.out.a UB12.out.b);go_wp2_with fail;obtain⟨W',hW,r3,r5,hfr⟩:=SR.out;rw[← hW];clear hW;refine bodyPost_ret (qf _ W' w.heap.size _ _ rfl rfl rfl rfl r3 r5) rfl (show nZ b w _ W' from⟨HB12.out.trans (hfr.below HB12.out.size (fun k hk=>by rcases hk with hk | hk <;> omega)),Or.inl ⟨by rw[HN.out];decide,by rw[HN.out];rfl⟩⟩)
    case inr.inr =>
     subst hec;have HN:=k_ (show unE b=5 from HE.out);have SR:=k_ (mX _ w.heap.size (.slice none 0 0) (.slice none 0 0) (.slice none 0 0) (.int .i64 0) (.int .i64 0) (.int .i64 0) (.int .i64 0) (.int .i64 0) UB12.out.a UB12.out.b);go_wp2_with fail;obtain⟨W',hW,r3,r5,hfr⟩:=SR.out;rw[← hW];clear hW;refine bodyPost_ret (qf _ W' w.heap.size _ _ rfl rfl rfl rfl r3 r5) rfl (show nZ b w _ W' from⟨HB12.out.trans (hfr.below HB12.out.size (fun k hk=>by rcases hk with hk | hk <;> omega)),Or.inl ⟨by rw[HN.out];decide,by rw[HN.out];rfl⟩⟩)
    subst hec;obtain⟨d0,d1,d2⟩:=(aH HR12.out).1;obtain⟨p0,p1,p2,p3,p4⟩:=(aB HC12.out).1;have hqq:=HQ.out;have hpp:w.heap.size+3≤pb:=by have:=HLT.out;omega
    have hn1:w.heap.size≠qb:=by omega
    have hn2:w.heap.size+1≠qb:=by omega
    have hn3:w.heap.size≠pb:=by omega
    have hn4:w.heap.size+1≠pb:=by omega
    clear hqq hpp;have SR:=k_ (mX _ w.heap.size (.slice a0 n0 m0) (.slice a1 n1 m1) (.slice a2 n2 m2) (.int .i64 x1) (.int .i64 x2) (.int .i64 x3) (.int .i64 x4) (.int .i64 x5) UB12.out.a UB12.out.b);have HZZ:=k_ (aj UB12.out.r);have HPB:=k_ (aj HR12.out)
    go_upto_region 9 with fail
    go_region
    all_goals
     obtain⟨W',hW,r3,r5,hfr⟩:=SR.out;rw[← hW];clear hW;have HFR:=k_ hfr;have HR3:=k_ r3;have HR5:=k_ r5;clear r3 r5 hfr;go_wp2_with fail;refine bodyPost_ret (qf _ W'.drew w.heap.size _ _ rfl rfl rfl rfl HR3.out HR5.out) rfl (show nZ b w _ W'.drew from⟨(HB12.out.trans (HFR.out.below HB12.out.size (fun k hk=>by rcases hk with hk | hk <;> omega))).drew,Or.inr ⟨HE.out,.slice a0 n0 m0,.slice a1 n1 m1,.slice a2 n2 m2,v,by rw[HCF.out];rfl,?_,?_⟩⟩)
     case refine_1 =>
      have h1:=HV12.out.fr HFR.out (fun k hk h=>by have:=HLT.out;rcases h with h | h <;> omega);rw[← HIMG.out];have h2:=h1.dom (D':=fun k=>w.heap.size≤k∧k<W'.drew.heap.size) (fun k hk=>⟨by have:=HLT.out;omega,Nat.lt_of_lt_of_le hk.2 (Nat.le_trans (Nat.le_of_lt HPB.out) HFR.out.size)⟩);exact h2
     case refine_2 =>
      have h1:=HO12.out.fr HFR.out (fun k hk h=>by have:=(World.ownsRow.lt HO12.out _ hk).1;have:=HZ3.out;rcases h with h | h <;> omega);rw[← HS5.out,← xD str (by rw[← HES.out]),← HES.out];exact Bq h1 HZ.out
def az (v:Int):List Int:=[byteOf v 0,byteOf v 1,byteOf v 2,byteOf v 3]
def Cfg.list (c:Cfg):List Int:=[c.pages,c.first,c.limit,c.trigger,c.pile]
def vv (img:ByteArray) (c:Cfg):List Int:=az img.size ++ bL img ++ c.list.flatMap az
def iZ (pr:Prg) (c:Cfg) (l:List Ent):ByteArray × Int :=
 if ¬ c.ok then (⟨#[]⟩,1) else if (gP pr).2 then (⟨#[]⟩,1) else if (jW l).2≠0 then (⟨#[]⟩,(jW l).2) else
 (ah (vv (ah (gP pr).1) c) ++ (jW l).1,0)
theorem D7 {w:World} {g:Nat} {v:Int} {B:Nat} (hrow:w.heap[g]?=some (.cells (nD v 4) 5)) (hB:B≤g):Own u8E w B (.slice (some ⟨g,0,none⟩) 4 4) (az v):=by
 refine⟨rfl,.inr ⟨g,4,_,rfl,hB,hrow,Nat.le_refl 4,by unfold maxLen;omega,rfl,?_⟩⟩;rw[EK]
 rfl
theorem Cw (l:List Ent):(jW l).1.size≤l.length:=by
 unfold jW
 split
 ·split
  ·simp[ah,ByteArray.size,gK]
  ·exact Nat.zero_le _
 ·exact Nat.zero_le _
structure PkBx (W:World) (B:Nat) (D E:Nat→Prop) (pr:Prg) (c:Cfg) (l:List Ent) (c0 c1 c2:Value) (a:Option Addr):Prop where
 p:∀ j u,[c0,c1,c2][j]?=some u→W.cell? ⟨B,j,none⟩=some u
 c:∀ j x,c.list[j]?=some x→W.cell? ⟨B+1,j,none⟩=some (.int .i64 x)
 v:aD W D pr c0 c1 c2
 d:∀ k,D k→k<W.heap.size
 e:dz W E a l
 s:B+2≤W.heap.size
theorem PkBx.below {W W':World} {B:Nat} {D E:Nat→Prop} {pr:Prg} {c:Cfg} {l:List Ent} {c0 c1 c2:Value} {a:Option Addr} (h:PkBx W B D E pr c l c0 c1 c2 a) (hb:Below W.heap.size W W'):PkBx W' B D E pr c l c0 c1 c2 a :=
 ⟨fun j u hj=>ae hb (h.p j u hj),fun j x hj=>ae hb (h.c j x hj),h.v.fr (fb_ hb) (fun _ _ h=>h),fun k hk=>Nat.lt_of_lt_of_le (h.d k hk) hb.size,h.e.below' hb,Nat.le_trans h.s hb.size⟩
theorem tF (w:World) (D E:Nat→Prop) (pr:Prg) (c:Cfg) (l:List Ent) (c0 c1 c2:Value) (a:Option Addr) (cp:Nat) (hv:aD w D pr c0 c1 c2) (hD:∀ k,D k→k<w.heap.size) (hbulk:bulk pr≤3000) (hsz:(gP pr).1.length≤1000000)
  (hl:l.length≤100000) (he:dz w E a l) :
  Calls Tryz.prog 15 #[.agg #[c0,c1,c2],c.val,.slice a l.length cp] w fun e w'=>e=.returned (.tuple #[.string (iZ pr c l).1,.int .i64 (iZ pr c l).2])∧Below w.heap.size w w':=by
 have hbx:PkBx ((w.alloc (.cells #[c0,c1,c2] 48)).alloc (.cells #[.int .i64 c.pages,.int .i64 c.first,.int .i64 c.limit,.int .i64 c.trigger,.int .i64 c.pile] 50)) w.heap.size D E pr c l c0 c1 c2 a:=by
  have hb1:Below w.heap.size w ((w.alloc (.cells #[c0,c1,c2] 48)).alloc (.cells #[.int .i64 c.pages,.int .i64 c.first,.int .i64 c.limit,.int .i64 c.trigger,.int .i64 c.pile] 50)):=((Below.refl _ _).alloc (Nat.le_refl _) _).alloc (by simp) _;refine⟨fun j u hj=>?_,fun j x hj=>?_,hv.fr (fb_ hb1) (fun _ _ h=>h),fun k hk=>Nat.lt_of_lt_of_le (hD k hk) hb1.size,he.below' hb1,by simp⟩
  ·have h1:=(aA.new w #[c0,c1,c2] 48 (0,0)) j u hj
   rw[Nat.zero_add] at h1;exact(aY _ _ (World.block_lt h1)).trans h1
  ·have h1:=(aA.new' (w:=w.alloc (.cells #[c0,c1,c2] 48)) (g:=w.heap.size+1) #[.int .i64 c.pages,.int .i64 c.first,.int .i64 c.limit,.int .i64 c.trigger,.int .i64 c.pile] 50 (0,0) (by simp)) j (.int .i64 x) (by
    have:=congrArg (Option.map (Value.int .i64)) hj;rw[← List.getElem?_map] at this;exact this)
   rw[Nat.zero_add] at h1;exact h1
 have hb1:Below w.heap.size w ((w.alloc (.cells #[c0,c1,c2] 48)).alloc (.cells #[.int .i64 c.pages,.int .i64 c.first,.int .i64 c.limit,.int .i64 c.trigger,.int .i64 c.pile] 50)):=((Below.refl _ _).alloc (Nat.le_refl _) _).alloc (by simp) _;have hres:iZ pr c l=iZ pr c l:=rfl;obtain⟨R,hR⟩:∃ R,R=iZ pr c l:=⟨_,rfl⟩;rw[← hR];have HR:=k_ hR;have HBX:=k_ hbx;have HB1:=k_ hb1;clear hres hR hbx hb1 hv hD he
 show Calls Tryz.prog 15 #[.agg #[c0,c1,c2],.agg #[.int .i64 c.pages,.int .i64 c.first,.int .i64 c.limit,.int .i64 c.trigger,.int .i64 c.pile],.slice a l.length cp] w _
 go_enter Tryz.func15,Tryz.ntmps15
 go_wp2_with fail;refine(kS _ c).mono ?_;rintro e w1 ⟨rfl,hb⟩;have HBX1:=k_ (HBX.out.below hb);have HB2:=k_ (HB1.out.trans (hb.mono HB1.out.size));clear hb HB1 HBX
 by_cases hc:¬ c.ok
 ·have HN:=k_ (show R=(⟨#[]⟩,1) from by rw[HR.out];unfold iZ;rw[if_pos hc])
  rw[if_neg hc];go_wp2_with fail
  go_ret2
  exact⟨by rw[HN.out];rfl,HB2.out⟩
 have hc:c.ok:=Decidable.not_not.1 hc;rw[if_pos hc];have HC:=k_ hc;clear hc;have k0:=HBX1.out.p 0 _ rfl;have k1:=HBX1.out.p 1 _ rfl;have k2:=HBX1.out.p 2 _ rfl;go_wp2_with fail;refine(ES w1 D pr c0 c1 c2 HBX1.out.v HBX1.out.d hbulk).mono ?_;rintro e w2 ⟨rfl,hb⟩;have HBX2:=k_ (HBX1.out.below hb);have HB3:=k_ (HB2.out.trans (hb.mono HB2.out.size));clear hb HB2 HBX1 k0 k1 k2
 by_cases hp:(gP pr).2=true
 ·have HN:=k_ (show R=(⟨#[]⟩,1) from by rw[HR.out];unfold iZ;rw[if_neg (fun h=>h HC.out),if_pos hp])
  rw[show ng pr=.tuple #[.string ⟨#[]⟩,.int .i64 1] from by unfold ng;rw[if_pos hp]];go_wp2_with fail
  go_ret2
  exact⟨by rw[HN.out];rfl,HB3.out⟩
 have HP:=k_ hp;rw[show ng pr=.tuple #[.string (ah (gP pr).1),.int .i64 0] from by unfold ng;rw[if_neg hp]];obtain⟨img,himg⟩:∃ img,img=ah (gP pr).1:=⟨_,rfl⟩;rw[← himg];have HIS:=k_ (show img.size≤1000000 from by rw[himg];simpa[ah,ByteArray.size] using hsz);have HIMG:=k_ himg;clear himg hp hsz hbulk;go_wp2_with fail;refine(rT l E a cp w2 hl HBX2.out.e).mono ?_;rintro e w3 ⟨rfl,hb⟩;have HBX3:=k_ (HBX2.out.below hb);have HB4:=k_ (HB3.out.trans (hb.mono HB3.out.size));clear hb HB3 HBX2;obtain⟨S,hS⟩:∃ S,S=jW l:=⟨_,rfl⟩;rw[← hS];have HS:=k_ hS;clear hS;obtain⟨s1,s2⟩:=S;have HSS:=k_ (show s1.size≤100000 from by
  have h1:=Cw l;rw[← HS.out] at h1;exact Nat.le_trans h1 hl)
 by_cases h2:s2≠0
 ·have HN:=k_ (show R=(⟨#[]⟩,s2) from by rw[HR.out];unfold iZ;rw[if_neg (fun h=>h HC.out),if_neg HP.out,← HS.out,if_pos h2])
  have hd2:decide (s2=0)=false:=by simpa using h2
  go_wp2_with fail
  all_goals (go_ret2;exact⟨by rw[HN.out];rfl,HB4.out⟩)
 have h2:s2=0:=Decidable.not_not.1 h2;subst h2;have HN:=k_ (show R=(ah (vv img c) ++ s1,0) from by rw[HR.out];unfold iZ;rw[if_neg (fun h=>h HC.out),if_neg HP.out,← HS.out,if_neg (fun h=>h rfl),HIMG.out]);clear HR HP HC HS HIMG;go_wp2_with fail;refine(qg _ _).mono ?_;rintro e w4 ⟨rfl,hw4⟩;have hnew:=ai w3 (.cells (nD img.size 4) 5);have hb:Below w3.heap.size w3 w4:=by rw[hw4];exact(Below.refl _ _).alloc (Nat.le_refl _) _
 rw[← hw4] at hnew;have HO4:=k_ (D7 hnew (Nat.le_refl _));have HBX4:=k_ (HBX3.out.below hb);have HB5:=k_ (HB4.out.trans (hb.mono HB4.out.size));have hz0:w.heap.size+2≤w3.heap.size:=HBX3.out.s;have hz4:w3.heap.size≤w4.heap.size:=hb.size;obtain⟨z,hz⟩:∃ z,z=w3.heap.size:=⟨_,rfl⟩;rw[← hz] at HO4 hz4 hz0 ⊢;have HZ:=k_ hz0;clear hb hnew hw4 HB4 HBX3 hz hz0
 go_wp2_with (at_builtin;go_loud (refine lc rfl (.tmp 38) (.tmp 39) rfl z (az img.size) _ rfl HO4.out img rfl ?c1 ?c2 ?_))
 case c1=>have:=HIS.out;simp[az];omega
 case c2=>exact hz4
 intro v5 w5 hown5 hg5 hf5;have hb5:Below z w4 w5:=below_grown (Below.refl z w4) HO4.out hg5 hz4 (Nat.le_refl _);have m0:=(hb5.cell (by have:=HZ.out;show w.heap.size+1<z;omega)).trans (HBX4.out.c 0 _ rfl);have m1:=(hb5.cell (by have:=HZ.out;show w.heap.size+1<z;omega)).trans (HBX4.out.c 1 _ rfl);have m2:=(hb5.cell (by have:=HZ.out;show w.heap.size+1<z;omega)).trans (HBX4.out.c 2 _ rfl);have m3:=(hb5.cell (by have:=HZ.out;show w.heap.size+1<z;omega)).trans (HBX4.out.c 3 _ rfl);have m4:=(hb5.cell (by have:=HZ.out;show w.heap.size+1<z;omega)).trans (HBX4.out.c 4 _ rfl);have HB6:=k_ (HB5.out.trans (hb5.mono (by have:=HZ.out;omega)));have HZ5:=k_ (Nat.le_trans hz4 hb5.size);have HO5:=k_ hown5;clear hb5 hown5 hg5 hf5 hz4 HB5 HBX4 HO4 w4;go_wp2_with fail;have hv5:v5.ownBlock≠some w5.heap.size:=fun e=>absurd (World.ownsRow.lt HO5.out _ e).2 (Nat.lt_irrefl _)
 obtain⟨w6,hw6⟩:∃ u,u=w5.alloc (.cells #[.int .i64 c.pages,.int .i64 c.first,.int .i64 c.limit,.int .i64 c.trigger,.int .i64 c.pile] 3):=⟨_,rfl⟩;have hc6:∀ j x,c.list[j]?=some x→w6.cell? ⟨w5.heap.size,j,none⟩=some (.int .i64 x):=fun j x hj=>by
  rw[hw6];have h1:=(aA.new w5 #[.int .i64 c.pages,.int .i64 c.first,.int .i64 c.limit,.int .i64 c.trigger,.int .i64 c.pile] 3 (0,0)) j (.int .i64 x) (by
   have:=congrArg (Option.map (Value.int .i64)) hj;rw[← List.getElem?_map] at this;exact this)
  rw[Nat.zero_add] at h1;exact h1
 have hb6:Below w5.heap.size w5 w6:=by rw[hw6];exact(Below.refl _ _).alloc (Nat.le_refl _) _
 have HO6:=k_ (HO5.out.below hb6);have HB7:=k_ (HB6.out.trans (hb6.mono HB6.out.size));have hz6:z≤w6.heap.size:=Nat.le_trans HZ5.out hb6.size;rw[← hw6];obtain⟨nb,hnb⟩:∃ nb,nb=w5.heap.size:=⟨_,rfl⟩;rw[← hnb] at hc6 hv5 ⊢;have HC6:=k_ hc6;have HV5:=k_ hv5;have HZ6:=k_ hz6;clear hb6 hw6 HO5 HB6 HZ5 hnb hc6 hv5 hz6 m0 m1 m2 m3 m4
 go_loopw [12,53] (fun v i wr=>∃ k:Nat,k≤5∧i=.int .i64 k∧Own u8E wr z v (az img.size ++ bL img ++ (c.list.take k).flatMap az)∧v.ownBlock≠some nb∧Below w.heap.size w wr∧z≤wr.heap.size∧∀ j x,c.list[j]?=some x→wr.cell? ⟨nb,j,none⟩=some (.int .i64 x)) (fun _ i _=>5 - (intOf i).toNat)
 case atStart=>exact⟨0,by omega,rfl,by simpa using HO6.out,HV5.out,HB7.out,HZ6.out,HC6.out⟩
 case round =>
  clear HO6 HV5 HB7 HZ6 HC6;obtain⟨k,hk,rfl,ho,hvn,hB,hzr,hcs⟩:=hrel
  by_cases hlt:k<5
  ·obtain⟨x,hx⟩:∃ x,c.list[k]?=some x:=⟨c.list[k]'(by simpa[Cfg.list] using hlt),List.getElem?_eq_getElem _⟩
   have hcell:=hcs k x hx;have HX:=k_ hx;have HO:=k_ ho;have HVN:=k_ hvn;have HB:=k_ hB;have HZR:=k_ hzr;have HCS:=k_ hcs;clear hx ho hvn hB hzr hcs;go_wp2_with fail;refine(qg x _).mono ?_;rintro e w7 ⟨rfl,hw7⟩;have hb:Below wr.heap.size wr w7:=by rw[hw7];exact(Below.refl _ _).alloc (Nat.le_refl _) _
   have hsrc:aA w7 wr.heap.size 0 ((az x).flatMap u8E.enc):=by rw[hw7];exact aA.new wr (nD x 4) 5 (0,0)
   have hcs7:∀ j y,c.list[j]?=some y→w7.cell? ⟨nb,j,none⟩=some (.int .i64 y):=fun j y hj=>ae hb (HCS.out j y hj)
   have HO7:=k_ (HO.out.below hb);have HB8:=k_ (HB.out.trans (hb.mono HB.out.size));have HZ7:=k_ (Nat.le_trans HZR.out hb.size);have HNB:=k_ (Nat.lt_of_lt_of_le (World.block_lt (HCS.out 0 _ rfl)) hb.size);have HCS7:=k_ hcs7;have HSRC:=k_ hsrc;have HLN:=k_ (show (az img.size ++ bL img ++ (c.list.take k).flatMap az).length≤2000000 from by
    have h1:((c.list.take k).flatMap az).length=4 * (c.list.take k).length:=by
     rw[List.length_flatMap];generalize c.list.take k=L
     induction L with
     | nil=>rfl
     | cons y L ih=>rw[List.map_cons,List.sum_cons,ih,List.length_cons];show 4+_=_;omega
    have:=HIS.out;rw[List.length_append,List.length_append,h1,lZ,List.length_take]
    show 4+_+_≤_
    omega)
   clear hb hsrc hcs7 hw7 hcell HO HB HZR HCS
   go_wp2_with (at_builtin;refine bE u8E rfl (.tmp 57) (.tmp 59) rfl z (az img.size ++ bL img ++ (c.list.take k).flatMap az) (az x) _ rfl HO7.out wr.heap.size 0 4 rfl HSRC.out ?c1 ?c2 ?_)
   case c1=>have:=HLN.out;show _+4≤_;omega
   case c2=>exact HZ7.out
   intro v9 w9 hown9 hg9 hf9;have HO9:=k_ hown9;have HB9:=k_ (below_grown HB8.out HO7.out hg9 HB8.out.size (by have:=HZ.out;omega));have HVN9:=k_ (show v9.ownBlock≠some nb from fun e=>(hf9 nb e).elim HVN.out (fun h=>absurd HNB.out (Nat.not_lt.2 h)));have HCS9:=k_ (show ∀ j y,c.list[j]?=some y→w9.cell? ⟨nb,j,none⟩=some (.int .i64 y) from fun j y hj=>cell_grown hg9 (HCS7.out j y hj) HVN.out);have HZ9:=k_ (Nat.le_trans HZ7.out hg9.size);clear hown9 hg9 hf9 HO7 HB8 HCS7 HVN HSRC HLN;go_wp2_with fail
   go_roundw
   case rel =>
    refine⟨k+1,by omega,by go_num,?_,HVN9.out,HB9.out,HZ9.out,HCS9.out⟩;rw[List.take_add_one,HX.out,List.flatMap_append,← List.append_assoc]
    simpa using HO9.out
   case measure=>simp[intOf];omega
  ·have hk':k=5:=by omega
   subst hk';have HO:=k_ ho;have HB:=k_ hB;clear ho hvn hB hzr hcs;have hcv:=ni HO.out;obtain⟨T,hT⟩:∃ T,T=ah (az img.size ++ bL img ++ (c.list.take 5).flatMap az):=⟨_,rfl⟩;rw[← hT] at hcv;have hpk:T=ah (vv img c):=hT;have hts:T.size≤2000000:=by
    rw[hT];have h1:((c.list.take 5).flatMap az).length=20:=rfl;have h2:∀ L:List Int,(ah L).size=L.length:=fun L=>by simp[ah,ByteArray.size]
    have:=HIS.out;rw[h2,List.length_append,List.length_append,h1,lZ]
    show 4+_+_≤_
    omega
   have hsum:¬ 9223372036854775807<T.size+s1.size:=by have:=HSS.out;omega
   have HPK:=k_ hpk;clear hT hpk hts;go_wp2_with fail
   go_ret2
   exact⟨by rw[HN.out,← HPK.out];rfl,HB.out⟩
end Go.Proofs.YtlofbhoicbemnaaGreatDoor.Tk
