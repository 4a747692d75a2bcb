/- Walk: a file is read (besom.Unpack). -/
import Derived.Test.YtlofbhoicbemnaaGreatDoorDBp
set_option linter.unusedVariables false
set_option linter.unusedSimpArgs false
set_option maxRecDepth 100000
set_option maxHeartbeats 6400000
namespace Go.Proofs.YtlofbhoicbemnaaGreatDoor.Tk
open Go.ChangeShapes Go.WideShapes Go.ChangeAt Go.RowKit Go.Maps
def unImg (b:ByteArray):ByteArray × RS:=uTake (uNum (b,false)).2 (uNum (b,false)).1
def unN (b:ByteArray):Nat→Int × RS
 | 0=>(0,(unImg b).2)
 | k+1=>uNum (unN b k).2
def unCfg (b:ByteArray):Cfg:=⟨(unN b 1).1,(unN b 2).1,(unN b 3).1,(unN b 4).1,(unN b 5).1⟩
def unE (b:ByteArray):Int:=if (unN b 5).2.2=true∨readPOk (unImg b).1=false∨¬ (unCfg b).ok then 2 else (entsS (unN b 5).2.1).2
theorem uTake_size (s:RS) (n:Int):(uTake s n).2.1.size≤s.1.size:=by
 unfold uTake
 split
 ·exact Nat.zero_le _
 ·rw[ByteArray.size_extract];omega
theorem uTake_size1 (s:RS) (n:Int):(uTake s n).1.size≤s.1.size:=by
 unfold uTake
 split
 ·exact Nat.zero_le _
 ·rw[ByteArray.size_extract];omega
theorem uNum_size (s:RS):(uNum s).2.1.size≤s.1.size:=uTake_size s 4
theorem unN_size (b:ByteArray) (k:Nat):(unN b k).2.1.size≤b.size:=by
 induction k with
 | zero=>exact Nat.le_trans (uTake_size _ _) (uNum_size _)
 | succ k ih=>exact Nat.le_trans (uNum_size _) ih
def zP:Value:=.agg #[.slice none 0 0,.slice none 0 0,.slice none 0 0]
def zC:Cfg:=⟨0,0,0,0,0⟩
def UnPost (b:ByteArray) (w:World) (e:Ending) (w':World):Prop :=
 Below w.heap.size w w'∧((unE b≠0∧e=.returned (.tuple #[zP,zC.val,.slice none 0 0,.int .i64 (unE b)])) ∨
  (unE b=0∧∃ c0 c1 c2 v,e=.returned (.tuple #[.agg #[c0,c1,c2],(unCfg b).val,v,.int .i64 0])∧PrgVal w' (fun k=>w.heap.size≤k∧k<w'.heap.size) (readP (unImg b).1) c0 c1 c2 ∧
   Own entE w' w.heap.size v (entsL (unN b 5).2.1)))
structure UB (W:World) (B:Nat) (s:RS):Prop where
 a:W.heap[B]?=some (.cells #[.slice none 0 0,.slice none 0 0,.slice none 0 0] 48)
 b:W.heap[B+1]?=some (.cells #[.int .i64 0,.int .i64 0,.int .i64 0,.int .i64 0,.int .i64 0] 50)
 r:FRd W (B+2) s
theorem UB.turn {W W':World} {B:Nat} {s s':RS} (h:UB W B s) (hf:Fr (onB (B+2)) W W') (hr:FRd W' (B+2) s'):UB W' B s' :=
 ⟨hf.heap h.a (by unfold onB;omega),hf.heap h.b (by unfold onB;omega),hr⟩
theorem UB.below {W W':World} {B:Nat} {s:RS} (h:UB W B s) (hb:Below W.heap.size W W'):UB W' B s :=
 ⟨(Fr.of_below hb (fun _=>False)).heap h.a (fun h=>h),(Fr.of_below hb (fun _=>False)).heap h.b (fun h=>h),h.r.fr (Fr.of_below hb (fun _=>False)) (fun h=>h)⟩
theorem set_res (W:World) (B:Nat) (x0 x1 x2 y0 y1 y2 y3 y4:Value) {u0 u1 u2 v0 v1 v2 v3 v4:Value} (ha:W.heap[B]?=some (.cells #[u0,u1,u2] 48)) (hb:W.heap[B+1]?=some (.cells #[v0,v1,v2,v3,v4] 50)) :
  ∃ W',W'=(((((((W.setCell ⟨B,0,none⟩ x0).setCell ⟨B,1,none⟩ x1).setCell ⟨B,2,none⟩ x2).setCell ⟨B+1,0,none⟩ y0).setCell ⟨B+1,1,none⟩ y1).setCell ⟨B+1,2,none⟩ y2).setCell ⟨B+1,3,none⟩ y3).setCell ⟨B+1,4,none⟩ y4 ∧
   W'.heap[B]?=some (.cells #[x0,x1,x2] 48)∧W'.heap[B+1]?=some (.cells #[y0,y1,y2,y3,y4] 50)∧Fr (fun k=>k=B∨k=B+1) W W':=by
 have h3:=row_set (row_set (row_set ha 0 x0) 1 x1) 2 x2;have f3:=((Fr.setAt W B 0 x0).trans (Fr.setAt _ B 1 x1) (fun _ _ h=>h)).trans (Fr.setAt _ B 2 x2) (fun _ _ h=>h);have h5:=row_set (row_set (row_set (row_set (row_set (f3.heap hb (by unfold onB;omega)) 0 y0) 1 y1) 2 y2) 3 y3) 4 y4;have f5:=(((((Fr.setAt ((( W.setCell ⟨B,0,none⟩ x0).setCell ⟨B,1,none⟩ x1).setCell ⟨B,2,none⟩ x2) (B+1) 0 y0).trans (Fr.setAt _ (B+1) 1 y1) (fun _ _ h=>h)).trans (Fr.setAt _ (B+1) 2 y2) (fun _ _ h=>h)).trans (Fr.setAt _ (B+1) 3 y3) (fun _ _ h=>h)).trans (Fr.setAt _ (B+1) 4 y4) (fun _ _ h=>h));refine⟨_,rfl,f5.heap h3 (by unfold onB;omega),h5,(f3.mono (fun k h=>Or.inl h)).trans (f5.mono (fun k h=>Or.inr h)) (fun _ _ h=>h)⟩
theorem res_un (t:Array Value) (W:World) (B:Nat) (v e:Value) {x0 x1 x2 y0 y1 y2 y3 y4:Value} (h2:t.getD 2 undef=.pointer (some ⟨B,0,none⟩)) (h3:t.getD 3 undef=.pointer (some ⟨B+1,0,none⟩)) (h4:t.getD 4 undef=v) (h5:t.getD 5 undef=e)
  (ha:W.heap[B]?=some (.cells #[x0,x1,x2] 48)) (hb:W.heap[B+1]?=some (.cells #[y0,y1,y2,y3,y4] 50)) :
  (results Tryz.f19 t).run Tryz.prog W=.ok (.tuple #[.agg #[x0,x1,x2],.agg #[y0,y1,y2,y3,y4],v,e]) W:=by
 obtain⟨⟨k0,k1,k2⟩,_⟩:=three_cells ha;obtain⟨⟨g0,g1,g2,g3,g4⟩,_⟩:=five_cells hb;rw[Array.getD_eq_getD_getElem?] at h2 h3 h4 h5
 simp[results,Tryz.results19,go_sem,k0,k1,k2,g0,g1,g2,g3,g4,h2,h3,h4,h5]
theorem entsS_code (b:ByteArray):(entsS b).2=0∨(entsS b).2=2∨(entsS b).2=5:=by
 unfold entsS
 split
 ·split
  ·exact Or.inl rfl
  ·exact Or.inr (Or.inr rfl)
 ·exact Or.inr (Or.inl rfl)
theorem entsS_ok (b:ByteArray) (h:(entsS b).2=0):(entsS b).1=entsL b:=by
 unfold entsS at *
 split at h
 ·split at h
  ·next h1 h2=>rw[if_pos h1,if_pos h2]
  ·cases h
 ·cases h
theorem own_low {P:Program} {α:Type} {E:Elem P α} {w:World} {B B':Nat} {v:Value} {l:List α} (h:Own E w B v l) (hb:B'≤B):Own E w B' v l:=by
 obtain⟨h1,h2⟩:=h;refine⟨h1,?_⟩
 rcases h2 with h | ⟨g,cap,cur,e,hg,h3⟩
 ·exact Or.inl h
 ·exact Or.inr ⟨g,cap,cur,e,Nat.le_trans hb hg,h3⟩
theorem unpack_any (b:ByteArray) (w:World) (hb:b.size≤100000) :
  Calls Tryz.prog 19 #[.string b] w (UnPost b w):=by
 obtain⟨B,hB⟩:∃ B,B=w.heap.size:=⟨_,rfl⟩;have ub:UB (((w.alloc (.cells #[.slice none 0 0,.slice none 0 0,.slice none 0 0] 48)).alloc (.cells #[.int .i64 0,.int .i64 0,.int .i64 0,.int .i64 0,.int .i64 0] 50)).alloc (.cells #[.string b,.bool false] 90)) w.heap.size (b,false):=by
  refine⟨?_,?_,?_⟩
  ·rw[Below.heap_alloc _ _ _ (by simp;omega),Below.heap_alloc _ _ _ (by simp)]
   exact heap_new _ _
  ·rw[Below.heap_alloc _ _ _ (by simp),show w.heap.size+1=(w.alloc (.cells #[.slice none 0 0,.slice none 0 0,.slice none 0 0] 48)).heap.size from by simp]
   exact heap_new _ _
  ·unfold FRd
   rw[show w.heap.size+2=((w.alloc (.cells #[.slice none 0 0,.slice none 0 0,.slice none 0 0] 48)).alloc (.cells #[.int .i64 0,.int .i64 0,.int .i64 0,.int .i64 0,.int .i64 0] 50)).heap.size from by simp];exact heap_new _ _
 have hb0:Below w.heap.size w (((w.alloc (.cells #[.slice none 0 0,.slice none 0 0,.slice none 0 0] 48)).alloc (.cells #[.int .i64 0,.int .i64 0,.int .i64 0,.int .i64 0,.int .i64 0] 50)).alloc (.cells #[.string b,.bool false] 90)):=(((Below.refl _ _).alloc (Nat.le_refl _) _).alloc (by simp) _).alloc (by simp;omega) _;have UB0:=k_ ub;have HB0:=k_ hb0;have HSZ:=k_ hb;clear ub hb0 hb hB B
 go_enter Tryz.func19,Tryz.ntmps19
 go_wp2_with fail;refine(unum_any _ _ _ UB0.out.r (by have:=HSZ.out;show b.size≤_;omega)).mono ?_;rintro e w1 ⟨rfl,hr,hf⟩;have UB1:=k_ (UB0.out.turn hf hr);have HB1:=k_ (HB0.out.trans (hf.below (N:=w.heap.size) HB0.out.size (fun q hq=>by have hq:q=w.heap.size+2:=hq;omega)));clear hr hf HB0 UB0;go_wp2_with fail;refine(utake_any _ _ _ UB1.out.r _ (Nat.le_trans (uNum_size _) (by have:=HSZ.out;show b.size≤_;omega))).mono ?_;rintro e w2 ⟨rfl,hr,hf⟩;have UB2:=k_ (UB1.out.turn hf hr);have HB2:=k_ (HB1.out.trans (hf.below (N:=w.heap.size) HB1.out.size (fun q hq=>by have hq:q=w.heap.size+2:=hq;omega)));clear hr hf HB1 UB1;rw[show uTake (uNum (b,false)).2 (uNum (b,false)).1=unImg b from rfl] at *;obtain⟨x0,hx0⟩:∃ x,x=(uNum (b,false)).1:=⟨_,rfl⟩;rw[← hx0];clear hx0;have HSI:=k_ (show (unImg b).1.size≤100000 from Nat.le_trans (uTake_size1 _ _) (Nat.le_trans (uNum_size _) HSZ.out));obtain⟨img,himg⟩:∃ x,x=(unImg b).1:=⟨_,rfl⟩;obtain⟨s0,hs0⟩:∃ x,x=(unN b 0).2:=⟨_,rfl⟩;rw[show (unImg b).2=s0 from hs0.symm] at UB2;rw[← himg] at HSI ⊢;have HIMG:=k_ himg;have HS0:=k_ hs0;clear himg hs0;go_wp2_with fail;refine(readP_any _ w2 HSI.out).mono ?_;rintro e w3 ⟨c0,c1,c2,rfl,hv,hb⟩;have UB3:=k_ (UB2.out.below hb);have HB3:=k_ (HB2.out.trans (hb.mono HB2.out.size));have HV3:=k_ hv;have HLT:=k_ (show w.heap.size+3≤w2.heap.size∧w2.heap.size≤w3.heap.size from⟨heap_lt UB2.out.r,hb.size⟩);obtain⟨r,hr⟩:∃ r:Int,r=if readPOk img then 0 else 2:=⟨_,rfl⟩;rw[← hr];have HRR:=k_ hr;obtain⟨⟨a0,m0,e0,_⟩,⟨a1,m1,e1,_⟩,a2,m2,e2,_⟩:=hv;obtain⟨n0,hn0⟩:∃ n,n=(readP img).globals.length:=⟨_,rfl⟩;obtain⟨n1,hn1⟩:∃ n,n=(readP img).shapes.length:=⟨_,rfl⟩;obtain⟨n2,hn2⟩:∃ n,n=(readP img).funcs.length:=⟨_,rfl⟩;rw[← hn0] at e0;rw[← hn1] at e1;rw[← hn2] at e2;subst e0 e1 e2;clear hr hb UB2 HB2 hn0 hn1 hn2;have hb:Below w3.heap.size w3 (w3.alloc (.cells #[.slice a0 n0 m0,.slice a1 n1 m1,.slice a2 n2 m2] 48)):=(Below.refl _ _).alloc (Nat.le_refl _) _;have hr4:=heap_new w3 (.cells #[.slice a0 n0 m0,.slice a1 n1 m1,.slice a2 n2 m2] 48);have UB4:=k_ (UB3.out.below hb);have HB4:=k_ (HB3.out.trans (hb.mono HB3.out.size));have HV4:=k_ (HV3.out.fr (Fr.of_below hb (fun _=>False)) (fun _ _ h=>h));clear hb UB3 HB3 HV3;go_wp2_with fail;obtain⟨w4,hw4⟩:∃ u,u=w3.alloc (.cells #[.slice a0 n0 m0,.slice a1 n1 m1,.slice a2 n2 m2] 48):=⟨_,rfl⟩;obtain⟨pb,hpb⟩:∃ u,u=w3.heap.size:=⟨_,rfl⟩;rw[← hw4] at hr4 UB4 HB4 HV4 ⊢;rw[← hpb] at hr4 HLT HV4 ⊢;have HR4:=k_ hr4;clear hw4 hpb hr4;refine(unum_any _ _ _ UB4.out.r (by rw[HS0.out];exact Nat.le_trans (unN_size b 0) (by have:=HSZ.out;omega))).mono ?_;rintro e w5 ⟨rfl,hr,hf⟩;obtain⟨x1,hx1⟩:∃ x,x=(uNum s0).1:=⟨_,rfl⟩;obtain⟨s1,hs1⟩:∃ x,x=(uNum s0).2:=⟨_,rfl⟩;rw[← hs1] at hr;rw[← hx1];have HX1:=k_ (show x1=(unN b 1).1 from by rw[hx1,HS0.out];rfl);have HS1:=k_ (show s1=(unN b 1).2 from by rw[hs1,HS0.out];rfl);have UB5:=k_ (UB4.out.turn hf hr);have HB5:=k_ (HB4.out.trans (hf.below (N:=w.heap.size) HB4.out.size (fun q hq=>by have hq:q=w.heap.size+2:=hq;omega)));have HV5:=k_ (HV4.out.fr hf (fun q hq h=>by have h:q=w.heap.size+2:=h;have:=HLT.out;omega));have HR5:=k_ (hf.heap HR4.out (fun h=>by have h:pb=w.heap.size+2:=h;have:=HLT.out;omega));clear hr hf hx1 hs1 HS0 HB4 UB4 HV4 HR4;go_wp2_with fail;refine(unum_any _ _ _ UB5.out.r (by rw[HS1.out];exact Nat.le_trans (unN_size b 1) (by have:=HSZ.out;omega))).mono ?_;rintro e w6 ⟨rfl,hr,hf⟩;obtain⟨x2,hx2⟩:∃ x,x=(uNum s1).1:=⟨_,rfl⟩;obtain⟨s2,hs2⟩:∃ x,x=(uNum s1).2:=⟨_,rfl⟩;rw[← hs2] at hr;rw[← hx2];have HX2:=k_ (show x2=(unN b 2).1 from by rw[hx2,HS1.out];rfl);have HS2:=k_ (show s2=(unN b 2).2 from by rw[hs2,HS1.out];rfl);have UB6:=k_ (UB5.out.turn hf hr);have HB6:=k_ (HB5.out.trans (hf.below (N:=w.heap.size) HB5.out.size (fun q hq=>by have hq:q=w.heap.size+2:=hq;omega)));have HV6:=k_ (HV5.out.fr hf (fun q hq h=>by have h:q=w.heap.size+2:=h;have:=HLT.out;omega));have HR6:=k_ (hf.heap HR5.out (fun h=>by have h:pb=w.heap.size+2:=h;have:=HLT.out;omega));clear hr hf hx2 hs2 HS1 HB5 UB5 HV5 HR5;go_wp2_with fail;refine(unum_any _ _ _ UB6.out.r (by rw[HS2.out];exact Nat.le_trans (unN_size b 2) (by have:=HSZ.out;omega))).mono ?_;rintro e w7 ⟨rfl,hr,hf⟩;obtain⟨x3,hx3⟩:∃ x,x=(uNum s2).1:=⟨_,rfl⟩;obtain⟨s3,hs3⟩:∃ x,x=(uNum s2).2:=⟨_,rfl⟩;rw[← hs3] at hr;rw[← hx3];have HX3:=k_ (show x3=(unN b 3).1 from by rw[hx3,HS2.out];rfl);have HS3:=k_ (show s3=(unN b 3).2 from by rw[hs3,HS2.out];rfl);have UB7:=k_ (UB6.out.turn hf hr);have HB7:=k_ (HB6.out.trans (hf.below (N:=w.heap.size) HB6.out.size (fun q hq=>by have hq:q=w.heap.size+2:=hq;omega)));have HV7:=k_ (HV6.out.fr hf (fun q hq h=>by have h:q=w.heap.size+2:=h;have:=HLT.out;omega));have HR7:=k_ (hf.heap HR6.out (fun h=>by have h:pb=w.heap.size+2:=h;have:=HLT.out;omega));clear hr hf hx3 hs3 HS2 HB6 UB6 HV6 HR6;go_wp2_with fail;refine(unum_any _ _ _ UB7.out.r (by rw[HS3.out];exact Nat.le_trans (unN_size b 3) (by have:=HSZ.out;omega))).mono ?_;rintro e w8 ⟨rfl,hr,hf⟩;obtain⟨x4,hx4⟩:∃ x,x=(uNum s3).1:=⟨_,rfl⟩;obtain⟨s4,hs4⟩:∃ x,x=(uNum s3).2:=⟨_,rfl⟩;rw[← hs4] at hr;rw[← hx4];have HX4:=k_ (show x4=(unN b 4).1 from by rw[hx4,HS3.out];rfl);have HS4:=k_ (show s4=(unN b 4).2 from by rw[hs4,HS3.out];rfl);have UB8:=k_ (UB7.out.turn hf hr);have HB8:=k_ (HB7.out.trans (hf.below (N:=w.heap.size) HB7.out.size (fun q hq=>by have hq:q=w.heap.size+2:=hq;omega)));have HV8:=k_ (HV7.out.fr hf (fun q hq h=>by have h:q=w.heap.size+2:=h;have:=HLT.out;omega));have HR8:=k_ (hf.heap HR7.out (fun h=>by have h:pb=w.heap.size+2:=h;have:=HLT.out;omega));clear hr hf hx4 hs4 HS3 HB7 UB7 HV7 HR7;go_wp2_with fail;refine(unum_any _ _ _ UB8.out.r (by rw[HS4.out];exact Nat.le_trans (unN_size b 4) (by have:=HSZ.out;omega))).mono ?_;rintro e w9 ⟨rfl,hr,hf⟩;obtain⟨x5,hx5⟩:∃ x,x=(uNum s4).1:=⟨_,rfl⟩;obtain⟨s5,hs5⟩:∃ x,x=(uNum s4).2:=⟨_,rfl⟩;rw[← hs5] at hr;rw[← hx5];have HX5:=k_ (show x5=(unN b 5).1 from by rw[hx5,HS4.out];rfl);have HS5:=k_ (show s5=(unN b 5).2 from by rw[hs5,HS4.out];rfl);have UB9:=k_ (UB8.out.turn hf hr);have HB9:=k_ (HB8.out.trans (hf.below (N:=w.heap.size) HB8.out.size (fun q hq=>by have hq:q=w.heap.size+2:=hq;omega)));have HV9:=k_ (HV8.out.fr hf (fun q hq h=>by have h:q=w.heap.size+2:=h;have:=HLT.out;omega));have HR9:=k_ (hf.heap HR8.out (fun h=>by have h:pb=w.heap.size+2:=h;have:=HLT.out;omega));clear hr hf hx5 hs5 HS4 HB8 UB8 HV8 HR8
 go_upto_region 4 with fail
 obtain⟨w10,hw10⟩:∃ u,u=w9.alloc (.cells #[.int .i64 x1,.int .i64 x2,.int .i64 x3,.int .i64 x4,.int .i64 x5] 50):=⟨_,rfl⟩;have hb:Below w9.heap.size w9 w10:=by rw[hw10];exact(Below.refl _ _).alloc (Nat.le_refl _) _
 have hc:=heap_new w9 (.cells #[.int .i64 x1,.int .i64 x2,.int .i64 x3,.int .i64 x4,.int .i64 x5] 50);rw[← hw10] at hc ⊢;have UB10:=k_ (UB9.out.below hb);have HB10:=k_ (HB9.out.trans (hb.mono HB9.out.size));have HV10:=k_ (HV9.out.fr (Fr.of_below hb (fun _=>False)) (fun _ _ h=>h));have HR10:=k_ ((Fr.of_below hb (fun _=>False)).heap HR9.out (fun h=>h));have hq9:w.heap.size+3≤w9.heap.size:=heap_lt UB9.out.r;obtain⟨qb,hqb⟩:∃ u,u=w9.heap.size:=⟨_,rfl⟩;rw[← hqb] at hc hq9 ⊢;have HC10:=k_ hc;have HQ:=k_ hq9;clear hb hc hq9 hw10 hqb UB9 HB9 HV9 HR9;obtain⟨str,bad⟩:=s5;obtain⟨q0,q1,q2,q3⟩:=two_cells UB10.out.r;obtain⟨⟨d0,d1,d2,d3,d4⟩,_⟩:=five_cells HC10.out;obtain⟨⟨a0',a1',a2'⟩,b0,b1,b2⟩:=three_cells UB10.out.a;obtain⟨⟨e0,e1,e2,e3,e4⟩,f0,f1,f2,f3,f4⟩:=five_cells UB10.out.b
 cases bad with
 | true =>
   have HN:=k_ (show unE b=2 from by unfold unE;rw[if_pos (Or.inl (by rw[← HS5.out]))]);have SR:=k_ (set_res _ w.heap.size (.slice none 0 0) (.slice none 0 0) (.slice none 0 0) (.int .i64 0) (.int .i64 0) (.int .i64 0) (.int .i64 0) (.int .i64 0) UB10.out.a UB10.out.b);go_wp2_with fail;obtain⟨W',hW,r3,r5,hfr⟩:=SR.out;rw[← hW];clear hW;refine bodyPost_ret (res_un _ W' w.heap.size _ _ rfl rfl rfl rfl r3 r5) rfl (show UnPost b w _ W' from⟨HB10.out.trans (hfr.below HB10.out.size (fun k hk=>by rcases hk with hk | hk <;> omega)),Or.inl ⟨by rw[HN.out];decide,by rw[HN.out];rfl⟩⟩)
 | false =>
   by_cases hok:readPOk img=true
   case neg =>
    have HN:=k_ (show unE b=2 from by unfold unE;rw[if_pos (Or.inr (Or.inl (by rw[← HIMG.out];exact Bool.eq_false_iff.2 hok)))]);have hrr:=HRR.out;rw[if_neg hok] at hrr;subst hrr;have SR:=k_ (set_res _ w.heap.size (.slice none 0 0) (.slice none 0 0) (.slice none 0 0) (.int .i64 0) (.int .i64 0) (.int .i64 0) (.int .i64 0) (.int .i64 0) UB10.out.a UB10.out.b);go_wp2_with fail;obtain⟨W',hW,r3,r5,hfr⟩:=SR.out;rw[← hW];clear hW;refine bodyPost_ret (res_un _ W' w.heap.size _ _ rfl rfl rfl rfl r3 r5) rfl (show UnPost b w _ W' from⟨HB10.out.trans (hfr.below HB10.out.size (fun k hk=>by rcases hk with hk | hk <;> omega)),Or.inl ⟨by rw[HN.out];decide,by rw[HN.out];rfl⟩⟩)
   case pos =>
    have hrr:=HRR.out;rw[if_pos hok] at hrr;subst hrr;have HOK:=k_ hok;have HCF:=k_ (show unCfg b=⟨x1,x2,x3,x4,x5⟩ from by unfold unCfg;rw[← HX1.out,← HX2.out,← HX3.out,← HX4.out,← HX5.out]);clear hok HRR;go_wp2_with fail;refine(cfgCheck_any _ ⟨x1,x2,x3,x4,x5⟩).mono ?_;rintro e w11 ⟨rfl,hb⟩;have UB11:=k_ (UB10.out.below hb);have HB11:=k_ (HB10.out.trans (hb.mono HB10.out.size));have HV11:=k_ (HV10.out.fr (Fr.of_below hb (fun _=>False)) (fun _ _ h=>h));have HR11:=k_ ((Fr.of_below hb (fun _=>False)).heap HR10.out (fun h=>h));have HC11:=k_ ((Fr.of_below hb (fun _=>False)).heap HC10.out (fun h=>h));clear hb UB10 HB10 HV10 HR10 HC10 q0 q1 q2 q3 d0 d1 d2 d3 d4 a0' a1' a2' b0 b1 b2 e0 e1 e2 e3 e4 f0 f1 f2 f3 f4
    by_cases hcf:¬ (⟨x1,x2,x3,x4,x5⟩:Cfg).ok
    ·have HN:=k_ (show unE b=2 from by unfold unE;rw[if_pos (Or.inr (Or.inr (by rw[HCF.out];exact hcf)))])
     rw[if_neg hcf];obtain⟨⟨a0',a1',a2'⟩,b0,b1,b2⟩:=three_cells UB11.out.a;obtain⟨⟨e0,e1,e2,e3,e4⟩,f0,f1,f2,f3,f4⟩:=five_cells UB11.out.b;have SR:=k_ (set_res _ w.heap.size (.slice none 0 0) (.slice none 0 0) (.slice none 0 0) (.int .i64 0) (.int .i64 0) (.int .i64 0) (.int .i64 0) (.int .i64 0) UB11.out.a UB11.out.b);go_wp2_with fail;obtain⟨W',hW,r3,r5,hfr⟩:=SR.out;rw[← hW];clear hW;refine bodyPost_ret (res_un _ W' w.heap.size _ _ rfl rfl rfl rfl r3 r5) rfl (show UnPost b w _ W' from⟨HB11.out.trans (hfr.below HB11.out.size (fun k hk=>by rcases hk with hk | hk <;> omega)),Or.inl ⟨by rw[HN.out];decide,by rw[HN.out];rfl⟩⟩)
    have hcf:(⟨x1,x2,x3,x4,x5⟩:Cfg).ok:=Decidable.not_not.1 hcf;have HE:=k_ (show unE b=(entsS str).2 from by
     unfold unE;rw[if_neg (fun h=>h.elim (fun h=>by rw[← HS5.out] at h;cases h) (fun h=>h.elim (fun h=>by rw[← HIMG.out,HOK.out] at h;cases h) (fun h=>h (by rw[HCF.out];exact hcf)))),← HS5.out])
    rw[if_pos hcf];have HSTR:=k_ (show str.size≤100000 from by have h:=unN_size b 5;rw[← HS5.out] at h;exact Nat.le_trans h HSZ.out);clear hcf;obtain⟨q0,q1,q2,q3⟩:=two_cells UB11.out.r;go_wp2_with fail;refine(entries_any str _ HSTR.out).mono ?_;rintro e w12 ⟨v,rfl,ho,hb⟩;have UB12:=k_ (UB11.out.below hb);have HB12:=k_ (HB11.out.trans (hb.mono HB11.out.size));have HV12:=k_ (HV11.out.fr (Fr.of_below hb (fun _=>False)) (fun _ _ h=>h));have HR12:=k_ ((Fr.of_below hb (fun _=>False)).heap HR11.out (fun h=>h));have HC12:=k_ ((Fr.of_below hb (fun _=>False)).heap HC11.out (fun h=>h));have HO12:=k_ ho;have HZ:=k_ HB11.out.size;have HZ3:=k_ (show w.heap.size+3≤w11.heap.size from heap_lt UB11.out.r);clear hb ho UB11 HB11 HV11 HR11 HC11 q0 q1 q2 q3;obtain⟨⟨a0',a1',a2'⟩,b0,b1,b2⟩:=three_cells UB12.out.a;obtain⟨⟨e0,e1,e2,e3,e4⟩,f0,f1,f2,f3,f4⟩:=five_cells UB12.out.b;obtain⟨es,hes⟩:∃ x,x=entsS str:=⟨_,rfl⟩;rw[← hes];rw[← hes] at HE HO12;have HES:=k_ hes;clear hes;obtain⟨l,ec⟩:=es;have hec:ec=0∨ec=2∨ec=5:=by have h:=entsS_code str;rw[← HES.out] at h;exact h
    rcases hec with hec | hec | hec
    case inr.inl =>
     subst hec;have HN:=k_ (show unE b=2 from HE.out);have SR:=k_ (set_res _ w.heap.size (.slice none 0 0) (.slice none 0 0) (.slice none 0 0) (.int .i64 0) (.int .i64 0) (.int .i64 0) (.int .i64 0) (.int .i64 0) UB12.out.a UB12.out.b);go_wp2_with fail;obtain⟨W',hW,r3,r5,hfr⟩:=SR.out;rw[← hW];clear hW;refine bodyPost_ret (res_un _ W' w.heap.size _ _ rfl rfl rfl rfl r3 r5) rfl (show UnPost b w _ W' from⟨HB12.out.trans (hfr.below HB12.out.size (fun k hk=>by rcases hk with hk | hk <;> omega)),Or.inl ⟨by rw[HN.out];decide,by rw[HN.out];rfl⟩⟩)
    case inr.inr =>
     subst hec;have HN:=k_ (show unE b=5 from HE.out);have SR:=k_ (set_res _ w.heap.size (.slice none 0 0) (.slice none 0 0) (.slice none 0 0) (.int .i64 0) (.int .i64 0) (.int .i64 0) (.int .i64 0) (.int .i64 0) UB12.out.a UB12.out.b);go_wp2_with fail;obtain⟨W',hW,r3,r5,hfr⟩:=SR.out;rw[← hW];clear hW;refine bodyPost_ret (res_un _ W' w.heap.size _ _ rfl rfl rfl rfl r3 r5) rfl (show UnPost b w _ W' from⟨HB12.out.trans (hfr.below HB12.out.size (fun k hk=>by rcases hk with hk | hk <;> omega)),Or.inl ⟨by rw[HN.out];decide,by rw[HN.out];rfl⟩⟩)
    subst hec;obtain⟨d0,d1,d2⟩:=(three_cells HR12.out).1;obtain⟨p0,p1,p2,p3,p4⟩:=(five_cells HC12.out).1;have hqq:=HQ.out;have hpp:w.heap.size+3≤pb:=by have:=HLT.out;omega
    have hn1:w.heap.size≠qb:=by omega
    have hn2:w.heap.size+1≠qb:=by omega
    have hn3:w.heap.size≠pb:=by omega
    have hn4:w.heap.size+1≠pb:=by omega
    clear hqq hpp;have SR:=k_ (set_res _ w.heap.size (.slice a0 n0 m0) (.slice a1 n1 m1) (.slice a2 n2 m2) (.int .i64 x1) (.int .i64 x2) (.int .i64 x3) (.int .i64 x4) (.int .i64 x5) UB12.out.a UB12.out.b);have HZZ:=k_ (heap_lt UB12.out.r);have HPB:=k_ (heap_lt HR12.out)
    go_upto_region 9 with fail
    go_region
    all_goals
     obtain⟨W',hW,r3,r5,hfr⟩:=SR.out;rw[← hW];clear hW;have HFR:=k_ hfr;have HR3:=k_ r3;have HR5:=k_ r5;clear r3 r5 hfr;go_wp2_with fail;refine bodyPost_ret (res_un _ W'.drew w.heap.size _ _ rfl rfl rfl rfl HR3.out HR5.out) rfl (show UnPost b w _ W'.drew from⟨(HB12.out.trans (HFR.out.below HB12.out.size (fun k hk=>by rcases hk with hk | hk <;> omega))).drew,Or.inr ⟨HE.out,.slice a0 n0 m0,.slice a1 n1 m1,.slice a2 n2 m2,v,by rw[HCF.out];rfl,?_,?_⟩⟩)
     case refine_1 =>
      have h1:=HV12.out.fr HFR.out (fun k hk h=>by have:=HLT.out;rcases h with h | h <;> omega);rw[← HIMG.out];have h2:=h1.dom (D':=fun k=>w.heap.size≤k∧k<W'.drew.heap.size) (fun k hk=>⟨by have:=HLT.out;omega,Nat.lt_of_lt_of_le hk.2 (Nat.le_trans (Nat.le_of_lt HPB.out) HFR.out.size)⟩);exact h2
     case refine_2 =>
      have h1:=HO12.out.fr HFR.out (fun k hk h=>by have:=(World.ownsRow.lt HO12.out _ hk).1;have:=HZ3.out;rcases h with h | h <;> omega);rw[← HS5.out,← entsS_ok str (by rw[← HES.out]),← HES.out];exact own_low h1 HZ.out
end Go.Proofs.YtlofbhoicbemnaaGreatDoor.Tk
