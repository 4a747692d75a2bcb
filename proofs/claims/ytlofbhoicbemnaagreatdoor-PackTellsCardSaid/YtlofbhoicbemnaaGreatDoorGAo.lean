/- Walk: the reference's Read: the program of bytes. -/
import Derived.Test.YtlofbhoicbemnaaGreatDoorGAk
set_option linter.unusedVariables false
set_option linter.unusedSimpArgs false
set_option maxRecDepth 100000
set_option maxHeartbeats 6400000
namespace Go.Proofs.YtlofbhoicbemnaaGreatDoor
open Go.ChangeShapes Go.WideShapes Go.ChangeAt Go.RowKit
theorem Ay (s:RS) (n:Nat) (h:s.2=true):(bS s n).2.2=true:=by
 unfold bS
 split
 ·rfl
 ·exact h
theorem xM (s:RS) (h:s.2=true):(rFn s).2.2=true:=by
 unfold rFn
 dsimp only
 rw[Ay _ _ (cZ _ (kV _ (cZ _ (cZ _ (kV _ h)))))]
 rfl
theorem FY {s:RS} (h:Emp s) (hb:s.2=true):(rFn s).2=s:=by
 obtain⟨b,t⟩:=s;have hb:t=true:=hb;subst hb;have h2:b=⟨#[]⟩:=h rfl;subst h2
 decide +kernel
theorem wC (s:RS) (n:Nat) (h:s.2=true):(ay s n).2.2=true:=by
 induction n with
 | zero=>exact h
 | succ n ih=>exact kV _ ih
theorem lT {s:RS} (h:Emp s) (n:Nat):Emp (ay s n).2:=by
 induction n with
 | zero=>exact h
 | succ n ih=>exact mM ih
theorem vW {s:RS} (h:Emp s) (k n:Nat) (hk:k≤n) (hb:(ay s k).2.2=true):(ay s n).2=(ay s k).2:=by
 induction n with
 | zero =>
   have:k=0:=by omega
   rw[this]
 | succ n ih =>
   by_cases e:k=n+1
   ·rw[← e]
   ·have h1:=ih (by omega)
    show (aF (ay s n).2).2=_
    rw[h1];exact zw (lT h k) hb
theorem qG (s:RS) (n:Nat) (h:s.2=true):(aL s n).2.2=true:=by
 induction n with
 | zero=>exact h
 | succ n ih=>exact xM _ ih
theorem wT (s:RS) (k n:Nat) (hk:k≤n) (h:(aL s k).2.2=true):(aL s n).2.2=true:=by
 induction n with
 | zero =>
   have:k=0:=by omega
   rw[this] at h;exact h
 | succ n ih =>
   by_cases e:k=n+1
   ·rw[← e];exact h
   ·exact xM _ (ih (by omega))
theorem yV {s:RS} (k n:Nat) (hk:k≤n) (he:Emp (aL s k).2) (hb:(aL s k).2.2=true):(aL s n).2=(aL s k).2:=by
 induction n with
 | zero =>
   have:k=0:=by omega
   rw[this]
 | succ n ih =>
   by_cases e:k=n+1
   ·rw[← e]
   ·have h1:=ih (by omega)
    show (rFn (aL s n).2).2=_
    rw[h1];exact FY he hb
def jo (p q:Nat) (g:Value) (wr:World) (s:RS) (ls:List (List Int)):Prop :=
 ∃ hs n c a,wr.heap[q]?=some (.cells #[g,.slice a n c,.slice none 0 0] 48)∧Own shE wr q (.slice a n c) hs∧ik wr (Hf q (.slice a n c) wr) hs ls ∧
  eZ wr p s∧(Value.slice a n c).ownBlock≠some q
theorem jo.step {p q:Nat} {g:Value} {wr w3 w4:World} {ls:List (List Int)} {l:List Int} {hs:List Hd} {n c n3 n4 c4:Nat} {a a3 a4:Option Addr} {s':RS} (hpq:p<q)
  (hloc:wr.heap[q]?=some (.cells #[g,.slice a n c,.slice none 0 0] 48)) (hown:Own shE wr q (.slice a n c) hs) (hinv:ik wr (Hf q (.slice a n c) wr) hs ls) (hvq:(Value.slice a n c).ownBlock≠some q)
  (ho3:Own aG w3 wr.heap.size (.slice a3 l.length n3) l) (hs3:aQ w3 (fun k=>(Value.slice a3 l.length n3).ownBlock=some k) a3 l) (hr3:eZ w3 p s') (hf3:Fr (onB p) wr w3)
  (ob:Obj) (ho4:Own shE w4 q (.slice a4 n4 c4) (hs ++ [⟨a3,l.length,n3⟩])) (hg4:(w3.alloc ob).grownBy w4 (Value.slice a n c).ownBlock) (hfr4:eO (w3.alloc ob) (.slice a n c) (.slice a4 n4 c4))
  (loc4:w4.heap[q]?=some (.cells #[g,.slice a n c,.slice none 0 0] 48)) :
  jo p q g (w4.setCell ⟨q,1,none⟩ (.slice a4 n4 c4)) s' (ls ++ [l])∧Fr (fun k=>k=p∨q≤k) wr (w4.setCell ⟨q,1,none⟩ (.slice a4 n4 c4)):=by
 have hq3:q<w3.heap.size:=Nat.lt_of_lt_of_le (aj hloc) hf3.size;have hq:q<wr.heap.size:=aj hloc;have h34:Fr (fun k=>(Value.slice a n c).ownBlock=some k∨k=q) w3 (w4.setCell ⟨q,1,none⟩ (.slice a4 n4 c4)) :=
  ((((Fr.refl _ _).alloc ob).grown hg4 (fun k hk _=>.inl hk)).setCell (p:=⟨q,1,none⟩) (fun _=>.inr rfl) _)
 have hv4:∀ k,(Value.slice a4 n4 c4).ownBlock=some k→(Value.slice a n c).ownBlock=some k∨w3.heap.size<k+1:=fun k hk=>by
  rcases hfr4 k hk with h | h
  ·exact .inl h
  ·simp at h;exact .inr (by omega)
 have hsz:w3.heap.size+1≤(w4.setCell ⟨q,1,none⟩ (.slice a4 n4 c4)).heap.size:=by
  have:=hg4.size;simp at *;omega
 have hv4q:(Value.slice a4 n4 c4).ownBlock≠some q:=fun e=>by
  rcases hv4 q e with h | h
  ·exact hvq h
  ·omega
 refine⟨⟨_,n4,c4,a4,ag loc4 1 _,ho4.fr (Fr.setAt w4 q 1 _) (fun k hk e=>by unfold onB at e;subst e;exact hv4q hk),?_,?_,hv4q⟩,?_⟩
 ·refine ik.snoc ?_ rfl ?_
  ·have hall:Fr (fun k=>k=p∨(Value.slice a n c).ownBlock=some k∨k=q) wr (w4.setCell ⟨q,1,none⟩ (.slice a4 n4 c4)):=(hf3.mono (fun k h=>Or.inl h)).trans h34 (fun k _ h=>.inr h)
   refine hinv.fr hall (fun k hk h=>?_) (fun k hk=>?_)
   ·obtain⟨h1,h2,h3⟩:=hk
    rcases h with h | h | h
    ·omega
    ·exact h3 h
    ·omega
   ·obtain⟨h1,h2,h3⟩:=hk
    refine⟨h1,by have:=hf3.size;omega,fun e=>?_⟩
    rcases hv4 k e with h | h
    ·exact h3 h
    ·have:=hf3.size;omega
  ·refine(hs3.fr h34 (fun k hk h=>?_)).dom (fun k hk=>?_)
   ·have h1:=ho3.lt hk
    rcases h with h | h
    ·have:=(hown.lt h).2;omega
    ·omega
   ·have h1:=ho3.lt hk
    refine⟨by omega,by omega,fun e=>?_⟩
    rcases hv4 k e with h | h
    ·have:=(hown.lt h).2;omega
    ·omega
 ·refine hr3.fr h34 (fun h=>?_)
  rcases h with h | h
  ·have:=(hown.lt h).1;omega
  ·omega
 ·refine(hf3.mono (fun k h=>Or.inl h)).trans h34 (fun k hk h=>?_)
  rcases h with h | h
  ·exact .inr (hown.lt h).1
  ·exact .inr (by omega)
def iO (p q:Nat) (g sv:Value) (hs:List Hd) (ls:List (List Int)) (wr:World) (s:RS) (fs:List Fun):Prop :=
 ∃ xs n c a,wr.heap[q]?=some (.cells #[g,sv,.slice a n c] 48)∧Own fnE wr q (.slice a n c) xs∧kg wr (lG q sv (.slice a n c) wr) xs fs∧ik wr (lG q sv (.slice a n c) wr) hs ls∧Own shE wr q sv hs ∧
  eZ wr p s∧(Value.slice a n c).ownBlock≠some q∧∀ k,(Value.slice a n c).ownBlock=some k→sv.ownBlock≠some k
theorem iO.step {p q:Nat} {g sv:Value} {wr w3 w4:World} {hs:List Hd} {ls:List (List Int)} {fs:List Fun} {f:Fun} {xs:List FnH} {n c n4 c4:Nat} {a a4:Option Addr} {s':RS} {x:FnH} (hpq:p<q)
  (hloc:wr.heap[q]?=some (.cells #[g,sv,.slice a n c] 48)) (hown:Own fnE wr q (.slice a n c) xs) (hinv:kg wr (lG q sv (.slice a n c) wr) xs fs) (hsh:ik wr (lG q sv (.slice a n c) wr) hs ls) (hso:Own shE wr q sv hs)
  (hsq:sv.ownBlock≠some q) (hvq:(Value.slice a n c).ownBlock≠some q) (hdis:∀ k,(Value.slice a n c).ownBlock=some k→sv.ownBlock≠some k)
  (hx:um w3 (fun k=>wr.heap.size≤k∧k<w3.heap.size) x f) (hr3:eZ w3 p s') (hf3:Fr (onB p) wr w3)
  (ob:Obj) (ho4:Own fnE w4 q (.slice a4 n4 c4) (xs ++ [x])) (hg4:(w3.alloc ob).grownBy w4 (Value.slice a n c).ownBlock) (hfr4:eO (w3.alloc ob) (.slice a n c) (.slice a4 n4 c4))
  (loc4:w4.heap[q]?=some (.cells #[g,sv,.slice a n c] 48)) :
  iO p q g sv hs ls (w4.setCell ⟨q,2,none⟩ (.slice a4 n4 c4)) s' (fs ++ [f])∧Fr (fun k=>k=p∨q≤k) wr (w4.setCell ⟨q,2,none⟩ (.slice a4 n4 c4)):=by
 have hq3:q<w3.heap.size:=Nat.lt_of_lt_of_le (aj hloc) hf3.size;have hq:q<wr.heap.size:=aj hloc;have h34:Fr (fun k=>(Value.slice a n c).ownBlock=some k∨k=q) w3 (w4.setCell ⟨q,2,none⟩ (.slice a4 n4 c4)) :=
  ((((Fr.refl _ _).alloc ob).grown hg4 (fun k hk _=>.inl hk)).setCell (p:=⟨q,2,none⟩) (fun _=>.inr rfl) _)
 have hv4:∀ k,(Value.slice a4 n4 c4).ownBlock=some k→(Value.slice a n c).ownBlock=some k∨w3.heap.size<k+1:=fun k hk=>by
  rcases hfr4 k hk with h | h
  ·exact .inl h
  ·simp at h;exact .inr (by omega)
 have hsz:w3.heap.size+1≤(w4.setCell ⟨q,2,none⟩ (.slice a4 n4 c4)).heap.size:=by
  have:=hg4.size;simp at *;omega
 have hv4q:(Value.slice a4 n4 c4).ownBlock≠some q:=fun e=>by
  rcases hv4 q e with h | h
  ·exact hvq h
  ·omega
 have hall:Fr (fun k=>k=p∨(Value.slice a n c).ownBlock=some k∨k=q) wr (w4.setCell ⟨q,2,none⟩ (.slice a4 n4 c4)):=(hf3.mono (fun k h=>Or.inl h)).trans h34 (fun k _ h=>.inr h);have hd1:∀ k,lG q sv (.slice a n c) wr k→¬ (k=p∨(Value.slice a n c).ownBlock=some k∨k=q):=fun k hk h=>by
  obtain⟨h1,h2,h3,h4⟩:=hk
  rcases h with h | h | h
  ·omega
  ·exact h4 h
  ·omega
 have hd2:∀ k,lG q sv (.slice a n c) wr k→lG q sv (.slice a4 n4 c4) (w4.setCell ⟨q,2,none⟩ (.slice a4 n4 c4)) k:=fun k hk=>by
  obtain⟨h1,h2,h3,h4⟩:=hk;refine⟨h1,by have:=hf3.size;omega,h3,fun e=>?_⟩
  rcases hv4 k e with h | h
  ·exact h4 h
  ·have:=hf3.size;omega
 refine⟨⟨_,n4,c4,a4,ag loc4 2 _,ho4.fr (Fr.setAt w4 q 2 _) (fun k hk e=>by unfold onB at e;subst e;exact hv4q hk),?_,hsh.fr hall hd1 hd2,?_,?_,hv4q,?_⟩,?_⟩
 ·refine kg.snoc (hinv.fr hall hd1 hd2) (hx.fr h34 (fun k hk h=>?_) (fun k hk=>?_))
  ·rcases h with h | h
   ·have:=(hown.lt h).2;omega
   ·omega
  ·refine⟨by omega,by omega,fun e=>?_,fun e=>?_⟩
   ·have:=(hso.lt e).2;omega
   ·rcases hv4 k e with h | h
    ·have:=(hown.lt h).2;omega
    ·omega
 ·refine hso.fr hall (fun k hk h=>?_)
  rcases h with h | h | h
  ·have:=(hso.lt hk).1;omega
  ·exact hdis k h hk
  ·subst h;exact hsq hk
 ·refine hr3.fr h34 (fun h=>?_)
  rcases h with h | h
  ·have:=(hown.lt h).1;omega
  ·omega
 ·intro k hk e
  rcases hv4 k hk with h | h
  ·exact hdis k h e
  ·have:=(hso.lt e).2;have:=hf3.size;omega
 ·refine(hf3.mono (fun k h=>Or.inl h)).trans h34 (fun k hk h=>?_)
  rcases h with h | h
  ·exact .inr (hown.lt h).1
  ·exact .inr (by omega)
def nK (b:ByteArray) (w:World) (e:Ending) (w':World):Prop :=
 ∃ c0 c1 c2,e=.returned (.tuple #[.agg #[c0,c1,c2],.bool (bK b)])∧aD w' (fun k=>w.heap.size≤k∧k<w'.heap.size) (gT b) c0 c1 c2∧Below w.heap.size w w'
theorem zn (b:ByteArray) (w:World) (hb:b.size≤100000) :
  Calls Tryz.prog 56 #[.string b] w (nK b w):=by
 have hP0:jq b=(⟨(aF (b,false)).1,(ay (aC (aF (b,false)).2).2 (aC (aF (b,false)).2).1.toNat).1,(aL (aC (ay (aC (aF (b,false)).2).2 (aC (aF (b,false)).2).1.toNat).2).2 (aC (ay (aC (aF (b,false)).2).2 (aC (aF (b,false)).2).1.toNat).2).1.toNat).1⟩,(aL (aC (ay (aC (aF (b,false)).2).2 (aC (aF (b,false)).2).1.toNat).2).2 (aC (ay (aC (aF (b,false)).2).2 (aC (aF (b,false)).2).1.toNat).2).1.toNat).2):=rfl;have hrd:=ai (w.alloc (.cells #[.slice none 0 0,.slice none 0 0,.slice none 0 0] 48)) (.cells #[.string b,.bool false] 142);have hrd:eZ ((w.alloc (.cells #[.slice none 0 0,.slice none 0 0,.slice none 0 0] 48)).alloc (.cells #[.string b,.bool false] 142)) (w.heap.size+1) (b,false):=by
  rw[show (w.alloc (.cells #[.slice none 0 0,.slice none 0 0,.slice none 0 0] 48)).heap.size=w.heap.size+1 from by simp] at hrd;exact hrd
 have he0:Emp (b,false):=fun h=>by cases h
 have l1:=kN _ _ _ hrd (by dsimp only;omega) he0;have he1:=mM he0;have m1:(aF (b,false)).2.2=true→(jq b).2.2=true:=fun h=>by
  rw[hP0];exact qG _ _ (cZ _ (wC _ _ (cZ _ h)))
 have m2:(ay (aC (aF (b,false)).2).2 (aC (aF (b,false)).2).1.toNat).2.2=true→(jq b).2.2=true:=fun h=>by
  rw[hP0];exact qG _ _ (cZ _ h)
 have hx:=dX (b,false)
 dsimp only at hx
 clear hrd he0;unfold iy at l1;generalize aF (b,false)=t1 at *;obtain⟨g,s1⟩:=t1
 dsimp only at l1 hx he1 m1
 have l2:=fun w1 (h:eZ w1 (w.heap.size+1) s1)=>iq w1 _ s1 h (by omega)
 have he2:=gV he1;have hx2:=bM s1;have hbd:=jP s1;generalize aC s1=t2 at *;obtain⟨n1,s2⟩:=t2
 dsimp only at l2 hx2 hbd he2
 obtain⟨n1,rfl⟩:=Int.eq_ofNat_of_zero_le hbd.1;rw[Int.toNat_natCast] at hP0 m2;have hn1:n1≤255:=by omega
 clear hbd he1;have l3:=fun w1 k (h:eZ w1 (w.heap.size+1) (ay s2 k).2)=>kN w1 _ (ay s2 k).2 h (Nat.le_trans (fQ _ _) (by omega)) (lT he2 k)
 have l4:=fun w1 (h:eZ w1 (w.heap.size+1) (ay s2 n1).2)=>iq w1 _ (ay s2 n1).2 h (Nat.le_trans (fQ _ _) (by omega))
 have hx4:=Nat.le_trans (bM (ay s2 n1).2) (fQ s2 n1);have he4:=gV (lT he2 n1);have hbd4:=jP (ay s2 n1).2;generalize hg4:aC (ay s2 n1).2=t4 at *;clear hg4;obtain⟨n2,s4⟩:=t4
 dsimp only at l4 hx4 hbd4 hP0 he4
 obtain⟨n2,rfl⟩:=Int.eq_ofNat_of_zero_le hbd4.1;rw[Int.toNat_natCast] at hP0;have hn2:n2≤255:=by omega
 clear hbd4;unfold iy at l3;have hs4:s4.1.size≤100000:=by omega
 clear hx hx2 hx4 hb;have HP0:=k_ hP0;clear hP0;have L1:=k_ l1;clear l1;have L2:=k_ l2;clear l2;have L3:=k_ l3;clear l3;have L4:=k_ l4;clear l4;have M1:=k_ m1;clear m1;have M2:=k_ m2;clear m2;have HE2:=k_ he2;clear he2;have HE4:=k_ he4;clear he4
 go_enter Tryz.func56,Tryz.ntmps56
 go_wp2_with fail;refine L1.out.mono ?_;rintro e w1 ⟨v0,g',rfl,ho0,hr1,hf1,hgl,hgo⟩;obtain⟨a0,m0,c0,rfl⟩:=ho0.slice;have hB1:w.heap.size+2≤w1.heap.size:=by have:=hf1.size;simpa using this
 have loc1:=ai w1 (.cells #[.slice a0 m0 c0,.slice none 0 0,.slice none 0 0] 48);have c2:=k_ (L2.out _ (hr1.alloc (.cells #[.slice a0 m0 c0,.slice none 0 0,.slice none 0 0] 48)));have LOC1:=k_ loc1;clear loc1;have HO0:=k_ ho0;clear ho0;have HGO:=k_ hgo;clear hgo;clear hr1;have HF1:=k_ hf1;clear hf1;go_wp2_with fail;refine c2.out.mono ?_;rintro e w2 ⟨rfl,hr2,hf2⟩;have loc2:=hf2.heap LOC1.out (by unfold onB;omega);have LOC2:=k_ loc2;clear loc2;have HF2:=k_ hf2;clear hf2;have HR2:=k_ hr2;clear hr2
 go_upto_block 0 with fail
 go_cut [] (fun wx=>∃ ls,jo (w.heap.size+1) w1.heap.size (.slice a0 m0 c0) wx (ay s2 n1).2 ls∧ls.length≤255∧(ls=(ay s2 n1).1∨(ay s2 n1).2.2=true)∧Fr (fun k=>k=w.heap.size+1∨w1.heap.size≤k) w1 wx)
 case first =>
  go_wp2_with fail
  go_loopw [7] (fun i wr=>∃ (k:Nat) (ls:List (List Int)),k≤n1∧i=.int .i64 k∧jo (w.heap.size+1) w1.heap.size (.slice a0 m0 c0) wr (ay s2 k).2 ls∧ls.length=k∧(ls=(ay s2 k).1∨(ay s2 k).2.2=true)∧Fr (fun k=>k=w.heap.size+1∨w1.heap.size≤k) w1 wr) (fun i _=>n1 - (intOf i).toNat)
  case atStart =>
   refine⟨0,[],Nat.zero_le _,rfl,⟨[],0,0,none,LOC2.out,Own.nil _ _ _,⟨rfl,fun j hj=>by cases hj⟩,HR2.out,fun h=>by simp[Value.ownBlock] at h⟩,rfl,.inl rfl,?_⟩;exact((Fr.refl _ _).alloc _).trans HF2.out (fun k _ h=>.inl h)
  case round =>
   obtain⟨k,ls,hk,rfl,⟨hs,n,c,a,hloc,hown,hinv,hrd,hvq⟩,hlk,hor,hf⟩:=hrel;obtain⟨r0,r1,_,_⟩:=nN (show _=some (Obj.cells #[.string (ay s2 k).2.1,.bool (ay s2 k).2.2] 142) from hrd)
   by_cases hlt:k<n1
   ·cases hbad:(ay s2 k).2.2
    ·rw[hbad] at r1
     obtain⟨⟨q0,q1,q2⟩,f0,f1,f2⟩:=aH hloc;have CALL:=k_ (L3.out wr.drew k (show eZ wr.drew _ _ from hrd));have hex:ls=(ay s2 k).1:=hor.elim id (fun h=>by rw[hbad] at h;cases h);clear hor hbad;have HLOC:=k_ hloc;clear hloc;have HOWN:=k_ hown;clear hown;have HINV:=k_ hinv;clear hinv;have HRD:=k_ hrd;clear hrd;have HF:=k_ hf;clear hf;have HVQ:=k_ hvq;clear hvq;have HEX:=k_ hex;clear hex;go_wp2_with fail;have hnp:∀ k,(Value.slice a n c).ownBlock=some k→¬ onB (w.heap.size+1) k:=fun k hk h=>by have:=(HOWN.out.lt hk).1;unfold onB at h;omega
     have hhl:hs.length≤256:=by rw[HINV.out.1];omega
     have hqp:w1.heap.size≠w.heap.size+1:=by omega
     have HNP:=k_ hnp;clear hnp;have HHL:=k_ hhl;clear hhl;have hsn:ay s2 (k+1)=((ay s2 k).1 ++ [(aF (ay s2 k).2).1],(aF (ay s2 k).2).2):=rfl;obtain⟨l,hl⟩:∃ l,l=(aF (ay s2 k).2).1:=⟨_,rfl⟩;obtain⟨s',hs'⟩:∃ s',s'=(aF (ay s2 k).2).2:=⟨_,rfl⟩;have CALL:=CALL.out;rw[← hl,← hs'] at CALL hsn;have CALL:=k_ CALL;clear hl hs' r0 r1;have HSN:=k_ hsn;clear hsn
     go_region_law (first | (go_simp;go_at_call 81;refine CALL.out.mono ?_;rintro e w3 ⟨v3,l',rfl,ho3,hr3,hf3,hl3,hor3⟩;obtain⟨a3,n3,rfl,hs3⟩:=bI ho3;have q1':=hf3.cell (show wr.drew.cell? _=_ from q1) (by unfold onB;exact hqp);have q1'':w1.heap.size<w3.heap.size:=World.block_lt q1') | (refine aS shE rfl (.tmp 34) (.tmp 38) rfl w1.heap.size hs [⟨a3,l'.length,n3⟩] _ rfl ((HOWN.out.drew.fr hf3 HNP.out).alloc _) w3.heap.size 0 1 rfl (aA.new _ _ _ _) (by have:=HHL.out;simp;omega) (by have:=hf3.size;have:=aj HLOC.out;simp at *;omega) ?_;intro v4 w4 ho4 hg4 hfr4;have loc4:w4.heap[w1.heap.size]?=some (.cells #[.slice a0 m0 c0,.slice a n c,.slice none 0 0] 48):=(by rw[hg4.block _ (by have:=hf3.size;have:=aj HLOC.out;simp at *;omega) (fun e=>HVQ.out e.symm),Below.heap_alloc _ _ _ (by have:=hf3.size;have:=aj HLOC.out;simp at *;omega)];exact hf3.heap HLOC.out (by unfold onB;exact hqp));obtain⟨⟨k0,k1,k2⟩,j0,j1,j2⟩:=aH loc4;obtain⟨a4,n4,c4,rfl⟩:=ho4.slice))
     all_goals
      have hst:=jo.step (p:=w.heap.size+1) (by omega) HLOC.out HOWN.out HINV.out HVQ.out ho3 hs3 hr3 ⟨hf3.os,hf3.tape,hf3.output,hf3.size,hf3.block⟩ _ ho4 hg4 hfr4 loc4;have HST:=k_ hst;clear hst;have HOR3:=k_ hor3;clear hor3;clear ho3 hs3 hr3 hf3 ho4 hg4 hfr4 loc4;go_wp2_with fail
      go_roundw
      case rel =>
       refine⟨k+1,ls ++ [l'],by omega,by go_num,by rw[HSN.out];exact HST.out.1,by simp[hlk],?_,HF.out.trans HST.out.2 (fun _ _ h=>h)⟩;rw[HSN.out]
       rcases HOR3.out with h | h
       ·left;rw[HEX.out,h]
       ·right;exact h
      case measure=>simp[intOf];omega
    ·rw[hbad] at r1
     have hst:=vW HE2.out k n1 hk hbad;have hgo2:∃ ls,jo (w.heap.size+1) w1.heap.size (.slice a0 m0 c0) wr (ay s2 n1).2 ls∧ls.length≤255∧(ls=(ay s2 n1).1∨(ay s2 n1).2.2=true)∧Fr (fun k=>k=w.heap.size+1∨w1.heap.size≤k) w1 wr :=
      ⟨ls,by rw[hst];exact⟨hs,n,c,a,hloc,hown,hinv,hrd,hvq⟩,by omega,.inr (by rw[hst];exact hbad),hf⟩
     clear hst hbad hor;have HLOC:=k_ hloc;clear hloc;have HOWN:=k_ hown;clear hown;have HINV:=k_ hinv;clear hinv;have HRD:=k_ hrd;clear hrd;have HF:=k_ hf;clear hf;have HVQ:=k_ hvq;clear hvq;have HGO2:=k_ hgo2;clear hgo2;go_wp2_with fail
     go_meet
     case rel=>exact HGO2.out
   ·have hk':k=n1:=by omega
    have hgo:∃ ls,jo (w.heap.size+1) w1.heap.size (.slice a0 m0 c0) wr (ay s2 n1).2 ls∧ls.length≤255∧(ls=(ay s2 n1).1∨(ay s2 n1).2.2=true)∧Fr (fun k=>k=w.heap.size+1∨w1.heap.size≤k) w1 wr:=by
     rw[← hk'];exact⟨ls,⟨hs,n,c,a,hloc,hown,hinv,hrd,hvq⟩,by omega,hor,hf⟩
    clear hloc hown hinv hrd hf hvq hor;have HGO2:=k_ hgo;clear hgo;subst hk';go_wp2_with fail
    go_meet
    case rel=>exact HGO2.out
 case rest =>
  obtain⟨ls,⟨hs,n,c,a,hloc,hown,hinv,hrd,hvq⟩,hll,hor,hf⟩:=hcut;have C4:=k_ (L4.out _ hrd);have hsq:=k_ hvq;have HLOC:=k_ hloc;clear hloc;have HOWN:=k_ hown;clear hown;have HINV:=k_ hinv;clear hinv;have HF:=k_ hf;clear hf;have HVQ:=k_ hvq;clear hvq;have HOR:=k_ hor;clear hor;clear hrd;go_wp2_with fail;refine C4.out.mono ?_;rintro e w5 ⟨rfl,hr5,hf5⟩;have st0:iO (w.heap.size+1) w1.heap.size (.slice a0 m0 c0) (.slice a n c) hs ls w5 s4 []:=by
   refine⟨[],0,0,none,hf5.heap HLOC.out (by unfold onB;omega),Own.nil _ _ _,⟨rfl,fun j hj=>by cases hj⟩,?_,HOWN.out.fr hf5 (fun k hk=>by have:=(HOWN.out.lt hk).1;unfold onB;omega),hr5,fun h=>by simp[Value.ownBlock] at h,fun k hk=>by simp[Value.ownBlock] at hk⟩;refine HINV.out.fr hf5 (fun k hk h=>?_) (fun k hk=>⟨hk.1,Nat.lt_of_lt_of_le hk.2.1 hf5.size,hk.2.2,fun h=>by simp[Value.ownBlock] at h⟩);have:=hk.1;unfold onB at h;omega
  have hf6:=HF.out.trans hf5 (fun k _ h=>.inl h);have ST0:=k_ st0;clear st0;have HF6:=k_ hf6;clear hf6;clear hf5 hr5;have P0:=HP0.out;have hdoom:∀ j,j≤n2→(aL s4 j).2.2=true→bK b=false:=fun j hj h=>by
   have h2:(jq b).2.2=true:=by rw[P0];exact wT s4 j n2 hj h
   unfold bK;rw[h2];rfl
  clear P0;have hres1:w1.heap[w.heap.size]?=some (.cells #[.slice none 0 0,.slice none 0 0,.slice none 0 0] 48):=by
   refine HF1.out.heap ?_ (by unfold onB;omega);rw[Below.heap_alloc _ _ _ (by simp)];exact ai w _
  have hbel:∀ W,Fr (fun k=>k=w.heap.size+1∨w1.heap.size≤k) w1 W→Below w.heap.size w W:=fun W h=>by
   have h1:Below w.heap.size w w1:=(((Below.refl _ _).alloc (Nat.le_refl _) _).alloc (by simp) _).trans (HF1.out.below (by simp;omega) (fun k hk=>by unfold onB at hk;omega));exact h1.trans (h.below (by omega) (fun k hk=>by omega))
  have hset:∀ W x0 x1 x2,W.heap[w.heap.size]?=some (.cells #[.slice none 0 0,.slice none 0 0,.slice none 0 0] 48)→(((W.setCell ⟨w.heap.size,0,none⟩ x0).setCell ⟨w.heap.size,1,none⟩ x1).setCell ⟨w.heap.size,2,none⟩ x2).heap[w.heap.size]?=some (.cells #[x0,x1,x2] 48)∧Fr (onB w.heap.size) W (((W.setCell ⟨w.heap.size,0,none⟩ x0).setCell ⟨w.heap.size,1,none⟩ x1).setCell ⟨w.heap.size,2,none⟩ x2):=fun W x0 x1 x2 h =>
   ⟨ag (ag (ag h 0 _) 1 _) 2 _,(((Fr.refl (onB w.heap.size) W).setCell (p:=⟨w.heap.size,0,none⟩) (fun _=>rfl) _).setCell (p:=⟨w.heap.size,1,none⟩) (fun _=>rfl) _).setCell (p:=⟨w.heap.size,2,none⟩) (fun _=>rfl) _⟩
  have hno:∀ W,Fr (fun k=>k=w.heap.size+1∨w1.heap.size≤k) w1 W→bK b=false→W.heap[w.heap.size]?=some (.cells #[.slice none 0 0,.slice none 0 0,.slice none 0 0] 48) ∧
    (((W.setCell ⟨w.heap.size,0,none⟩ (.slice none 0 0)).setCell ⟨w.heap.size,1,none⟩ (.slice none 0 0)).setCell ⟨w.heap.size,2,none⟩ (.slice none 0 0)).heap[w.heap.size]?=some (.cells #[.slice none 0 0,.slice none 0 0,.slice none 0 0] 48) ∧
    nK b w (.returned (.tuple #[.agg #[.slice none 0 0,.slice none 0 0,.slice none 0 0],.bool false])) (((W.setCell ⟨w.heap.size,0,none⟩ (.slice none 0 0)).setCell ⟨w.heap.size,1,none⟩ (.slice none 0 0)).setCell ⟨w.heap.size,2,none⟩ (.slice none 0 0)):=fun W h hn=>by
   have h1:=h.heap hres1 (by omega);obtain⟨h2,h3⟩:=hset W (.slice none 0 0) (.slice none 0 0) (.slice none 0 0) h1;have h4:=hbel W h;refine⟨h1,h2,_,_,_,by rw[hn],?_,h4.trans (h3.below (by have:=h4.size;omega) (fun k hk=>by unfold onB at hk;omega))⟩;unfold gT;rw[hn];exact⟨⟨none,0,rfl,fun j hj=>by cases hj⟩,⟨none,0,rfl,fun j hj=>by cases hj⟩,none,0,rfl,fun j hj=>by cases hj⟩
  have HDOOM:=k_ hdoom;clear hdoom;have HRES1:=k_ hres1;clear hres1;have HBEL:=k_ hbel;clear hbel;have HSET:=k_ hset;clear hset;have HNO:=k_ hno;clear hno
  go_upto_block 2 with fail
  go_cut [] (fun wx=>∃ fs,iO (w.heap.size+1) w1.heap.size (.slice a0 m0 c0) (.slice a n c) hs ls wx (aL s4 n2).2 fs∧(fs=(aL s4 n2).1∨(aL s4 n2).2.2=true)∧Fr (fun k=>k=w.heap.size+1∨w1.heap.size≤k) w1 wx)
  case first =>
   go_wp2_with fail
   go_loopw [8] (fun i wr=>∃ (j:Nat) (fs:List Fun),j≤n2∧i=.int .i64 j∧iO (w.heap.size+1) w1.heap.size (.slice a0 m0 c0) (.slice a n c) hs ls wr (aL s4 j).2 fs∧fs.length=j∧(fs=(aL s4 j).1∨(aL s4 j).2.2=true)∧Emp (aL s4 j).2∧Fr (fun k=>k=w.heap.size+1∨w1.heap.size≤k) w1 wr) (fun i _=>n2 - (intOf i).toNat)
   case atStart=>exact⟨0,[],Nat.zero_le _,rfl,ST0.out,rfl,.inl rfl,HE4.out,HF6.out⟩
   case round =>
    obtain⟨j,fs,hj,rfl,⟨xs,nf,cf,af,hloc2,hown2,hinv2,hsh2,hso2,hrd2,hvq2,hdis2⟩,hlk2,hor2,hem2,hf2⟩:=hrel;obtain⟨r0,r1,_,_⟩:=nN (show _=some (Obj.cells #[.string (aL s4 j).2.1,.bool (aL s4 j).2.2] 142) from hrd2)
    by_cases hlt:j<n2
    ·cases hbad:(aL s4 j).2.2
     ·rw[hbad] at r1
      have hex:fs=(aL s4 j).1:=hor2.elim id (fun h=>by rw[hbad] at h;cases h);have hsn:aL s4 (j+1)=((aL s4 j).1 ++ [(rFn (aL s4 j).2).1],(rFn (aL s4 j).2).2):=rfl;have hsz:=qF s4 j;have hdm:=HDOOM.out (j+1) (by omega);rw[hsn] at hdm;generalize aL s4 j=T at *;obtain⟨T1,s⟩:=T
      dsimp only at hbad hex hsn hsz hdm hrd2 r0 r1 hem2
      subst hex;have hx:rFn s=(⟨(aF s).1,(aC (aF s).2).1,(aC (aC (aF s).2).2).1,(aF (aC (aC (aF s).2).2).2).1,eQ (bS (aC (aF (aC (aC (aF s).2).2).2).2).2 ((aC (aF (aC (aC (aF s).2).2).2).2).1.toNat * 7)).1⟩,((bS (aC (aF (aC (aC (aF s).2).2).2).2).2 ((aC (aF (aC (aC (aF s).2).2).2).2).1.toNat * 7)).2.1,(bS (aC (aF (aC (aC (aF s).2).2).2).2).2 ((aC (aF (aC (aC (aF s).2).2).2).2).1.toNat * 7)).2.2 || !bV (bS (aC (aF (aC (aC (aF s).2).2).2).2).2 ((aC (aF (aC (aC (aF s).2).2).2).2).1.toNat * 7)).1)):=rfl;have l1:=fun w1 (h:eZ w1 (w.heap.size+1) s)=>kN w1 _ s h (by omega) hem2
      have z1:=dX s;have e1:=mM hem2;clear hem2;unfold iy at l1;generalize aF s=t1 at *;obtain⟨args,s1'⟩:=t1
      dsimp only at l1 z1 e1 hx
      have l2:=fun w1 (h:eZ w1 (w.heap.size+1) s1')=>iq w1 _ s1' h (by omega)
      have z2:=bM s1';have e2:=gV e1;have o2:=cZ s1';generalize aC s1'=t2 at *;obtain⟨res,s2'⟩:=t2
      dsimp only at l2 z2 e2 o2 hx
      have l3:=fun w1 (h:eZ w1 (w.heap.size+1) s2')=>iq w1 _ s2' h (by omega)
      have z3:=bM s2';have e3:=gV e2;have o3:=cZ s2';generalize aC s2'=t3 at *;obtain⟨slots,s3'⟩:=t3
      dsimp only at l3 z3 e3 o3 hx
      have l4:=fun w1 (h:eZ w1 (w.heap.size+1) s3')=>kN w1 _ s3' h (by omega) e3
      have z4:=dX s3';have e4:=mM e3;have o4:=kV s3';unfold iy at l4;generalize aF s3'=t4 at *;obtain⟨objs,s4'⟩:=t4
      dsimp only at l4 z4 e4 o4 hx
      have l5:=fun w1 (h:eZ w1 (w.heap.size+1) s4')=>iq w1 _ s4' h (by omega)
      have z5:=bM s4';have e5:=gV e4;have o5:=cZ s4';have b5:=jP s4';generalize aC s4'=t5 at *;obtain⟨nn,s5⟩:=t5
      dsimp only at l5 z5 e5 o5 b5 hx
      obtain⟨N,rfl⟩:=Int.eq_ofNat_of_zero_le b5.1;rw[Int.toNat_natCast] at hx;have hN:N≤255:=by omega
      have g1:s1'.2=true→s5.2=true:=fun h=>o5 (o4 (o3 (o2 h)))
      have g4:s4'.2=true→s5.2=true:=o5;clear e1 e2 e3 e4 o2 o3 o4 o5 b5;obtain⟨s5b,s5f⟩:=s5
      dsimp only at z5 g1 g4
      have z55:s5b.size≤1000000:=by omega
      obtain⟨⟨q0,q1,q2⟩,f0,f1,f2⟩:=aH hloc2;have CALL:=k_ (l1 wr hrd2);have hpl:=aj hrd2;have hql:=aj hloc2;clear q0 q1 q2 f0 f1 f2 z1 z2 z3 z4 z5 l1;have HLOC2:=k_ hloc2;clear hloc2;have HOWN2:=k_ hown2;clear hown2;have HINV2:=k_ hinv2;clear hinv2;have HSH2:=k_ hsh2;clear hsh2;have HSO2:=k_ hso2;clear hso2;have HRD2:=k_ hrd2;clear hrd2;have HF2:=k_ hf2;clear hf2;have HVQ2:=k_ hvq2;clear hvq2;have HDIS2:=k_ hdis2;clear hdis2;have L2:=k_ l2;clear l2;have L3:=k_ l3;clear l3;have L4:=k_ l4;clear l4;have L5:=k_ l5;clear l5;have HX:=k_ hx;clear hx;have HSN:=k_ hsn;clear hsn;have HDM:=k_ hdm;clear hdm;have E5:=k_ e5;clear e5;have G1:=k_ g1;clear g1;have G4:=k_ g4;clear g4;go_wp2_with fail;refine CALL.out.mono ?_;rintro e wa ⟨v0,la,rfl,hoA,hrA,hfA,hlA,horA⟩;obtain⟨a30,m30,rfl,hs30⟩:=bI hoA;have hA:=hfA.size;obtain⟨y,hy⟩:∃ y,y=wa.heap.size:=⟨_,rfl⟩;have locA:=ai wa (.cells #[.slice a30 la.length m30,.int .i64 0,.int .i64 0,.slice none 0 0,.slice none 0 0] 66);have hyp:y≠w.heap.size+1:=by omega
      have hyr:wr.heap.size≤y:=by omega
      have fA:Fr (pqB (w.heap.size+1) y) wa (wa.alloc (.cells #[.slice a30 la.length m30,.int .i64 0,.int .i64 0,.slice none 0 0,.slice none 0 0] 66)):=(Fr.refl _ _).alloc _;have CB:=k_ (L2.out _ (hrA.alloc (.cells #[.slice a30 la.length m30,.int .i64 0,.int .i64 0,.slice none 0 0,.slice none 0 0] 66)));rw[← hy] at locA;clear r0 r1 hrA;have LOCA:=k_ locA;clear locA;have FA:=k_ fA;clear fA;have HS30:=k_ hs30;clear hs30;have HOA:=k_ hoA;clear hoA;have HORA:=k_ horA;clear horA;have HFA:=k_ hfA;clear hfA;go_wp2_with fail;rw[← hy];have HY:=k_ hy;clear hy;generalize wa.alloc (.cells #[.slice a30 la.length m30,.int .i64 0,.int .i64 0,.slice none 0 0,.slice none 0 0] 66)=wA at *;refine CB.out.mono ?_;rintro e wb ⟨rfl,hrB,hfB⟩;have locB:=hfB.heap LOCA.out (by unfold onB;omega);obtain⟨⟨k0,k1,k2,k3,k4⟩,g0,g1,g2,g3,g4⟩:=aB locB;have locB':=ag locB 1 (.int .i64 res);have fB:=(FA.out.trans hfB (fun k _ h=>.inl h)).setCell (p:=⟨y,1,none⟩) (fun _=>.inr rfl) (.int .i64 res);have CC:=k_ (L3.out _ (hrB.fr (Fr.setAt wb y 1 (.int .i64 res)) (by unfold onB;omega)));clear hrB hfB locB;have LOCB':=k_ locB';clear locB';have FB:=k_ fB;clear fB;go_wp2_with fail;refine CC.out.mono ?_;rintro e wc ⟨rfl,hrC,hfC⟩;clear k0 k1 k2 k3 k4 g0 g1 g2 g3 g4;have locC:=hfC.heap LOCB'.out (by unfold onB;omega);obtain⟨⟨k0,k1,k2,k3,k4⟩,g0,g1,g2,g3,g4⟩:=aB locC;have locC':=ag locC 2 (.int .i64 slots);have fC:=(FB.out.trans hfC (fun k _ h=>.inl h)).setCell (p:=⟨y,2,none⟩) (fun _=>.inr rfl) (.int .i64 slots);have CD:=k_ (L4.out _ (hrC.fr (Fr.setAt wc y 2 (.int .i64 slots)) (by unfold onB;omega)));clear hrC hfC locC;have LOCC':=k_ locC';clear locC';have FC:=k_ fC;clear fC;go_wp2_with fail;refine CD.out.mono ?_;rintro e wd ⟨v3,lo,rfl,hoD,hrD,hfD,hlD,horD⟩;clear k0 k1 k2 k3 k4 g0 g1 g2 g3 g4;obtain⟨a33,m33,rfl,hs33⟩:=bI hoD;have hzC:y<(wc.setCell ⟨y,2,none⟩ (.int .i64 slots)).heap.size:=aj LOCC'.out;have locD:=hfD.heap LOCC'.out (by unfold onB;omega);obtain⟨⟨k0,k1,k2,k3,k4⟩,g0,g1,g2,g3,g4⟩:=aB locD;have locD':=ag locD 3 (.slice a33 lo.length m33);have fD:=(FC.out.trans hfD (fun k _ h=>.inl h)).setCell (p:=⟨y,3,none⟩) (fun _=>.inr rfl) (.slice a33 lo.length m33);have CE:=k_ (L5.out _ (hrD.fr (Fr.setAt wd y 3 (.slice a33 lo.length m33)) (by unfold onB;omega)));have gD:=(Fr.refl (pqB (w.heap.size+1) y) wd).setCell (p:=⟨y,3,none⟩) (fun _=>.inr rfl) (.slice a33 lo.length m33);clear hrD hfD locD;have LOCD':=k_ locD';clear locD';have FD:=k_ fD;clear fD;have GD:=k_ gD;clear gD;have HS33:=k_ hs33;clear hs33;have HOD:=k_ hoD;clear hoD;have HORD:=k_ horD;clear horD;go_wp2_with fail;refine CE.out.mono ?_;rintro e we ⟨rfl,hrE,hfE⟩;clear k0 k1 k2 k3 k4 g0 g1 g2 g3 g4;have locE:=hfE.heap LOCD'.out (by unfold onB;omega);have fE:=FD.out.trans hfE (fun k _ h=>.inl h);have gE:=GD.out.trans hfE (fun k _ h=>.inl h);obtain⟨r0,r1,_,_⟩:=nN (show _=some (Obj.cells #[.string s5b,.bool s5f] 142) from hrE);have w7:IntKind.i64.wrap (7 * (N:Int))=7 * (N:Int):=IntWalk.i64_in _ (by omega);have t7:(7 * (N:Int)).toNat=N * 7:=by omega
      have F2E:Fr (fun k=>k=w.heap.size+1∨w1.heap.size≤k) w1 we:=HF2.out.trans ((HFA.out.mono (fun k h=>show k=w.heap.size+1∨w1.heap.size≤k from .inl h)).trans (fE.mono (fun k h=>show k=w.heap.size+1∨w1.heap.size≤k from h.elim .inl (fun h=>.inr (by omega)))) (fun k _ h=>h)) (fun k _ h=>h)
      by_cases hk:s5b.size<N * 7
      ·have hk7:(s5b.size:Int)<7 * (N:Int):=by omega
       have hbadp:=HDM.out (by rw[HX.out];unfold bS;rw[if_pos hk];rfl);obtain⟨z0,z1,z2⟩:=HNO.out _ F2E hbadp;obtain⟨⟨y0,y1,y2⟩,f0,f1,f2⟩:=aH z0;clear locE fE gE F2E hbadp hk z0 hrE hfE;have Z1:=k_ z1;clear z1;have Z2:=k_ z2;clear z2
       go_wp2_with (with_reducible refine bodyPost_ret ?_ rfl Z2.out;obtain⟨⟨j0,j1,j2⟩,_⟩:=aH Z1.out;simp[results,Tryz.results56,go_sem,j0,j1,j2])
      ·have hk7:7 * (N:Int)≤(s5b.size:Int):=by omega
       have htk:bS (s5b,s5f) (N * 7)=(s5b.extract 0 (N * 7),(s5b.extract (N * 7) s5b.size,s5f)):=by unfold bS;rw[if_neg hk]
       have hx2:=HX.out;rw[htk] at hx2;have hcbs:(s5b.extract 0 (N * 7)).size≤1000000:=by rw[ByteArray.size_extract];omega
       have rc:=fun w1=>uj (s5b.extract 0 (N * 7)) w1 hcbs
       unfold jk at rc;generalize hcb:s5b.extract 0 (N * 7)=cb at *;generalize hcr:s5b.extract (N * 7) s5b.size=cr at *;clear htk hcbs HX;have f2e':=F2E;have RC:=k_ rc;clear rc;have HX2:=k_ hx2;clear hx2;have LOCE:=k_ locE;clear locE;have FE:=k_ fE;clear fE;have GE:=k_ gE;clear gE;have HRE:=k_ hrE;clear hrE;have F2E':=k_ f2e';clear f2e';clear F2E;go_wp2_with fail;refine(RC.out _).mono ?_;rintro e wf ⟨vC,rfl,hoC,hbC⟩;obtain⟨a34,m34,rfl,hs34⟩:=pI hoC;have frC:=fb_ hbC;have hyE:y<we.heap.size:=aj LOCE.out;have locF:=frC.heap LOCE.out (fun h=>h);have hrF:eZ wf (w.heap.size+1) (s5b,s5f):=HRE.out.fr frC (fun h=>h);have fF:=FE.out.trans frC (fun k _ h=>h.elim);have gF:=GE.out.trans frC (fun k _ h=>h.elim);have F2F:=F2E'.out.trans frC (fun k _ h=>h.elim);clear frC
       cases hro:bV cb
       ·have hbadp:=HDM.out (by rw[HX2.out,hro];simp)
        obtain⟨z0,z1,z2⟩:=HNO.out _ F2F hbadp;obtain⟨⟨y0,y1,y2⟩,f0,f1,f2⟩:=aH z0;clear locF fF gF F2F hbadp z0 hrF hro hoC hbC hs34 r0 r1;have Z1:=k_ z1;clear z1;have Z2:=k_ z2;clear z2
        go_wp2_with (with_reducible refine bodyPost_ret ?_ rfl Z2.out;obtain⟨⟨j0,j1,j2⟩,_⟩:=aH Z1.out;simp[results,Tryz.results56,go_sem,j0,j1,j2])
       ·have hx3:=HX2.out
        rw[hro] at hx3;obtain⟨⟨k0,k1,k2,k3,k4⟩,g0,g1,g2,g3,g4⟩:=aB locF;obtain⟨r0,r1,r2,r3⟩:=nN (show _=some (Obj.cells #[.string s5b,.bool s5f] 142) from hrF);have hyp':w.heap.size+1≠y:=fun e=>hyp e.symm
        have LOCF:=k_ locF;clear locF;have FF:=k_ fF;clear fF;have GF:=k_ gF;clear gF;have F2F:=k_ F2F;clear F2F;have HRF:=k_ hrF;clear hrF;have HX3:=k_ hx3;clear hx3;have HOC:=k_ hoC;clear hoC;have HBC:=k_ hbC;clear hbC;have HS34:=k_ hs34;clear hs34;have HRO:=k_ hro;clear hro
        go_upto_region 22 with fail
        go_cut [] (fun wx=>wx.heap[y]?=some (.cells #[.slice a30 la.length m30,.int .i64 res,.int .i64 slots,.slice a33 lo.length m33,.slice a34 (eQ cb).length m34] 66)∧eZ wx (w.heap.size+1) (cr,s5f)∧Fr (pqB (w.heap.size+1) y) wf wx)
        case first =>
         go_region
         all_goals
          go_wp2_with fail
          go_meet
          case rel =>
           have l4:=ag LOCF.out 4 (.slice a34 (eQ cb).length m34)
           first
           | exact⟨(Fr.setAt _ (w.heap.size+1) 0 (.string cr)).heap l4 hyp,wG (HRF.out.fr (Fr.setAt wf y 4 (.slice a34 (eQ cb).length m34)) hyp'),(((Fr.refl _ wf).setCell (p:=⟨y,4,none⟩) (fun _=>.inr rfl) _).setCell (p:=⟨w.heap.size+1,0,none⟩) (fun _=>.inl rfl) _).drew⟩
           | exact⟨ag ((Fr.setAt wf (w.heap.size+1) 0 (.string cr)).heap LOCF.out hyp) 4 _,eZ.fr (show eZ _ _ (cr,s5f) from wG HRF.out) (Fr.setAt _ y 4 (.slice a34 (eQ cb).length m34)) hyp',(((Fr.refl _ wf).setCell (p:=⟨w.heap.size+1,0,none⟩) (fun _=>.inl rfl) _).setCell (p:=⟨y,4,none⟩) (fun _=>.inr rfl) _).drew⟩
        case rest =>
         obtain⟨locG,hrG,fG⟩:=hcut;clear k0 k1 k2 k3 k4 g0 g1 g2 g3 g4 r0 r1 r2 r3;have fAG:=FF.out.trans fG (fun k _ h=>h);have hfw:Fr (onB (w.heap.size+1)) wr wc:=HFA.out.trans fAG (fun k hk h=>h.elim (fun h=>h) (fun h=>absurd h (by omega)));have locQ:=hfw.heap HLOC2.out (by unfold onB;omega);obtain⟨⟨j0,j1,j2⟩,f0,f1,f2⟩:=aH locQ;obtain⟨⟨k0,k1,k2,k3,k4⟩,_⟩:=aB locG;have hzw:=hfw.size;have hzy:y<wc.heap.size:=aj locG;have hnp:∀ k,(Value.slice af nf cf).ownBlock=some k→¬ onB (w.heap.size+1) k:=fun k hk h=>by have:=(HOWN2.out.lt hk).1;unfold onB at h;omega
         have hoQ:=HOWN2.out.fr hfw hnp;have hhl:xs.length≤256:=by rw[HINV2.out.1];omega
         have gG:=GF.out.trans fG (fun k _ h=>h);have hfx:Fr (pqB (w.heap.size+1) y) wf wc:=fG;have hok:um wc (fun k=>wr.heap.size≤k∧k<wc.heap.size) ⟨⟨a30,la.length,m30⟩,res,slots,⟨a33,lo.length,m33⟩,⟨a34,(eQ cb).length,m34⟩⟩ ⟨la,res,slots,lo,eQ cb⟩:=by
          have za:=fAG.size;have zg:=gG.size;have zx:=hfx.size;have hyy:=HY.out;refine⟨rfl,rfl,⟨rfl,?_⟩,⟨rfl,?_⟩,rfl,?_⟩
          ·refine(HS30.out.fr fAG (fun k hk h=>?_)).dom (fun k hk=>?_)
           ·have h1:=HOA.out.lt hk
            rcases h with h | h <;> omega
           ·have h1:=HOA.out.lt hk
            exact⟨h1.1,by omega⟩
          ·refine(HS33.out.fr gG (fun k hk h=>?_)).dom (fun k hk=>?_)
           ·have h1:=HOD.out.lt hk
            rcases h with h | h <;> omega
           ·have h1:=HOD.out.lt hk
            exact⟨by omega,by omega⟩
          ·refine(HS34.out.fr hfx (fun k hk h=>?_)).dom (fun k hk=>?_)
           ·have h1:=HOC.out.lt hk
            rcases h with h | h <;> omega
           ·have h1:=HOC.out.lt hk
            exact⟨by omega,by omega⟩
         clear gG hfx fAG fG hnp;have HOK:=k_ hok;clear hok;have HOQ:=k_ hoQ;clear hoQ;have HFW:=k_ hfw;clear hfw;have HRG:=k_ hrG;clear hrG;have LOCQ:=k_ locQ;clear locQ;have LOCG:=k_ locG;clear locG
         go_wp2_with (at_builtin;refine bE fnE rfl (.tmp 103) (.tmp 105) rfl w1.heap.size xs [⟨⟨a30,la.length,m30⟩,res,slots,⟨a33,lo.length,m33⟩,⟨a34,(eQ cb).length,m34⟩⟩] _ rfl (HOQ.out.alloc _) wc.heap.size 0 1 rfl (aA.new _ _ _ _) ?c1 ?c2 ?_)
         case c1=>simp;omega
         case c2=>simp;omega
         intro v4 w4 ho4 hg4 hfr4;have loc4:w4.heap[w1.heap.size]?=some (.cells #[.slice a0 m0 c0,.slice a n c,.slice af nf cf] 48):=by
          rw[hg4.block _ (by simp;omega) (fun e=>HVQ2.out e.symm),Below.heap_alloc _ _ _ (by omega)];exact LOCQ.out
         clear j0 j1 j2 f0 f1 f2 k0 k1 k2 k3 k4;obtain⟨⟨k0,k1,k2⟩,j0,j1,j2⟩:=aH loc4;obtain⟨a4,n4,c4,rfl⟩:=ho4.slice;have hst:=iO.step (p:=w.heap.size+1) (by omega) HLOC2.out HOWN2.out HINV2.out HSH2.out HSO2.out HVQ.out HVQ2.out HDIS2.out HOK.out HRG.out HFW.out _ ho4 hg4 hfr4 loc4;have HST:=k_ hst;clear hst;clear ho4 hg4 hfr4 loc4;go_wp2_with fail
         go_roundw
         case rel =>
          have hx4:=HX3.out;rw[show (s5f || !true)=s5f from by cases s5f <;> rfl] at hx4;refine⟨j+1,_,by omega,by go_num,by rw[HSN.out,hx4];exact HST.out.1,by simp;omega,?_,?_,HF2.out.trans HST.out.2 (fun _ _ h=>h)⟩
          ·rw[HSN.out,hx4]
           cases hsf:s5f
           ·left
            have ea:=HORA.out.resolve_right (fun h=>by have:=G1.out h;rw[hsf] at this;cases this);have eo:=HORD.out.resolve_right (fun h=>by have:=G4.out h;rw[hsf] at this;cases this);rw[ea,eo]
           ·exact .inr rfl
          ·rw[HSN.out,hx4]
           intro h;have hem:=E5.out h
           dsimp only at hem ⊢
           rw[← hcr,hem];exact yE _ (by rw[ByteArray.size_extract];have:(⟨#[]⟩:ByteArray).size=0:=rfl;omega)
         case measure=>simp[intOf];omega
     ·rw[hbad] at r1
      have hst:=yV j n2 hj hem2 hbad;have hgo2:∃ fs,iO (w.heap.size+1) w1.heap.size (.slice a0 m0 c0) (.slice a n c) hs ls wr (aL s4 n2).2 fs∧(fs=(aL s4 n2).1∨(aL s4 n2).2.2=true)∧Fr (fun k=>k=w.heap.size+1∨w1.heap.size≤k) w1 wr :=
       ⟨fs,by rw[hst];exact⟨xs,nf,cf,af,hloc2,hown2,hinv2,hsh2,hso2,hrd2,hvq2,hdis2⟩,.inr (by rw[hst];exact hbad),hf2⟩
      clear hst hbad hor2 hem2;clear hloc2 hown2 hinv2 hsh2 hso2 hrd2 hvq2 hdis2 hf2;have HGO2:=k_ hgo2;clear hgo2;go_wp2_with fail
      go_meet
      case rel=>exact HGO2.out
    ·have hk':j=n2:=by omega
     have hgo2:∃ fs,iO (w.heap.size+1) w1.heap.size (.slice a0 m0 c0) (.slice a n c) hs ls wr (aL s4 n2).2 fs∧(fs=(aL s4 n2).1∨(aL s4 n2).2.2=true)∧Fr (fun k=>k=w.heap.size+1∨w1.heap.size≤k) w1 wr:=by
      rw[← hk'];exact⟨fs,⟨xs,nf,cf,af,hloc2,hown2,hinv2,hsh2,hso2,hrd2,hvq2,hdis2⟩,hor2,hf2⟩
     clear hloc2 hown2 hinv2 hsh2 hso2 hrd2 hvq2 hdis2 hf2 hor2 hem2;have HGO2:=k_ hgo2;clear hgo2;subst hk';go_wp2_with fail
     go_meet
     case rel=>exact HGO2.out
  case rest =>
   obtain⟨fs,⟨xs,nf,cf,af,hloc2,hown2,hinv2,hsh2,hso2,hrd2,hvq2,hdis2⟩,hor2,hf2⟩:=hcut;have P0:=HP0.out;obtain⟨⟨q0,q1,q2⟩,f0,f1,f2⟩:=aH hloc2;obtain⟨r0,r1,_,_⟩:=nN (show _=some (Obj.cells #[.string (aL s4 n2).2.1,.bool (aL s4 n2).2.2] 142) from hrd2);have hok:bK b=(!(aL s4 n2).2.2 && (aL s4 n2).2.1.toList.isEmpty):=by unfold bK;rw[P0,isEmpty_iff]
   have hres:=hf2.heap HRES1.out (by omega);obtain⟨⟨_,_,_⟩,g0,g1,g2⟩:=aH hres;have hB:=HBEL.out _ hf2;have hfin:∀ W,Fr (onB w.heap.size) wc W→bK b=true→nK b w (.returned (.tuple #[.agg #[.slice a0 m0 c0,.slice a n c,.slice af nf cf],.bool true])) W:=by
    intro W hW hyes;have hb2:(jq b).2.2=false:=by
     unfold bK at hyes
     cases h:(jq b).2.2
     ·rfl
     ·rw[h] at hyes;cases hyes
    have eg:=HGO.out.resolve_right (fun h=>by rw[M1.out h] at hb2;cases hb2);have es:=HOR.out.resolve_right (fun h=>by rw[M2.out h] at hb2;cases hb2);have ef:=hor2.resolve_right (fun h=>by rw[P0,h] at hb2;cases hb2);have hpst:(jq b).1=⟨g',ls,fs⟩:=by rw[P0,eg,es,ef]
    have hWb:=hB.trans (hW.below (by have:=hB.size;omega) (fun k hk=>by unfold onB at hk;omega));refine⟨_,_,_,by rw[hyes],?_,hWb⟩;unfold gT;rw[if_pos hyes,hpst];have hsz:=hW.size;refine⟨?_,?_,?_⟩
    ·have hb0:∀ k,(Value.slice a0 m0 c0).ownBlock=some k→w.heap.size<k∧k<w1.heap.size∧k≠w.heap.size+1:=fun k hk=>by
      have:=HO0.out.lt hk;simp at this;omega
     have ho:=(HO0.out.fr hf2 (fun k hk=>by have:=hb0 k hk;omega)).fr hW (fun k hk=>by have:=hb0 k hk;unfold onB;omega);have hs:=hf2.size;obtain⟨a',c',h1,h2⟩:=bI ho;exact⟨a',c',h1,h2.dom (fun k hk=>by have:=hb0 k hk;omega)⟩
    ·refine zL (hso2.fr hW (fun k hk=>by have:=(hso2.lt hk).1;unfold onB;omega)) (hsh2.fr hW (D':=lG w1.heap.size (.slice a n c) (.slice af nf cf) wc) (fun k hk=>by have:=hk.1;unfold onB;omega) (fun k hk=>hk)) (fun k hk=>by have h1:=hk.1;have h2:=hk.2.1;omega) (fun k hk=>by have:=hso2.lt hk;omega)
    ·refine zJ (hown2.fr hW (fun k hk=>by have:=(hown2.lt hk).1;unfold onB;omega)) (hinv2.fr hW (D':=lG w1.heap.size (.slice a n c) (.slice af nf cf) wc) (fun k hk=>by have:=hk.1;unfold onB;omega) (fun k hk=>hk)) (fun k hk=>by have h1:=hk.1;have h2:=hk.2.1;omega) (fun k hk=>by have:=hown2.lt hk;omega)
   have hno:=fun h=>HNO.out wc hf2 h
   have hset:=HSET.out wc (.slice a0 m0 c0) (.slice a n c) (.slice af nf cf) hres;generalize aL s4 n2=T at *;obtain⟨T1,T2,T3⟩:=T
   dsimp only at r0 r1 hok
   clear hinv2 hsh2 hso2 hown2 hdis2 P0 hB hres hrd2 hloc2 hf2 hvq2 hor2
   cases T3 <;> cases he:T2.toList.isEmpty
   all_goals
    rw[he] at hok
    first
    | have HF:=k_ (hfin _ hset.2 hok)
      have hh:=hset.1
    | have HF:=k_ (hno hok).2.2
      have hh:=(hno hok).2.1
    clear hfin hno hset;have HH:=k_ hh;clear hh
    go_wp2_with (with_reducible refine bodyPost_ret ?_ rfl HF.out;obtain⟨⟨k0,k1,k2⟩,_⟩:=aH HH.out;simp[results,Tryz.results56,go_sem,k0,k1,k2])
end Go.Proofs.YtlofbhoicbemnaaGreatDoor
