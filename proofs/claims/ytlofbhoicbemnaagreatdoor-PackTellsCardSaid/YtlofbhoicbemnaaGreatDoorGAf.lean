/- Walk: image.Read: the program of bytes. Families of lists that one owns, none of which lies in another's memory. Nothing of the .. -/
import Derived.Test.YtlofbhoicbemnaaGreatDoorGAe
import Derived.Deep.RegionLaw
set_option linter.unusedVariables false
set_option linter.unusedSimpArgs false
set_option maxRecDepth 100000
set_option maxHeartbeats 3200000
namespace Go.Proofs.YtlofbhoicbemnaaGreatDoor
open Go.ChangeShapes Go.WideShapes Go.ChangeAt Go.RowKit
structure Hd where (a:Option Addr) (n c:Nat)
def Hd.val (h:Hd):Value:=.slice h.a h.n h.c
structure FnH where (h0:Hd) (r s:Int) (h3 h4:Hd)
def shE:Elem Tryz.prog Hd where
 e:=82
 t:=45
 size:=1
 bytes:=24
 zero:=.agg #[.slice none 0 0]
 enc:=fun h=>[h.val]
 ht:=Tryz.underlying45
 info:=by kernel_rfl
 hzs:=rfl
 hsz:=by decide
 hby:=by decide
 henc:=fun _=>rfl
 hone:=fun x u h=>by simp at h;subst h;rfl
def fnE:Elem Tryz.prog FnH where
 e:=66
 t:=46
 size:=5
 bytes:=88
 zero:=.agg #[.slice none 0 0,.int .i64 0,.int .i64 0,.slice none 0 0,.slice none 0 0]
 enc:=fun h=>[h.h0.val,.int .i64 h.r,.int .i64 h.s,h.h3.val,h.h4.val]
 ht:=Tryz.underlying46
 info:=by kernel_rfl
 hzs:=rfl
 hsz:=by decide
 hby:=by decide
 henc:=fun _=>rfl
 hone:=fun x u h=>by simp at h;rcases h with rfl | rfl | rfl | rfl | rfl <;> rfl
theorem bI {w:World} {B:Nat} {v:Value} {l:List Int} (h:Own aG w B v l):∃ a c,v=.slice a l.length c∧aQ w (fun k=>v.ownBlock=some k) a l:=by
 have hc:=fun g hg=>World.ownsRow.cells (g:=g) h hg
 obtain⟨h1,h2⟩:=h
 rcases h2 with⟨rfl,h0⟩ | ⟨g,cap,cur,rfl,hg,hh,hr⟩
 ·have:l=[]:=List.length_eq_zero_iff.1 h0
  subst this;exact⟨none,0,rfl,fun j hj=>by cases hj⟩
 ·refine⟨_,cap,rfl,fun j hj=>⟨g,0,rfl,rfl,?_⟩⟩
  have:=hc g rfl j (.int .i64 l[j]) (by
   have:l.flatMap aG.enc=l.map (Value.int .i64):=by
    clear hc h1 hr hj
    induction l with
    | nil=>rfl
    | cons x l ih=>rw[List.flatMap_cons,ih];rfl
   rw[this];simp[hj])
  unfold Addr.add at this;rw[Nat.zero_add]
  split at this
  ·subst j;exact this
  ·simpa using this
def ay (s:RS):Nat→List (List Int) × RS
 | 0=>([],s)
 | n+1=>((ay s n).1 ++ [(aF (ay s n).2).1],(aF (ay s n).2).2)
def aL (s:RS):Nat→List Fun × RS
 | 0=>([],s)
 | n+1=>((aL s n).1 ++ [(rFn (aL s n).2).1],(rFn (aL s n).2).2)
theorem xy (s:RS) (n:Nat):(ay s n).1.length=n:=by
 induction n with
 | zero=>rfl
 | succ n ih=>simp[ay,ih]
theorem zH (s:RS) (n:Nat):(aL s n).1.length=n:=by
 induction n with
 | zero=>rfl
 | succ n ih=>simp[aL,ih]
theorem fQ (s:RS) (n:Nat):(ay s n).2.1.size≤s.1.size:=by
 induction n with
 | zero=>exact Nat.le_refl _
 | succ n ih=>exact Nat.le_trans (dX _) ih
theorem Fh (s:RS):(rFn s).2.1.size≤s.1.size:=by
 unfold rFn
 dsimp only
 refine Nat.le_trans (Ad _ _) ?_;refine Nat.le_trans (bM _) ?_;refine Nat.le_trans (dX _) ?_;refine Nat.le_trans (bM _) ?_;refine Nat.le_trans (bM _) ?_;exact dX _
theorem qF (s:RS) (n:Nat):(aL s n).2.1.size≤s.1.size:=by
 induction n with
 | zero=>exact Nat.le_refl _
 | succ n ih=>exact Nat.le_trans (Fh _) ih
def jq (b:ByteArray):Prg × RS :=
 let g:=aF (b,false)
 let n:=aC g.2
 let sh:=ay n.2 n.1.toNat
 let m:=aC sh.2
 let f:=aL m.2 m.1.toNat
 (⟨g.1,sh.1,f.1⟩,f.2)
def bK (b:ByteArray):Bool:=!(jq b).2.2 && decide ((jq b).2.1.size<1)
def ik (w:World) (D:Nat→Prop) (hs:List Hd) (ls:List (List Int)):Prop:=hs.length=ls.length∧∀ j (h:j<hs.length) (h':j<ls.length),hs[j].n=ls[j].length∧aQ w D hs[j].a ls[j]
theorem ik.snoc {w:World} {D:Nat→Prop} {hs:List Hd} {ls:List (List Int)} (h:ik w D hs ls) {x:Hd} {l:List Int} (hn:x.n=l.length) (hx:aQ w D x.a l):ik w D (hs ++ [x]) (ls ++ [l]):=by
 obtain⟨h1,h2⟩:=h;refine⟨by simp[h1],fun j hj hj'=>?_⟩
 by_cases hlt:j<hs.length
 ·rw[List.getElem_append_left hlt,List.getElem_append_left (by omega)]
  exact h2 j hlt (by omega)
 ·have:j=hs.length:=by simp at hj;omega
  subst this;have e1:(hs ++ [x])[hs.length]=x:=by simp
  have e2:(ls ++ [l])[hs.length]'hj'=l:=by simp[h1]
  rw[e1,e2];exact⟨hn,hx⟩
theorem aQ.dom {w:World} {D D':Nat→Prop} {a:Option Addr} {l:List Int} (h:aQ w D a l) (hd:∀ k,D k→D' k):aQ w D' a l:=fun j hj=>by
 obtain⟨b,o,h1,h2,h3⟩:=h j hj;exact⟨b,o,h1,hd b h2,h3⟩
theorem ik.fr {F:Nat→Prop} {w w':World} {D D':Nat→Prop} {hs:List Hd} {ls:List (List Int)} (h:ik w D hs ls) (hf:Fr F w w') (hd:∀ k,D k→¬ F k) (hd':∀ k,D k→D' k):ik w' D' hs ls :=
 ⟨h.1,fun j hj hj'=>⟨(h.2 j hj hj').1,((h.2 j hj hj').2.fr hf hd).dom hd'⟩⟩
def Hf (q:Nat) (v:Value) (w:World):Nat→Prop:=fun k=>q<k∧k<w.heap.size∧v.ownBlock≠some k
theorem aH {w:World} {q:Nat} {x0 x1 x2:Value} {t:TypeId} (h:w.heap[q]?=some (.cells #[x0,x1,x2] t)) :
  (w.cell? ⟨q,0,none⟩=some x0∧w.cell? ⟨q,1,none⟩=some x1∧w.cell? ⟨q,2,none⟩=some x2)∧w.frozen? ⟨q,0,none⟩=false∧w.frozen? ⟨q,1,none⟩=false∧w.frozen? ⟨q,2,none⟩=false :=
 ⟨⟨(aa h 0).1,(aa h 1).1,(aa h 2).1⟩,(aa h 0).2,(aa h 1).2,(aa h 2).2⟩
def rq (p q:Nat) (g:Value) (wr:World) (s:RS) (ls:List (List Int)):Prop :=
 ∃ hs n c a,wr.heap[q]?=some (.cells #[g,.slice a n c,.slice none 0 0] 48)∧Own shE wr q (.slice a n c) hs∧ik wr (Hf q (.slice a n c) wr) hs ls ∧
  Rdr wr p s∧(Value.slice a n c).ownBlock≠some q
theorem rq.step {p q:Nat} {g:Value} {wr w3 w4:World} {ls:List (List Int)} {l:List Int} {hs:List Hd} {n c n3 n4 c4:Nat} {a a3 a4:Option Addr} {s':RS} (hpq:p<q)
  (hloc:wr.heap[q]?=some (.cells #[g,.slice a n c,.slice none 0 0] 48)) (hown:Own shE wr q (.slice a n c) hs) (hinv:ik wr (Hf q (.slice a n c) wr) hs ls) (hvq:(Value.slice a n c).ownBlock≠some q)
  (ho3:Own aG w3 wr.heap.size (.slice a3 l.length n3) l) (hs3:aQ w3 (fun k=>(Value.slice a3 l.length n3).ownBlock=some k) a3 l) (hr3:Rdr w3 p s') (hf3:Fr (onB p) wr w3)
  (ob:Obj) (ho4:Own shE w4 q (.slice a4 n4 c4) (hs ++ [⟨a3,l.length,n3⟩])) (hg4:(w3.alloc ob).grownBy w4 (Value.slice a n c).ownBlock) (hfr4:eO (w3.alloc ob) (.slice a n c) (.slice a4 n4 c4))
  (loc4:w4.heap[q]?=some (.cells #[g,.slice a n c,.slice none 0 0] 48)) :
  rq p q g (w4.setCell ⟨q,1,none⟩ (.slice a4 n4 c4)) s' (ls ++ [l])∧Fr (fun k=>k=p∨q≤k) wr (w4.setCell ⟨q,1,none⟩ (.slice a4 n4 c4)):=by
 have hq3:q<w3.heap.size:=Nat.lt_of_lt_of_le (aj hloc) hf3.size;have hq:q<wr.heap.size:=aj hloc;have h34:Fr (fun k=>(Value.slice a n c).ownBlock=some k∨k=q) w3 (w4.setCell ⟨q,1,none⟩ (.slice a4 n4 c4)) :=
  ((((Fr.refl _ _).alloc ob).grown hg4 (fun k hk _=>.inl hk)).setCell (p:=⟨q,1,none⟩) (fun _=>.inr rfl) _)
 have hv4:∀ k,(Value.slice a4 n4 c4).ownBlock=some k→(Value.slice a n c).ownBlock=some k∨w3.heap.size<k+1:=fun k hk=>by
  rcases hfr4 k hk with h | h
  ·exact .inl h
  ·simp at h;exact .inr (by omega)
 have hsz:w3.heap.size+1≤(w4.setCell ⟨q,1,none⟩ (.slice a4 n4 c4)).heap.size:=by
  have:=hg4.size;simp at *;omega
 have hv4q:(Value.slice a4 n4 c4).ownBlock≠some q:=fun e=>by
  rcases hv4 q e with h | h
  ·exact hvq h
  ·omega
 refine⟨⟨_,n4,c4,a4,ag loc4 1 _,ho4.fr (Fr.setAt w4 q 1 _) (fun k hk e=>by unfold onB at e;subst e;exact hv4q hk),?_,?_,hv4q⟩,?_⟩
 ·refine ik.snoc ?_ rfl ?_
  ·have hall:Fr (fun k=>k=p∨(Value.slice a n c).ownBlock=some k∨k=q) wr (w4.setCell ⟨q,1,none⟩ (.slice a4 n4 c4)):=(hf3.mono (fun k h=>Or.inl h)).trans h34 (fun k _ h=>.inr h)
   refine hinv.fr hall (fun k hk h=>?_) (fun k hk=>?_)
   ·obtain⟨h1,h2,h3⟩:=hk
    rcases h with h | h | h
    ·omega
    ·exact h3 h
    ·omega
   ·obtain⟨h1,h2,h3⟩:=hk
    refine⟨h1,by have:=hf3.size;omega,fun e=>?_⟩
    rcases hv4 k e with h | h
    ·exact h3 h
    ·have:=hf3.size;omega
  ·refine(hs3.fr h34 (fun k hk h=>?_)).dom (fun k hk=>?_)
   ·have h1:=ho3.lt hk
    rcases h with h | h
    ·have:=(hown.lt h).2;omega
    ·omega
   ·have h1:=ho3.lt hk
    refine⟨by omega,by omega,fun e=>?_⟩
    rcases hv4 k e with h | h
    ·have:=(hown.lt h).2;omega
    ·omega
 ·refine hr3.fr h34 (fun h=>?_)
  rcases h with h | h
  ·have:=(hown.lt h).1;omega
  ·omega
 ·refine(hf3.mono (fun k h=>Or.inl h)).trans h34 (fun k hk h=>?_)
  rcases h with h | h
  ·exact .inr (hown.lt h).1
  ·exact .inr (by omega)
theorem pI {w:World} {B:Nat} {v:Value} {l:List Ins} (h:Own ig w B v l):∃ a c,v=.slice a l.length c∧eH w (fun k=>v.ownBlock=some k) a l:=by
 obtain⟨a,c,hv,hs⟩:=Iz h;refine⟨a,c,hv,fun j hj=>?_⟩;obtain⟨b,o,h1,h2⟩:=hs j hj;exact⟨b,o,h1,by rw[hv,h1];rfl,h2⟩
theorem eH.dom {w:World} {D D':Nat→Prop} {a:Option Addr} {l:List Ins} (h:eH w D a l) (hd:∀ k,D k→D' k):eH w D' a l:=fun j hj=>by
 obtain⟨b,o,h1,h2,h3⟩:=h j hj;exact⟨b,o,h1,hd b h2,h3⟩
def um (w:World) (D:Nat→Prop) (x:FnH) (f:Fun):Prop :=
 x.r=f.result∧x.s=f.slots∧(x.h0.n=f.args.length∧aQ w D x.h0.a f.args)∧(x.h3.n=f.objects.length∧aQ w D x.h3.a f.objects)∧(x.h4.n=f.code.length∧eH w D x.h4.a f.code)
theorem um.fr {F:Nat→Prop} {w w':World} {D D':Nat→Prop} {x:FnH} {f:Fun} (h:um w D x f) (hf:Fr F w w') (hd:∀ k,D k→¬ F k) (hd':∀ k,D k→D' k):um w' D' x f:=by
 obtain⟨h1,h2,⟨h3,h4⟩,⟨h5,h6⟩,h7,h8⟩:=h;exact⟨h1,h2,⟨h3,(h4.fr hf hd).dom hd'⟩,⟨h5,(h6.fr hf hd).dom hd'⟩,h7,(h8.fr hf hd).dom hd'⟩
def kg (w:World) (D:Nat→Prop) (xs:List FnH) (fs:List Fun):Prop:=xs.length=fs.length∧∀ j (h:j<xs.length) (h':j<fs.length),um w D xs[j] fs[j]
theorem kg.fr {F:Nat→Prop} {w w':World} {D D':Nat→Prop} {xs:List FnH} {fs:List Fun} (h:kg w D xs fs) (hf:Fr F w w') (hd:∀ k,D k→¬ F k) (hd':∀ k,D k→D' k):kg w' D' xs fs :=
 ⟨h.1,fun j hj hj'=>(h.2 j hj hj').fr hf hd hd'⟩
theorem kg.snoc {w:World} {D:Nat→Prop} {xs:List FnH} {fs:List Fun} (h:kg w D xs fs) {x:FnH} {f:Fun} (hx:um w D x f):kg w D (xs ++ [x]) (fs ++ [f]):=by
 obtain⟨h1,h2⟩:=h;refine⟨by simp[h1],fun j hj hj'=>?_⟩
 by_cases hlt:j<xs.length
 ·rw[List.getElem_append_left hlt,List.getElem_append_left (by omega)]
  exact h2 j hlt (by omega)
 ·have:j=xs.length:=by simp at hj;omega
  subst this;have e1:(xs ++ [x])[xs.length]=x:=by simp
  have e2:(fs ++ [f])[xs.length]'hj'=f:=by simp[h1]
  rw[e1,e2];exact hx
def lG (q:Nat) (v v':Value) (w:World):Nat→Prop:=fun k=>q<k∧k<w.heap.size∧v.ownBlock≠some k∧v'.ownBlock≠some k
def oM (p q:Nat) (g sv:Value) (hs:List Hd) (ls:List (List Int)) (wr:World) (s:RS) (fs:List Fun):Prop :=
 ∃ xs n c a,wr.heap[q]?=some (.cells #[g,sv,.slice a n c] 48)∧Own fnE wr q (.slice a n c) xs∧kg wr (lG q sv (.slice a n c) wr) xs fs∧ik wr (lG q sv (.slice a n c) wr) hs ls∧Own shE wr q sv hs ∧
  Rdr wr p s∧(Value.slice a n c).ownBlock≠some q∧∀ k,(Value.slice a n c).ownBlock=some k→sv.ownBlock≠some k
theorem oM.step {p q:Nat} {g sv:Value} {wr w3 w4:World} {hs:List Hd} {ls:List (List Int)} {fs:List Fun} {f:Fun} {xs:List FnH} {n c n4 c4:Nat} {a a4:Option Addr} {s':RS} {x:FnH} (hpq:p<q)
  (hloc:wr.heap[q]?=some (.cells #[g,sv,.slice a n c] 48)) (hown:Own fnE wr q (.slice a n c) xs) (hinv:kg wr (lG q sv (.slice a n c) wr) xs fs) (hsh:ik wr (lG q sv (.slice a n c) wr) hs ls) (hso:Own shE wr q sv hs)
  (hsq:sv.ownBlock≠some q) (hvq:(Value.slice a n c).ownBlock≠some q) (hdis:∀ k,(Value.slice a n c).ownBlock=some k→sv.ownBlock≠some k)
  (hx:um w3 (fun k=>wr.heap.size≤k∧k<w3.heap.size) x f) (hr3:Rdr w3 p s') (hf3:Fr (onB p) wr w3)
  (ob:Obj) (ho4:Own fnE w4 q (.slice a4 n4 c4) (xs ++ [x])) (hg4:(w3.alloc ob).grownBy w4 (Value.slice a n c).ownBlock) (hfr4:eO (w3.alloc ob) (.slice a n c) (.slice a4 n4 c4))
  (loc4:w4.heap[q]?=some (.cells #[g,sv,.slice a n c] 48)) :
  oM p q g sv hs ls (w4.setCell ⟨q,2,none⟩ (.slice a4 n4 c4)) s' (fs ++ [f])∧Fr (fun k=>k=p∨q≤k) wr (w4.setCell ⟨q,2,none⟩ (.slice a4 n4 c4)):=by
 have hq3:q<w3.heap.size:=Nat.lt_of_lt_of_le (aj hloc) hf3.size;have hq:q<wr.heap.size:=aj hloc;have h34:Fr (fun k=>(Value.slice a n c).ownBlock=some k∨k=q) w3 (w4.setCell ⟨q,2,none⟩ (.slice a4 n4 c4)) :=
  ((((Fr.refl _ _).alloc ob).grown hg4 (fun k hk _=>.inl hk)).setCell (p:=⟨q,2,none⟩) (fun _=>.inr rfl) _)
 have hv4:∀ k,(Value.slice a4 n4 c4).ownBlock=some k→(Value.slice a n c).ownBlock=some k∨w3.heap.size<k+1:=fun k hk=>by
  rcases hfr4 k hk with h | h
  ·exact .inl h
  ·simp at h;exact .inr (by omega)
 have hsz:w3.heap.size+1≤(w4.setCell ⟨q,2,none⟩ (.slice a4 n4 c4)).heap.size:=by
  have:=hg4.size;simp at *;omega
 have hv4q:(Value.slice a4 n4 c4).ownBlock≠some q:=fun e=>by
  rcases hv4 q e with h | h
  ·exact hvq h
  ·omega
 have hall:Fr (fun k=>k=p∨(Value.slice a n c).ownBlock=some k∨k=q) wr (w4.setCell ⟨q,2,none⟩ (.slice a4 n4 c4)):=(hf3.mono (fun k h=>Or.inl h)).trans h34 (fun k _ h=>.inr h);have hd1:∀ k,lG q sv (.slice a n c) wr k→¬ (k=p∨(Value.slice a n c).ownBlock=some k∨k=q):=fun k hk h=>by
  obtain⟨h1,h2,h3,h4⟩:=hk
  rcases h with h | h | h
  ·omega
  ·exact h4 h
  ·omega
 have hd2:∀ k,lG q sv (.slice a n c) wr k→lG q sv (.slice a4 n4 c4) (w4.setCell ⟨q,2,none⟩ (.slice a4 n4 c4)) k:=fun k hk=>by
  obtain⟨h1,h2,h3,h4⟩:=hk;refine⟨h1,by have:=hf3.size;omega,h3,fun e=>?_⟩
  rcases hv4 k e with h | h
  ·exact h4 h
  ·have:=hf3.size;omega
 refine⟨⟨_,n4,c4,a4,ag loc4 2 _,ho4.fr (Fr.setAt w4 q 2 _) (fun k hk e=>by unfold onB at e;subst e;exact hv4q hk),?_,hsh.fr hall hd1 hd2,?_,?_,hv4q,?_⟩,?_⟩
 ·refine kg.snoc (hinv.fr hall hd1 hd2) (hx.fr h34 (fun k hk h=>?_) (fun k hk=>?_))
  ·rcases h with h | h
   ·have:=(hown.lt h).2;omega
   ·omega
  ·refine⟨by omega,by omega,fun e=>?_,fun e=>?_⟩
   ·have:=(hso.lt e).2;omega
   ·rcases hv4 k e with h | h
    ·have:=(hown.lt h).2;omega
    ·omega
 ·refine hso.fr hall (fun k hk h=>?_)
  rcases h with h | h | h
  ·have:=(hso.lt hk).1;omega
  ·exact hdis k h hk
  ·subst h;exact hsq hk
 ·refine hr3.fr h34 (fun h=>?_)
  rcases h with h | h
  ·have:=(hown.lt h).1;omega
  ·omega
 ·intro k hk e
  rcases hv4 k hk with h | h
  ·exact hdis k h e
  ·have:=(hso.lt e).2;have:=hf3.size;omega
 ·refine(hf3.mono (fun k h=>Or.inl h)).trans h34 (fun k hk h=>?_)
  rcases h with h | h
  ·exact .inr (hown.lt h).1
  ·exact .inr (by omega)
theorem zL {w:World} {B:Nat} {v:Value} {D D':Nat→Prop} {hs:List Hd} {ls:List (List Int)} (h:Own shE w B v hs) (hi:ik w D hs ls) (hd:∀ k,D k→D' k) (hv:∀ k,v.ownBlock=some k→D' k):∃ a c,v=.slice a ls.length c∧xW w D' a ls:=by
 obtain⟨a,c,hv1,he⟩:=aP h;refine⟨a,c,by rw[hv1,hi.1],fun j hj=>?_⟩;have hj':j<hs.length:=by rw[hi.1];exact hj
 obtain⟨b,h1,h2,h3⟩:=he j hj';obtain⟨h4,h5⟩:=hi.2 j hj' hj;have h6:=h3 0 hs[j].val rfl;refine⟨b,0,h1,hv b h2,hs[j].a,hs[j].c,?_,h5.dom hd⟩;have e:j * shE.size+0=0+j:=by show j * 1+0=0+j;omega
 rw[e] at h6;rw[h6];unfold Hd.val;rw[h4]
theorem zJ {w:World} {B:Nat} {v:Value} {D D':Nat→Prop} {xs:List FnH} {fs:List Fun} (h:Own fnE w B v xs) (hi:kg w D xs fs) (hd:∀ k,D k→D' k) (hv:∀ k,v.ownBlock=some k→D' k):∃ a c,v=.slice a fs.length c∧AZ w D' a fs:=by
 obtain⟨a,c,hv1,he⟩:=aP h;refine⟨a,c,by rw[hv1,hi.1],fun j hj=>?_⟩;have hj':j<xs.length:=by rw[hi.1];exact hj
 obtain⟨b,h1,h2,h3⟩:=he j hj';obtain⟨e1,e2,⟨e3,e4⟩,⟨e5,e6⟩,e7,e8⟩:=hi.2 j hj' hj;have q0:=h3 0 _ rfl;have q1:=h3 1 _ rfl;have q2:=h3 2 _ rfl;have q3:=h3 3 _ rfl;have q4:=h3 4 _ rfl;have e:j * fnE.size=0+j * 5:=by show j * 5=0+j * 5;omega
 rw[e] at q0 q1 q2 q3 q4;refine⟨b,0,h1,hv b h2,_,_,_,_,_,q0,q1,q2,q3,q4,by rw[e1],by rw[e2],⟨_,_,by unfold Hd.val;rw[e3],e4.dom hd⟩,⟨_,_,by unfold Hd.val;rw[e5],e6.dom hd⟩,_,_,by unfold Hd.val;rw[e7],e8.dom hd⟩
def gT (b:ByteArray):Prg:=if bK b then (jq b).1 else ⟨[],[],[]⟩
def qh (b:ByteArray) (w:World) (e:Ending) (w':World):Prop :=
 ∃ c0 c1 c2,e=.returned (.tuple #[.agg #[c0,c1,c2],.int .i64 (if bK b then 0 else 2)])∧aD w' (fun k=>w.heap.size≤k∧k<w'.heap.size) (gT b) c0 c1 c2∧Below w.heap.size w w'
theorem Dt (b:ByteArray) (w:World) (hb:b.size≤100000) :
  Calls Tryz.prog 51 #[.string b] w (qh b w):=by
 have hP0:jq b=(⟨(aF (b,false)).1,(ay (aC (aF (b,false)).2).2 (aC (aF (b,false)).2).1.toNat).1,(aL (aC (ay (aC (aF (b,false)).2).2 (aC (aF (b,false)).2).1.toNat).2).2 (aC (ay (aC (aF (b,false)).2).2 (aC (aF (b,false)).2).1.toNat).2).1.toNat).1⟩,(aL (aC (ay (aC (aF (b,false)).2).2 (aC (aF (b,false)).2).1.toNat).2).2 (aC (ay (aC (aF (b,false)).2).2 (aC (aF (b,false)).2).1.toNat).2).1.toNat).2):=rfl;have hrd:=ai (w.alloc (.cells #[.slice none 0 0,.slice none 0 0,.slice none 0 0] 48)) (.cells #[.string b,.bool false] 135);have hrd:Rdr ((w.alloc (.cells #[.slice none 0 0,.slice none 0 0,.slice none 0 0] 48)).alloc (.cells #[.string b,.bool false] 135)) (w.heap.size+1) (b,false):=by
  rw[show (w.alloc (.cells #[.slice none 0 0,.slice none 0 0,.slice none 0 0] 48)).heap.size=w.heap.size+1 from by simp] at hrd;exact hrd
 have l1:=mV _ _ _ hrd (by dsimp only;omega);have hx:=dX (b,false)
 dsimp only at hx
 generalize aF (b,false)=t1 at *;obtain⟨g,s1⟩:=t1
 dsimp only at l1 hx
 have l2:=fun w1 (h:Rdr w1 (w.heap.size+1) s1)=>kZ w1 _ s1 h (by omega)
 have hx2:=bM s1;have hbd:=jP s1;generalize aC s1=t2 at *;obtain⟨n1,s2⟩:=t2
 dsimp only at l2 hx2 hbd
 obtain⟨n1,rfl⟩:=Int.eq_ofNat_of_zero_le hbd.1;rw[Int.toNat_natCast] at hP0;have l4:=fun w1 (h:Rdr w1 (w.heap.size+1) (ay s2 n1).2)=>kZ w1 _ (ay s2 n1).2 h (Nat.le_trans (fQ _ _) (by omega))
 have hx4:=Nat.le_trans (bM (ay s2 n1).2) (fQ s2 n1);have hbd4:=jP (ay s2 n1).2;generalize hg4:aC (ay s2 n1).2=t4 at *;clear hg4;obtain⟨n2,s4⟩:=t4
 dsimp only at l4 hx4 hbd4 hP0
 obtain⟨n2,rfl⟩:=Int.eq_ofNat_of_zero_le hbd4.1;rw[Int.toNat_natCast] at hP0;have l5:=fun w1 k (h:Rdr w1 (w.heap.size+1) (aL s4 k).2)=>IG w1 _ (aL s4 k).2 h (Nat.le_trans (qF _ _) (by omega))
 have HP0:=k_ hP0;clear hP0;have L4:=k_ l4;clear l4;have L5:=k_ l5;clear l5;have l3:=fun w1 k (h:Rdr w1 (w.heap.size+1) (ay s2 k).2)=>mV w1 _ (ay s2 k).2 h (Nat.le_trans (fQ _ _) (by omega))
 have L1:=k_ l1;clear l1;have L2:=k_ l2;clear l2;have L3:=k_ l3;clear l3
 go_enter Tryz.func51,Tryz.ntmps51
 go_wp2_with fail;refine L1.out.mono ?_;rintro e w1 ⟨v0,rfl,ho0,hr1,hf1⟩;obtain⟨a0,m0,c0,rfl⟩:=ho0.slice;have hB1:w.heap.size+2≤w1.heap.size:=by have:=hf1.size;simpa using this
 have loc1:=ai w1 (.cells #[.slice a0 m0 c0,.slice none 0 0,.slice none 0 0] 48);have c2:=k_ (L2.out _ (hr1.alloc (.cells #[.slice a0 m0 c0,.slice none 0 0,.slice none 0 0] 48)));have LOC1:=k_ loc1;clear loc1;have HO0:=k_ ho0;clear ho0;clear hr1;have HF1:=k_ hf1;clear hf1;go_wp2_with fail;refine c2.out.mono ?_;rintro e w2 ⟨rfl,hr2,hf2⟩;have loc2:=hf2.heap LOC1.out (by unfold onB;omega);have LOC2:=k_ loc2;clear loc2;have HF2:=k_ hf2;clear hf2;have HR2:=k_ hr2;clear hr2;go_wp2_with fail
 go_loopw [14] (fun i wr=>∃ k:Nat,k≤n1∧i=.int .i64 k∧rq (w.heap.size+1) w1.heap.size (.slice a0 m0 c0) wr (ay s2 k).2 (ay s2 k).1∧Fr (fun k=>k=w.heap.size+1∨w1.heap.size≤k) w1 wr) (fun i _=>n1 - (intOf i).toNat)
 case atStart =>
  refine⟨0,Nat.zero_le _,rfl,⟨[],0,0,none,LOC2.out,Own.nil _ _ _,⟨rfl,fun j hj=>by cases hj⟩,HR2.out,fun h=>by simp[Value.ownBlock] at h⟩,?_⟩;exact((Fr.refl _ _).alloc _).trans HF2.out (fun k _ h=>.inl h)
 case round =>
  obtain⟨k,hk,rfl,⟨hs,n,c,a,hloc,hown,hinv,hrd,hvq⟩,hf⟩:=hrel
  by_cases hlt:k<n1
  ·obtain⟨⟨q0,q1,q2⟩,f0,f1,f2⟩:=aH hloc
   have CALL:=k_ (L3.out wr.drew k (show Rdr wr.drew _ _ from hrd));have HLOC:=k_ hloc;clear hloc;have HOWN:=k_ hown;clear hown;have HINV:=k_ hinv;clear hinv;have HRD:=k_ hrd;clear hrd;have HF:=k_ hf;clear hf;have HVQ:=k_ hvq;clear hvq;go_wp2_with fail;have hnp:∀ k,(Value.slice a n c).ownBlock=some k→¬ onB (w.heap.size+1) k:=fun k hk h=>by have:=(HOWN.out.lt hk).1;unfold onB at h;omega
   have hhl:hs.length≤256:=by rw[HINV.out.1,xy];omega
   have hqp:w1.heap.size≠w.heap.size+1:=by omega
   have HNP:=k_ hnp;clear hnp;have HHL:=k_ hhl;clear hhl;have hsn:ay s2 (k+1)=((ay s2 k).1 ++ [(aF (ay s2 k).2).1],(aF (ay s2 k).2).2):=rfl;obtain⟨l,hl⟩:∃ l,l=(aF (ay s2 k).2).1:=⟨_,rfl⟩;obtain⟨s',hs'⟩:∃ s',s'=(aF (ay s2 k).2).2:=⟨_,rfl⟩;have CALL:=CALL.out;rw[← hl,← hs'] at CALL hsn;have CALL:=k_ CALL;clear hl hs';have HSN:=k_ hsn;clear hsn
   go_region_law (first | (go_simp;go_at_call 77;refine CALL.out.mono ?_;rintro e w3 ⟨v3,rfl,ho3,hr3,hf3⟩;obtain⟨a3,n3,rfl,hs3⟩:=bI ho3;have q1':=hf3.cell (show wr.drew.cell? _=_ from q1) (by unfold onB;exact hqp);have q1'':w1.heap.size<w3.heap.size:=World.block_lt q1') | (refine aS shE rfl (.tmp 17) (.tmp 21) rfl w1.heap.size hs [⟨a3,l.length,n3⟩] _ rfl ((HOWN.out.drew.fr hf3 HNP.out).alloc _) w3.heap.size 0 1 rfl (aA.new _ _ _ _) (by have:=HHL.out;simp;omega) (by have:=hf3.size;have:=aj HLOC.out;simp at *;omega) ?_;intro v4 w4 ho4 hg4 hfr4;have loc4:w4.heap[w1.heap.size]?=some (.cells #[.slice a0 m0 c0,.slice a n c,.slice none 0 0] 48):=(by rw[hg4.block _ (by have:=hf3.size;have:=aj HLOC.out;simp at *;omega) (fun e=>HVQ.out e.symm),Below.heap_alloc _ _ _ (by have:=hf3.size;have:=aj HLOC.out;simp at *;omega)];exact hf3.heap HLOC.out (by unfold onB;exact hqp));obtain⟨⟨k0,k1,k2⟩,j0,j1,j2⟩:=aH loc4;obtain⟨a4,n4,c4,rfl⟩:=ho4.slice))
   all_goals
    have hst:=rq.step (p:=w.heap.size+1) (by omega) HLOC.out HOWN.out HINV.out HVQ.out ho3 hs3 hr3 ⟨hf3.os,hf3.tape,hf3.output,hf3.size,hf3.block⟩ _ ho4 hg4 hfr4 loc4;have HST:=k_ hst;clear hst;clear ho3 hs3 hr3 hf3 ho4 hg4 hfr4 loc4;go_wp2_with fail
    go_roundw
    case rel =>
     refine⟨k+1,by omega,by go_num,by rw[HSN.out];exact HST.out.1,HF.out.trans HST.out.2 (fun _ _ h=>h)⟩
    case measure=>simp[intOf];omega
  ·have hk':k=n1:=by omega
   subst hk';obtain⟨⟨q0,q1,q2⟩,f0,f1,f2⟩:=aH hloc;clear q0 q1 q2 f0 f1 f2;have C4:=k_ (L4.out _ hrd);have HLOC:=k_ hloc;clear hloc;have HOWN:=k_ hown;clear hown;have HINV:=k_ hinv;clear hinv;have HF:=k_ hf;clear hf;have HVQ:=k_ hvq;clear hvq;clear hrd;go_wp2_with fail;refine C4.out.mono ?_;rintro e w5 ⟨rfl,hr5,hf5⟩;have st0:oM (w.heap.size+1) w1.heap.size (.slice a0 m0 c0) (.slice a n c) hs (ay s2 k).1 w5 s4 []:=by
    refine⟨[],0,0,none,hf5.heap HLOC.out (by unfold onB;omega),Own.nil _ _ _,⟨rfl,fun j hj=>by cases hj⟩,?_,HOWN.out.fr hf5 (fun k hk=>by have:=(HOWN.out.lt hk).1;unfold onB;omega),hr5,fun h=>by simp[Value.ownBlock] at h,fun k hk=>by simp[Value.ownBlock] at hk⟩;refine HINV.out.fr hf5 (fun k hk h=>?_) (fun k hk=>⟨hk.1,Nat.lt_of_lt_of_le hk.2.1 hf5.size,hk.2.2,fun h=>by simp[Value.ownBlock] at h⟩);have:=hk.1;unfold onB at h;omega
   have hf6:=HF.out.trans hf5 (fun k _ h=>.inl h);have ST0:=k_ st0;clear st0;have HF6:=k_ hf6;clear hf6;clear hf5 hr5;go_wp2_with fail
   go_loopw [27] (fun i wr=>∃ j:Nat,j≤n2∧i=.int .i64 j∧oM (w.heap.size+1) w1.heap.size (.slice a0 m0 c0) (.slice a n c) hs (ay s2 k).1 wr (aL s4 j).2 (aL s4 j).1∧Fr (fun k=>k=w.heap.size+1∨w1.heap.size≤k) w1 wr) (fun i _=>n2 - (intOf i).toNat)
   case atStart=>exact⟨0,Nat.zero_le _,rfl,ST0.out,HF6.out⟩
   case round =>
    obtain⟨j,hj,rfl,⟨xs,nf,cf,af,hloc2,hown2,hinv2,hsh2,hso2,hrd2,hvq2,hdis2⟩,hf2⟩:=hrel
    by_cases hlt2:j<n2
    ·obtain⟨⟨q0,q1,q2⟩,f0,f1,f2⟩:=aH hloc2
     have CALL:=k_ (L5.out wr.drew j (show Rdr wr.drew _ _ from hrd2));have HLOC2:=k_ hloc2;clear hloc2;have HOWN2:=k_ hown2;clear hown2;have HINV2:=k_ hinv2;clear hinv2;have HSH2:=k_ hsh2;clear hsh2;have HSO2:=k_ hso2;clear hso2;have HRD2:=k_ hrd2;clear hrd2;have HF2:=k_ hf2;clear hf2;have HVQ2:=k_ hvq2;clear hvq2;have HDIS2:=k_ hdis2;clear hdis2;go_wp2_with fail;have hnp:∀ k,(Value.slice af nf cf).ownBlock=some k→¬ onB (w.heap.size+1) k:=fun k hk h=>by have:=(HOWN2.out.lt hk).1;unfold onB at h;omega
     have hhl:xs.length≤256:=by rw[HINV2.out.1,zH];omega
     have hqp:w1.heap.size≠w.heap.size+1:=by omega
     have HNP:=k_ hnp;clear hnp;have HHL:=k_ hhl;clear hhl;have hsn:aL s4 (j+1)=((aL s4 j).1 ++ [(rFn (aL s4 j).2).1],(rFn (aL s4 j).2).2):=rfl;obtain⟨f,hfe⟩:∃ f,f=(rFn (aL s4 j).2).1:=⟨_,rfl⟩;obtain⟨s',hs'⟩:∃ s',s'=(rFn (aL s4 j).2).2:=⟨_,rfl⟩;have CALL:=CALL.out;rw[← hfe,← hs'] at CALL hsn;have CALL:=k_ CALL;clear hfe hs';have HSN:=k_ hsn;clear hsn
     go_region_law (first | (go_simp;go_at_call 79;refine CALL.out.mono ?_;rintro e w3 ⟨d0,d3,d4,rfl,ho30,ho33,ho34,hr3,hf3⟩;obtain⟨a30,m30,rfl,hs30⟩:=bI ho30;obtain⟨a33,m33,rfl,hs33⟩:=bI ho33;obtain⟨a34,m34,rfl,hs34⟩:=pI ho34;have q2':=hf3.cell (show wr.drew.cell? _=_ from q2) (by unfold onB;exact hqp);have q2'':w1.heap.size<w3.heap.size:=World.block_lt q2') | (refine aS fnE rfl (.tmp 30) (.tmp 33) rfl w1.heap.size xs [⟨⟨a30,f.args.length,m30⟩,f.result,f.slots,⟨a33,f.objects.length,m33⟩,⟨a34,f.code.length,m34⟩⟩] _ rfl ((HOWN2.out.drew.fr hf3 HNP.out).alloc _) w3.heap.size 0 1 rfl (aA.new _ _ _ _) (by have:=HHL.out;simp;omega) (by have:=hf3.size;have:=aj HLOC2.out;simp at *;omega) ?_;intro v4 w4 ho4 hg4 hfr4;have loc4:w4.heap[w1.heap.size]?=some (.cells #[.slice a0 m0 c0,.slice a n c,.slice af nf cf] 48):=(by rw[hg4.block _ (by have:=hf3.size;have:=aj HLOC2.out;simp at *;omega) (fun e=>HVQ2.out e.symm),Below.heap_alloc _ _ _ (by have:=hf3.size;have:=aj HLOC2.out;simp at *;omega)];exact hf3.heap HLOC2.out (by unfold onB;exact hqp));obtain⟨⟨k0,k1,k2⟩,j0,j1,j2⟩:=aH loc4;obtain⟨a4,n4,c4,rfl⟩:=ho4.slice))
     all_goals
      have hok:um w3 (fun k=>wr.heap.size≤k∧k<w3.heap.size) ⟨⟨a30,f.args.length,m30⟩,f.result,f.slots,⟨a33,f.objects.length,m33⟩,⟨a34,f.code.length,m34⟩⟩ f :=
       ⟨rfl,rfl,⟨rfl,hs30.dom (fun k hk=>ho30.lt hk)⟩,⟨rfl,hs33.dom (fun k hk=>ho33.lt hk)⟩,rfl,hs34.dom (fun k hk=>ho34.lt hk)⟩
      have hst:=oM.step (p:=w.heap.size+1) (by omega) HLOC2.out HOWN2.out HINV2.out HSH2.out HSO2.out HVQ.out HVQ2.out HDIS2.out hok hr3 ⟨hf3.os,hf3.tape,hf3.output,hf3.size,hf3.block⟩ _ ho4 hg4 hfr4 loc4;have HST:=k_ hst;clear hst;clear ho30 ho33 ho34 hs30 hs33 hs34 hok hr3 hf3 ho4 hg4 hfr4 loc4;go_wp2_with fail
      go_roundw
      case rel =>
       refine⟨j+1,by omega,by go_num,by rw[HSN.out];exact HST.out.1,HF2.out.trans HST.out.2 (fun _ _ h=>h)⟩
      case measure=>simp[intOf];omega
    ·have hj':j=n2:=by omega
     subst hj';obtain⟨⟨q0,q1,q2⟩,f0,f1,f2⟩:=aH hloc2;obtain⟨r0,r1,_,_⟩:=aN (show _=some (Obj.cells #[.string (aL s4 j).2.1,.bool (aL s4 j).2.2] 135) from hrd2);have hres1:w1.heap[w.heap.size]?=some (.cells #[.slice none 0 0,.slice none 0 0,.slice none 0 0] 48):=by
      refine HF1.out.heap ?_ (by unfold onB;omega);rw[Below.heap_alloc _ _ _ (by simp)];exact ai w _
     have hres:=hf2.heap hres1 (by omega);obtain⟨⟨_,_,_⟩,g0,g1,g2⟩:=aH hres;have hfst:(jq b).2=(aL s4 j).2:=by rw[HP0.out]
     have hpst:(jq b).1=⟨g,(ay s2 k).1,(aL s4 j).1⟩:=by rw[HP0.out]
     have hemp:=isEmpty_iff (aL s4 j).2.1;have hok:bK b=(!(aL s4 j).2.2 && (aL s4 j).2.1.toList.isEmpty):=by unfold bK;rw[hfst,hemp]
     have hB:Below w.heap.size w wr:=by
      have h1:Below w.heap.size w w1:=(((Below.refl _ _).alloc (Nat.le_refl _) _).alloc (by simp) _).trans (HF1.out.below (by simp;omega) (fun k hk=>by unfold onB at hk;omega));exact h1.trans (hf2.below (by omega) (fun k hk=>by omega))
     have hfin:∀ W,Fr (onB w.heap.size) wr W→Below w.heap.size w W→bK b=true→qh b w (.returned (.tuple #[.agg #[.slice a0 m0 c0,.slice a n c,.slice af nf cf],.int .i64 0])) W:=by
      intro W hW hWb hyes;refine⟨_,_,_,by rw[hyes];rfl,?_,hWb⟩;unfold gT;rw[if_pos hyes,hpst];have hsz:=hW.size;refine⟨?_,?_,?_⟩
      ·have hb0:∀ k,(Value.slice a0 m0 c0).ownBlock=some k→w.heap.size<k∧k<w1.heap.size∧k≠w.heap.size+1:=fun k hk=>by
        have:=HO0.out.lt hk;simp at this;omega
       have ho:=(HO0.out.fr hf2 (fun k hk=>by have:=hb0 k hk;omega)).fr hW (fun k hk=>by have:=hb0 k hk;unfold onB;omega);have hs:=hf2.size;obtain⟨a',c',h1,h2⟩:=bI ho;exact⟨a',c',h1,h2.dom (fun k hk=>by have:=hb0 k hk;omega)⟩
      ·refine zL (hso2.fr hW (fun k hk=>by have:=(hso2.lt hk).1;unfold onB;omega)) (hsh2.fr hW (D':=lG w1.heap.size (.slice a n c) (.slice af nf cf) wr) (fun k hk=>by have:=hk.1;unfold onB;omega) (fun k hk=>hk)) (fun k hk=>by have h1:=hk.1;have h2:=hk.2.1;omega) (fun k hk=>by have:=hso2.lt hk;omega)
      ·refine zJ (hown2.fr hW (fun k hk=>by have:=(hown2.lt hk).1;unfold onB;omega)) (hinv2.fr hW (D':=lG w1.heap.size (.slice a n c) (.slice af nf cf) wr) (fun k hk=>by have:=hk.1;unfold onB;omega) (fun k hk=>hk)) (fun k hk=>by have h1:=hk.1;have h2:=hk.2.1;omega) (fun k hk=>by have:=hown2.lt hk;omega)
     have hno:∀ W,Below w.heap.size w W→bK b=false→qh b w (.returned (.tuple #[.agg #[.slice none 0 0,.slice none 0 0,.slice none 0 0],.int .i64 2])) W:=by
      intro W hWb hn;refine⟨_,_,_,by rw[hn];rfl,?_,hWb⟩;unfold gT;rw[hn];exact⟨⟨none,0,rfl,fun j hj=>by cases hj⟩,⟨none,0,rfl,fun j hj=>by cases hj⟩,none,0,rfl,fun j hj=>by cases hj⟩
     have hset:∀ x0 x1 x2,(((wr.setCell ⟨w.heap.size,0,none⟩ x0).setCell ⟨w.heap.size,1,none⟩ x1).setCell ⟨w.heap.size,2,none⟩ x2).heap[w.heap.size]?=some (.cells #[x0,x1,x2] 48)∧Fr (onB w.heap.size) wr (((wr.setCell ⟨w.heap.size,0,none⟩ x0).setCell ⟨w.heap.size,1,none⟩ x1).setCell ⟨w.heap.size,2,none⟩ x2):=fun x0 x1 x2 =>
      ⟨ag (ag (ag hres 0 _) 1 _) 2 _,(((Fr.refl (onB w.heap.size) wr).setCell (p:=⟨w.heap.size,0,none⟩) (fun _=>rfl) _).setCell (p:=⟨w.heap.size,1,none⟩) (fun _=>rfl) _).setCell (p:=⟨w.heap.size,2,none⟩) (fun _=>rfl) _⟩
     have hbl:∀ W,Fr (onB w.heap.size) wr W→Below w.heap.size w W:=fun W h=>hB.trans (h.below (by have:=hB.size;omega) (fun k hk=>by unfold onB at hk;omega))
     generalize aL s4 j=T at *;obtain⟨T1,T2,T3⟩:=T
     dsimp only at r0 r1 hok
     clear hinv2 hsh2 hso2 hown2 hdis2 hfst hpst hemp hB hres1 hres hrd2 hloc2 hf2 hj hvq2
     cases T3 <;> cases he:T2.toList.isEmpty
     all_goals
      rw[he] at hok
      first
      | have HF:=k_ (hfin _ (hset (.slice a0 m0 c0) (.slice a n c) (.slice af nf cf)).2 (hbl _ (hset (.slice a0 m0 c0) (.slice a n c) (.slice af nf cf)).2) hok)
        have hh:=(hset (.slice a0 m0 c0) (.slice a n c) (.slice af nf cf)).1
      | have HF:=k_ (hno _ (hbl _ (hset (.slice none 0 0) (.slice none 0 0) (.slice none 0 0)).2) hok)
        have hh:=(hset (.slice none 0 0) (.slice none 0 0) (.slice none 0 0)).1
      clear hfin hno hset hbl;have HH:=k_ hh;clear hh;go_wp2_with fail;obtain⟨⟨k0,k1,k2⟩,_⟩:=aH HH.out;have HFO:=HF.out;refine bodyPost_ret ?_ rfl HFO
      simp[results,Tryz.results51,go_sem,k0,k1,k2]
end Go.Proofs.YtlofbhoicbemnaaGreatDoor
namespace Go.Proofs.YtlofbhoicbemnaaGreatDoor
open Go.RowKit
variable {P:Program} {α:Type}
theorem Own.cells {E:Elem P α} {w:World} {B:Nat} {v:Value} {l:List α} (h:Own E w B v l) (hne:1≤l.length):∃ g c,v=.slice (some ⟨g,0,none⟩) l.length c∧B≤g∧g<w.heap.size∧aA w g 0 (l.flatMap E.enc):=by
 have hc:=fun g hg=>World.ownsRow.cells (g:=g) h hg
 have hlt:=fun k hk=>h.lt (k:=k) hk
 obtain⟨h1,h2⟩:=h
 rcases h2 with⟨rfl,h0⟩ | ⟨g,cap,cur,rfl,hg,hh,hr⟩
 ·omega
 ·refine⟨g,cap,rfl,hg,(hlt g rfl).2,fun j u hj=>?_⟩
  have:=hc g rfl j u hj;unfold Addr.add at this
  split at this
  ·subst j;exact this
  ·simpa using this
variable {E:Elem P α} {HE:Elem P Hd} {w w':World} {B:Nat} {X:Nat→Prop} {v:Value} {hs:List Hd} {ls:List (List α)}
end Go.Proofs.YtlofbhoicbemnaaGreatDoor
namespace Go.Proofs.YtlofbhoicbemnaaGreatDoor
open Go.ChangeShapes Go.WideShapes Go.ChangeAt Go.RowKit
def wA (w:World):World:=((w.alloc (.cells #[.int .i64 27,.int .i64 0,.int .i64 0,.int .i64 0] 63)).alloc (.cells #[.slice none 0 0,.int .i64 0,.int .i64 0,.slice none 0 0,.slice (some ⟨w.heap.size,0,none⟩) 1 1] 66)).alloc (.cells #[.slice none 0 0,.slice none 0 0,.slice (some ⟨w.heap.size+1,0,none⟩) 1 1] 48)
end Go.Proofs.YtlofbhoicbemnaaGreatDoor
