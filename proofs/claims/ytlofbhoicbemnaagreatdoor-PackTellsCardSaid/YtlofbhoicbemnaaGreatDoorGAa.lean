/- Laws on memory that the walks share: bytes as a string, rows of cells. Nothing of the program stands here. Regions that draw their .. -/
import Derived.WalkKit
import Derived.Handy
import Derived.WalkSpells
import Derived.Lib.Hide
import Derived.Deep.Draws
import Derived.Deep.QuietTactic
import Derived.BigQuiet
import Derived.Deep.RegionHeld
import Derived.Test.YtlofbhoicbemnaaGreatDoorRows
import Derived.ProofKit
import Derived.OpenShut
set_option linter.unusedVariables false
set_option linter.unusedSimpArgs false
set_option maxHeartbeats 4000000
namespace Go.Proofs.YtlofbhoicbemnaaGreatDoor
theorem k_ {p:Prop}(h:p):RowKit.Hid p:=h
theorem c_14 {W:World}{b:Nat}{x0 x1 x2 x3 x4 x5 x6 x7 x8 x9 x10 x11 x12 x13:Value}(h:∀ j u,(#[x0,x1,x2,x3,x4,x5,x6,x7,x8,x9,x10,x11,x12,x13]:Array Value)[j]?=some u→W.cell? ⟨b,j,none⟩=some u):W.cell? ⟨b,0,none⟩=some x0∧W.cell? ⟨b,1,none⟩=some x1∧W.cell? ⟨b,2,none⟩=some x2∧W.cell? ⟨b,3,none⟩=some x3∧W.cell? ⟨b,4,none⟩=some x4∧W.cell? ⟨b,5,none⟩=some x5∧W.cell? ⟨b,6,none⟩=some x6∧W.cell? ⟨b,7,none⟩=some x7∧W.cell? ⟨b,8,none⟩=some x8∧W.cell? ⟨b,9,none⟩=some x9∧W.cell? ⟨b,10,none⟩=some x10∧W.cell? ⟨b,11,none⟩=some x11∧W.cell? ⟨b,12,none⟩=some x12∧W.cell? ⟨b,13,none⟩=some x13:=⟨h 0 _ rfl,h 1 _ rfl,h 2 _ rfl,h 3 _ rfl,h 4 _ rfl,h 5 _ rfl,h 6 _ rfl,h 7 _ rfl,h 8 _ rfl,h 9 _ rfl,h 10 _ rfl,h 11 _ rfl,h 12 _ rfl,h 13 _ rfl⟩
theorem r_14 {W:World}{b:Nat}{x0 x1 x2 x3 x4 x5 x6 x7 x8 x9 x10 x11 x12 x13:Value}{t:TypeId}(h:W.heap[b]?=some (.cells #[x0,x1,x2,x3,x4,x5,x6,x7,x8,x9,x10,x11,x12,x13] t)):W.cell? ⟨b,0,none⟩=some x0∧W.cell? ⟨b,1,none⟩=some x1∧W.cell? ⟨b,2,none⟩=some x2∧W.cell? ⟨b,3,none⟩=some x3∧W.cell? ⟨b,4,none⟩=some x4∧W.cell? ⟨b,5,none⟩=some x5∧W.cell? ⟨b,6,none⟩=some x6∧W.cell? ⟨b,7,none⟩=some x7∧W.cell? ⟨b,8,none⟩=some x8∧W.cell? ⟨b,9,none⟩=some x9∧W.cell? ⟨b,10,none⟩=some x10∧W.cell? ⟨b,11,none⟩=some x11∧W.cell? ⟨b,12,none⟩=some x12∧W.cell? ⟨b,13,none⟩=some x13:=c_14 fun j u hu=>by simp only [World.cell?,h];exact hu
theorem c_8 {W:World}{b:Nat}{cs:Array Value}{x0 x1 x2 x3 x4 x5 x6 x7:Value}(h:∀ j u,cs[j]?=some u→W.cell? ⟨b,j,none⟩=some u)(e0:cs[0]?=some x0)(e1:cs[1]?=some x1)(e2:cs[2]?=some x2)(e3:cs[3]?=some x3)(e4:cs[4]?=some x4)(e5:cs[5]?=some x5)(e6:cs[6]?=some x6)(e7:cs[7]?=some x7):W.cell? ⟨b,0,none⟩=some x0∧W.cell? ⟨b,1,none⟩=some x1∧W.cell? ⟨b,2,none⟩=some x2∧W.cell? ⟨b,3,none⟩=some x3∧W.cell? ⟨b,4,none⟩=some x4∧W.cell? ⟨b,5,none⟩=some x5∧W.cell? ⟨b,6,none⟩=some x6∧W.cell? ⟨b,7,none⟩=some x7:=⟨h 0 _ e0,h 1 _ e1,h 2 _ e2,h 3 _ e3,h 4 _ e4,h 5 _ e5,h 6 _ e6,h 7 _ e7⟩
end Go.Proofs.YtlofbhoicbemnaaGreatDoor
namespace Go.Proofs.YtlofbhoicbemnaaGreatDoor
open Go.RowKit
def ah (ns:List Int):ByteArray:=⟨(ns.map fun n=>UInt8.ofNat n.toNat).toArray⟩
theorem CZ (ns:List Int):∀ (s:ByteArray),ns.foldl (fun r n=>r.push (UInt8.ofNat n.toNat)) s=⟨s.data ++ (ns.map fun n=>UInt8.ofNat n.toNat).toArray⟩:=by
 induction ns with
 | nil=>intro s;simp
 | cons n ns ih =>
   intro s;rw[List.foldl_cons,ih]
   congr 1
   show s.data.push _ ++ _=_
   apply Array.ext'
   simp
theorem ou {P:Program} (w:World) (src dst e:TypeId) (a:Addr) (cap:Nat) (ns:List Int)
  (hs:P.underlying src=some (.slice e)) (he:P.underlying e=some (.int .u8)) (hd:P.underlying dst=some .string)
  (h:∀ j v,(ns.map (Value.int .u8))[j]?=some v→w.cell? (a.add j)=some v) :
  (convert src dst (.slice (some a) ns.length cap)).run P w=.ok (.string (ah ns)) w:=by
 rw[run_convert_bytes_string w src dst e _ _ _ hs he hd];have hl:=run_loadCells_list (P:=P) (w:=w) a (ns.map (Value.int .u8)) h;rw[List.length_map] at hl;rw[run_bytesToString w a ns.length cap ns hl,CZ]
 show Result.ok (Value.string ⟨#[] ++ _⟩) w=_
 simp[ah]
theorem ai (w:World) (o:Obj):(w.alloc o).heap[w.heap.size]?=some o:=by
 show (w.heap.push _)[w.heap.size]?=_
 simp
theorem aI (w:World) (c:Array Value) (t:TypeId) (fz:Nat × Nat) (j:Nat):(w.alloc (.cells c t fz)).cell? ⟨w.heap.size,j,none⟩=c[j]?:=by
 unfold World.cell?;rw[ai]
 rfl
theorem aY (w:World) (o:Obj) {p:Addr} (h:p.block<w.heap.size):(w.alloc o).cell? p=w.cell? p :=
 World.cell?_of_block (w:=w) (Below.heap_alloc w o _ h)
theorem below_drewN {B:Nat} {a w:World} (h:Below B a w) (n:Nat):Below B a (w.drewN n):=h.trans ⟨rfl,rfl,rfl,Nat.le_refl _,fun _ _=>rfl⟩
theorem Es {P:Program} (w:World) (src dst e:TypeId) (cap:Nat) (x0 x1 x2 x3:Int) (t:TypeId)
  (hs:P.underlying src=some (.slice e)) (he:P.underlying e=some (.int .u8)) (hd:P.underlying dst=some .string) :
  (convert src dst (.slice (some ⟨w.heap.size,0,none⟩) 4 cap)).run P (w.alloc (.cells #[.int .u8 x0,.int .u8 x1,.int .u8 x2,.int .u8 x3] t))=.ok (.string (ah [x0,x1,x2,x3])) (w.alloc (.cells #[.int .u8 x0,.int .u8 x1,.int .u8 x2,.int .u8 x3] t)):=by
 refine ou (P:=P) _ src dst e _ cap [x0,x1,x2,x3] hs he hd ?_;intro j v hv
 match j,hv with
 | 0,hv=>show World.cell? _ ⟨w.heap.size,0,none⟩=_;rw[aI];exact hv
 | 1,hv=>show World.cell? _ ⟨w.heap.size,1,none⟩=_;rw[aI];exact hv
 | 2,hv=>show World.cell? _ ⟨w.heap.size,2,none⟩=_;rw[aI];exact hv
 | 3,hv=>show World.cell? _ ⟨w.heap.size,3,none⟩=_;rw[aI];exact hv
def bP (w:World):Type:={ W:World // Below w.heap.size w W }
instance (w:World):Nonempty (bP w):=⟨⟨w,Below.refl _ _⟩⟩
theorem bP.cell {w:World} (W:bP w) {a:Addr} {v:Value} (h:w.cell? a=some v):W.val.cell? a=some v:=by
 have hlt:a.block<w.heap.size:=by
  unfold World.cell? at h
  rcases Nat.lt_or_ge a.block w.heap.size with h' | h'
  ·exact h'
  ·rw[Array.getElem?_eq_none h'] at h;cases h
 rw[W.2.cell hlt];exact h
theorem bu {P:Program} {id:Nat} {Q:Exit→Act→World→Prop} {a:Act} {w:World} {l:List Oper} (hm:P.follows .mixedOrders=true) (hB:Region.lexB .any l.toArray=true)
  (h:wpQuiet P l.toArray (fun w'=>∃ W:bP w,w'=W.val) (fun a'=>∀ w',(∃ W:bP w,w'=W.val)→Q .normal a' w') l a):(Code.region id l.toArray true).wp P Q a w :=
 wp_region_quiet (C:=fun w'=>∃ W:bP w,w'=W.val) hm hB ⟨⟨{ w with drawn:=w.drawn+1 },(Below.refl w.heap.size w).drew⟩,rfl⟩ (by simpa using h)
theorem Calls.below_of {P:Program} {f:FuncId} {args:Array Value} {w:World} {W:bP w} {v:Value}
  (h:Calls P f args W.val fun e w'=>e=.returned v∧Below W.val.heap.size W.val w'):Calls P f args W.val fun e w''=>e=.returned v∧∃ W':bP w,w''=W'.val :=
 h.mono fun _ w' ⟨he,hb⟩=>⟨he,⟨w',W.2.trans (hb.mono W.2.size)⟩,rfl⟩
theorem Calls.below_same {P:Program} {f:FuncId} {args:Array Value} {w:World} {W:bP w} {v:Value}
  (h:Calls P f args W.val fun e w'=>e=.returned v∧W.val=w'):Calls P f args W.val fun e w''=>e=.returned v∧∃ W':bP w,w''=W'.val :=
 h.mono fun _ _ ⟨he,hb⟩=>⟨he,W,hb.symm⟩
theorem World.block_lt {w:World} {a:Addr} {v:Value} (h:w.cell? a=some v):a.block<w.heap.size:=by
 unfold World.cell? at h
 rcases Nat.lt_or_ge a.block w.heap.size with h' | h'
 ·exact h'
 ·rw[Array.getElem?_eq_none h'] at h;cases h
theorem ae {w w':World} (hb:Below w.heap.size w w') {a:Addr} {v:Value} (h:w.cell? a=some v):w'.cell? a=some v:=by
 rw[hb.cell (World.block_lt h)];exact h
theorem rP {w w':World} {base:Nat} {e:TypeId} {size:Nat} {v:Value} {n:Nat} {xs:List Value} (h:w.ownsRow base e size v n xs) (hb:Below w.heap.size w w'):w'.ownsRow base e size v n xs:=by
 obtain⟨h1,h2⟩:=h;refine⟨h1,?_⟩
 rcases h2 with h2 | ⟨g,cap,cur,hv,hg,hh,hr⟩
 ·exact .inl h2
 ·have hlt:g<w.heap.size:=by
   rcases Nat.lt_or_ge g w.heap.size with h' | h'
   ·exact h'
   ·rw[Array.getElem?_eq_none h'] at hh;cases hh
  exact .inr ⟨g,cap,cur,hv,hg,by rw[hb.block g hlt];exact hh,hr⟩
theorem below_grown {B:Nat} {a w w':World} {base:Nat} {e:TypeId} {size:Nat} {v:Value} {n:Nat} {xs:List Value} (h:Below B a w) (hown:w.ownsRow base e size v n xs) (hg:w.grownBy w' v.ownBlock) (hB:B≤w.heap.size) (hb:B≤base):Below B a w' :=
 h.grown hg hB (fun k hk=>Nat.le_trans hb (hown.lt k hk).1)
theorem cell_grown {w w':World} {row:Option Nat} (hg:w.grownBy w' row) {a:Addr} {v:Value} (h:w.cell? a=some v) (hne:row≠some a.block):w'.cell? a=some v :=
 hg.cell h (fun e=>hne e.symm)
structure Elem (P:Program) (α:Type) where
 e:TypeId
 t:TypeId
 size:Nat
 bytes:Nat
 zero:Value
 enc:α→List Value
 ht:P.underlying t=some (.slice e)
 info:(P.info? e).map (fun i=>(i.zero,i.size,i.bytes))=some (some zero,size,bytes)
 hzs:zero.cells.size=size
 hsz:0<size
 hby:bytes≤1000
 henc:∀ x,(enc x).length=size
 hone:∀ x,∀ u ∈ enc x,u.oneCell'=true
variable {P:Program} {α:Type}
theorem Elem.len (E:Elem P α) (l:List α):(l.flatMap E.enc).length=l.length * E.size:=by
 induction l with
 | nil=>simp
 | cons x l ih=>rw[List.flatMap_cons,List.length_append,ih,E.henc,List.length_cons,Nat.add_mul];omega
def Own (E:Elem P α) (w:World) (B:Nat) (v:Value) (l:List α):Prop:=w.ownsRow B E.e E.size v l.length (l.flatMap E.enc)
theorem Own.nil (E:Elem P α) (w:World) (B:Nat):Own E w B (.slice none 0 0) []:=World.ownsRow_nil _ _ _ _
theorem Own.below {E:Elem P α} {w w':World} {B:Nat} {v:Value} {l:List α} (h:Own E w B v l) (hb:Below w.heap.size w w'):Own E w' B v l:=rP h hb
theorem Own.alloc {E:Elem P α} {w:World} {B:Nat} {v:Value} {l:List α} (h:Own E w B v l) (o:Obj):Own E (w.alloc o) B v l:=World.ownsRow.alloc h o
theorem Own.drew {E:Elem P α} {w:World} {B:Nat} {v:Value} {l:List α} (h:Own E w B v l):Own E w.drew B v l:=h
def aA (w:World) (b o:Nat) (cs:List Value):Prop:=∀ j u,cs[j]?=some u→w.cell? ⟨b,o+j,none⟩=some u
theorem aA.below {w w':World} {b o:Nat} {cs:List Value} (h:aA w b o cs) (hb:Below w.heap.size w w'):aA w' b o cs:=fun j u hj=>ae hb (h j u hj)
theorem aA.new (w:World) (cs:Array Value) (t:TypeId) (fz:Nat × Nat):aA (w.alloc (.cells cs t fz)) w.heap.size 0 cs.toList:=fun j u hj=>by
 rw[Nat.zero_add,aI];simpa using hj
theorem aA.new' {w:World} {g:Nat} (cs:Array Value) (t:TypeId) (fz:Nat × Nat) (hg:g=w.heap.size):aA (w.alloc (.cells cs t fz)) g 0 cs.toList:=by
 subst hg;exact aA.new w cs t fz
theorem bJ (E:Elem P α) {ops:Array Oper} {rest:List Oper} {o:Oper} {a:Act} {Q:Exit→Act→World→Prop} {w:World} (hgd:o.guard=none) (s x:Operand)
  (ho:o.op=.call { callee:=.builtin .append,args:=#[s,x],argTypes:=#[E.t,E.t] })
  (B:Nat) (l m:List α) (v:Value) (hs:a.eval s=v) (hown:Own E w B v l) (b of c:Nat) (hx:a.eval x=.slice (some ⟨b,of,none⟩) m.length c)
  (hm:aA w b of (m.flatMap E.enc)) (hlen:l.length+m.length≤100000000) (hB:B≤w.heap.size)
  (h:∀ v' w',Own E w' B v' (l ++ m)→w.grownBy w' v.ownBlock→wpList P ops Q rest (a.put o.dst v') w'):wpList P ops Q (o :: rest) a w:=by
 obtain⟨i0,hi,hz0,hz1,hz2⟩:=info_parts E.info;refine wpList_append_own _ hgd s x E.t ho B E.e i0 E.zero E.size E.bytes E.ht hi hz0 hz1 hz2 E.hzs E.hsz v l.length (l.flatMap E.enc) hs hown ⟨b,of,none⟩ m.length c (m.flatMap E.enc) hx (E.len m) ?_ ?_ ?_ ?_ hB ?_
 ·intro j u hj
  have:=hm j u hj;unfold Addr.add
  by_cases h0:j=0
  ·subst h0;rw[if_pos rfl];exact this
  ·rw[if_neg h0];exact this
 ·intro u hu
  obtain⟨y,_,hy⟩:=List.mem_flatMap.1 hu;exact E.hone y u hy
 ·unfold maxLen;omega
 ·have h1:=E.hby
  have h2:(l.length+m.length) * E.bytes≤100000000 * 1000:=Nat.mul_le_mul hlen h1
  omega
 ·intro v' w' ho' hg _
  refine h v' w' ?_ hg;unfold Own;rw[List.length_append,List.flatMap_append];exact ho'
end Go.Proofs.YtlofbhoicbemnaaGreatDoor
namespace Go.Proofs.YtlofbhoicbemnaaGreatDoor
open Go.RowKit
structure Fr (F:Nat→Prop) (w w':World):Prop where
 os:w'.os=w.os
 tape:w'.tape=w.tape
 output:w'.output=w.output
 size:w.heap.size≤w'.heap.size
 block:∀ k,k<w.heap.size→¬ F k→w'.heap[k]?=w.heap[k]?
theorem Fr.refl (F:Nat→Prop) (w:World):Fr F w w:=⟨rfl,rfl,rfl,Nat.le_refl _,fun _ _ _=>rfl⟩
theorem Fr.trans {F G:Nat→Prop} {a b c:World} (h:Fr F a b) (k:Fr G b c) (hg:∀ k,k<a.heap.size→G k→F k):Fr F a c :=
 ⟨k.os.trans h.os,k.tape.trans h.tape,k.output.trans h.output,Nat.le_trans h.size k.size,
  fun i hi hn=>(k.block i (Nat.lt_of_lt_of_le hi h.size) (fun hG=>hn (hg i hi hG))).trans (h.block i hi hn)⟩
theorem Fr.mono {F G:Nat→Prop} {w w':World} (h:Fr F w w') (hg:∀ k,F k→G k):Fr G w w':=⟨h.os,h.tape,h.output,h.size,fun k hk hn=>h.block k hk (fun hf=>hn (hg k hf))⟩
theorem Fr.below {F:Nat→Prop} {w w':World} (h:Fr F w w') {N:Nat} (hN:N≤w.heap.size) (hf:∀ k,F k→N≤k):Below N w w' :=
 ⟨h.os,h.tape,h.output,h.size,fun k hk=>h.block k (by omega) (fun hF=>by have:=hf k hF;omega)⟩
theorem Fr.of_below {w w':World} (h:Below w.heap.size w w') (F:Nat→Prop):Fr F w w':=⟨h.os,h.tape,h.output,h.size,fun k hk _=>h.block k hk⟩
theorem Fr.alloc {F:Nat→Prop} {a w:World} (h:Fr F a w) (o:Obj):Fr F a (w.alloc o) :=
 h.trans (Fr.of_below ((Below.refl _ _).alloc (Nat.le_refl _) _) (fun _=>False)) (fun _ _ h=>h.elim)
theorem Fr.drew {F:Nat→Prop} {a w:World} (h:Fr F a w):Fr F a w.drew:=⟨h.os,h.tape,h.output,h.size,h.block⟩
theorem Fr.drewN {F:Nat→Prop} {a w:World} (h:Fr F a w) (n:Nat):Fr F a (w.drewN n):=⟨h.os,h.tape,h.output,h.size,h.block⟩
theorem Fr.setCell {F:Nat→Prop} {a w:World} (h:Fr F a w) {p:Addr} (hp:p.block<a.heap.size→F p.block) (u:Value):Fr F a (w.setCell p u) :=
 h.trans (G:=fun k=>k=p.block) ⟨rfl,rfl,rfl,by simp[World.setCell],fun k _ hk=>Below.heap_setCell _ _ _ _ hk⟩ (fun k hk e=>by subst e;exact hp hk)
theorem Fr.grown {F:Nat→Prop} {a w w':World} {row:Option Nat} (h:Fr F a w) (hg:w.grownBy w' row) (hr:∀ k,row=some k→k<a.heap.size→F k):Fr F a w' :=
 h.trans (G:=fun k=>row=some k) ⟨hg.os,hg.tape,hg.output,hg.size,fun k hk hn=>hg.block k hk (fun e=>hn e.symm)⟩ (fun k hk e=>hr k e hk)
theorem Fr.heap {F:Nat→Prop} {w w':World} (h:Fr F w w') {k:Nat} {o:Obj} (hk:w.heap[k]?=some o) (hn:¬ F k):w'.heap[k]?=some o:=by
 have hlt:k<w.heap.size:=by
  rcases Nat.lt_or_ge k w.heap.size with h' | h'
  ·exact h'
  ·rw[Array.getElem?_eq_none h'] at hk;cases hk
 rw[h.block k hlt hn];exact hk
theorem Fr.cell {F:Nat→Prop} {w w':World} (h:Fr F w w') {a:Addr} {v:Value} (hc:w.cell? a=some v) (hn:¬ F a.block):w'.cell? a=some v:=by
 rw[World.cell?_of_block (w:=w) (h.block a.block (World.block_lt hc) hn)];exact hc
theorem IX {F:Nat→Prop} {w w':World} {base:Nat} {e:TypeId} {size:Nat} {v:Value} {n:Nat} {xs:List Value} (h:w.ownsRow base e size v n xs) (hf:Fr F w w') (hn:∀ k,v.ownBlock=some k→¬ F k):w'.ownsRow base e size v n xs:=by
 obtain⟨h1,h2⟩:=h;refine⟨h1,?_⟩
 rcases h2 with h2 | ⟨g,cap,cur,hv,hg,hh,hr⟩
 ·exact .inl h2
 ·exact .inr ⟨g,cap,cur,hv,hg,hf.heap hh (hn g (by rw[hv];rfl)),hr⟩
theorem aA.fr {F:Nat→Prop} {w w':World} {b o:Nat} {cs:List Value} (h:aA w b o cs) (hf:Fr F w w') (hn:¬ F b):aA w' b o cs:=fun j u hj=>hf.cell (h j u hj) hn
variable {P:Program} {α:Type}
theorem Own.fr {E:Elem P α} {F:Nat→Prop} {w w':World} {B:Nat} {v:Value} {l:List α} (h:Own E w B v l) (hf:Fr F w w') (hn:∀ k,v.ownBlock=some k→¬ F k):Own E w' B v l:=IX h hf hn
theorem Own.lt {E:Elem P α} {w:World} {B:Nat} {v:Value} {l:List α} (h:Own E w B v l) {k:Nat} (hk:v.ownBlock=some k):B≤k∧k<w.heap.size:=World.ownsRow.lt h k hk
theorem Own.base {E:Elem P α} {w:World} {B B':Nat} {v:Value} {l:List α} (h:Own E w B v l) (hb:∀ k,v.ownBlock=some k→B'≤k):Own E w B' v l:=by
 obtain⟨h1,h2⟩:=h;refine⟨h1,?_⟩
 rcases h2 with h2 | ⟨g,cap,cur,hv,hg,hh,hr⟩
 ·exact .inl h2
 ·exact .inr ⟨g,cap,cur,hv,hb g (by rw[hv];rfl),hh,hr⟩
theorem Own.slice {E:Elem P α} {w:World} {B:Nat} {v:Value} {l:List α} (h:Own E w B v l):∃ a n c,v=.slice a n c:=by
 rcases h.2 with⟨rfl,h0⟩ | ⟨g,cap,cur,rfl,_⟩
 ·exact⟨none,0,0,rfl⟩
 ·exact⟨_,_,_,rfl⟩
theorem aj {w:World} {p:Nat} {o:Obj} (h:w.heap[p]?=some o):p<w.heap.size:=by
 rcases Nat.lt_or_ge p w.heap.size with h' | h'
 ·exact h'
 ·rw[Array.getElem?_eq_none h'] at h;cases h
def eO (w:World) (v v':Value):Prop:=∀ k,v'.ownBlock=some k→v.ownBlock=some k∨w.heap.size≤k
theorem iD (E:Elem P α) (w:World) (ty:TypeId) (B:Nat) (l m:List α) (v:Value) (hown:Own E w B v l) (b of c:Nat)
  (hm:aA w b of (m.flatMap E.enc)) (hlen:l.length+m.length≤100000000) (hB:B≤w.heap.size) :
  ∃ v' w',(Builtin.append_ #[E.t,E.t] ty #[v,.slice (some ⟨b,of,none⟩) m.length c]).run P w=.ok v' w'∧Own E w' B v' (l ++ m)∧w.grownBy w' v.ownBlock∧eO w v v':=by
 obtain⟨i0,hi,hz0,hz1,hz2⟩:=info_parts E.info;have hnews:∀ j u,(m.flatMap E.enc)[j]?=some u→w.cell? ((⟨b,of,none⟩:Addr).add j)=some u:=by
  intro j u hj;have:=hm j u hj;unfold Addr.add
  by_cases h0:j=0
  ·subst h0;rw[if_pos rfl];exact this
  ·rw[if_neg h0];exact this
 have h1:∀ u ∈ m.flatMap E.enc,u.oneCell'=true:=by
  intro u hu;obtain⟨y,_,hy⟩:=List.mem_flatMap.1 hu;exact E.hone y u hy
 have hml:l.length+m.length≤maxLen:=by unfold maxLen;omega
 have hby:(l.length+m.length) * E.bytes≤140737488355328:=by
  have h1:=E.hby;have h2:(l.length+m.length) * E.bytes≤100000000 * 1000:=Nat.mul_le_mul hlen h1
  omega
 have go:∀ B',B'≤w.heap.size→Own E w B' v l→∃ v' w',(Builtin.append_ #[E.t,E.t] ty #[v,.slice (some ⟨b,of,none⟩) m.length c]).run P w=.ok v' w'∧Own E w' B' v' (l ++ m)∧w.grownBy w' v.ownBlock:=fun B' hB' ho=>by
  obtain⟨v',w',hr,h2,h3,_⟩:=run_append_own (P:=P) w B' E.t ty E.e i0 E.zero E.size E.bytes E.ht hi hz0 hz1 hz2 E.hzs E.hsz v l.length (l.flatMap E.enc) ho ⟨b,of,none⟩ m.length c (m.flatMap E.enc) (E.len m) hnews h1 hml hby hB';refine⟨v',w',hr,?_,h3⟩;unfold Own;rw[List.length_append,List.flatMap_append];exact h2
 obtain⟨v',w',hr,h2,h3⟩:=go B hB hown;refine⟨v',w',hr,h2,h3,?_⟩
 rcases hown.2 with⟨rfl,h0⟩ | ⟨g,cap,cur,rfl,hbg,hg,hnc,hcm,hcs,htake⟩
 ·have hl0:l=[]:=List.length_eq_zero_iff.1 h0
  subst hl0;obtain⟨v2,w2,hr2,h22,_⟩:=go w.heap.size (Nat.le_refl _) (Own.nil _ _ _);rw[hr] at hr2
  injection hr2 with e1 e2
  subst e1 e2;exact fun k hk=>.inr (h22.lt hk).1
 ·by_cases hroom:l.length+m.length≤cap
  ·have hfit:l.length * i0.size+(m.flatMap E.enc).length≤cur.size:=by rw[E.len m,hcs,hz1,← Nat.add_mul];exact Nat.mul_le_mul_right _ hroom
   have hr2:=run_append_room (P:=P) w E.t ty E.e i0 E.ht hi g l.length cap cur hg ⟨b,of,none⟩ m.length c (m.flatMap E.enc) (by rw[hz1];exact E.len m) hnews h1 hroom hfit;rw[hr] at hr2
   injection hr2 with e1 e2
   subst e1;exact fun k hk=>.inl hk
  ·have holds:∀ j u,(l.flatMap E.enc)[j]?=some u→w.cell? ((⟨g,0,none⟩:Addr).add j)=some u:=World.ownsRow.cells (g:=g) hown rfl
   have hr2:=run_append_grow (P:=P) w E.t ty E.e i0 E.zero E.ht hi hz0 ⟨g,0,none⟩ l.length cap (l.flatMap E.enc) (by rw[hz1];exact E.len l) holds ⟨b,of,none⟩ m.length c (m.flatMap E.enc) (by rw[hz1];exact E.len m) hnews (by omega) (by omega) (growslice_fits (by omega) (by rw[hz2];exact hby));rw[hr] at hr2
   injection hr2 with e1 e2
   subst e1;intro k hk
   simp[Value.ownBlock] at hk
   exact .inr (by omega)
theorem bE (E:Elem P α) {ops:Array Oper} {rest:List Oper} {o:Oper} {a:Act} {Q:Exit→Act→World→Prop} {w:World} (hgd:o.guard=none) (s x:Operand)
  (ho:o.op=.call { callee:=.builtin .append,args:=#[s,x],argTypes:=#[E.t,E.t] })
  (B:Nat) (l m:List α) (v:Value) (hs:a.eval s=v) (hown:Own E w B v l) (b of c:Nat) (hx:a.eval x=.slice (some ⟨b,of,none⟩) m.length c)
  (hm:aA w b of (m.flatMap E.enc)) (hlen:l.length+m.length≤100000000) (hB:B≤w.heap.size)
  (h:∀ v' w',Own E w' B v' (l ++ m)→w.grownBy w' v.ownBlock→eO w v v'→wpList P ops Q rest (a.put o.dst v') w'):wpList P ops Q (o :: rest) a w :=
 wpList_plain hgd fun _ hK=>by
  obtain⟨v',w',hr,h2,h3,h4⟩:=iD E w o.type B l m v hown b of c hm hlen hB;unfold Oper.wp execOp;simp only[ho,resolve,invoke,builtin,Sem.run_bind,Sem.run_pure,Result.andThen_ok,List.map_toArray,List.map_cons,List.map_nil,hs,hx,hr];exact hK _ _ (h v' w' h2 h3 h4)
theorem Elem.get (E:Elem P α) (l:List α) (j r:Nat) (hj:j<l.length) (hr:r<E.size):(l.flatMap E.enc)[j * E.size+r]?=(E.enc l[j])[r]?:=by
 induction l generalizing j with
 | nil=>cases hj
 | cons x l ih =>
   rw[List.flatMap_cons]
   cases j with
   | zero =>
     rw[List.getElem?_append_left (by rw[E.henc];omega)];simp
   | succ j =>
     rw[List.getElem?_append_right (by rw[E.henc,Nat.add_mul];omega)];have:(j+1) * E.size+r - (E.enc x).length=j * E.size+r:=by rw[E.henc,Nat.add_mul];omega
     rw[this,ih j (by simpa using hj)]
     rfl
theorem aP {E:Elem P α} {w:World} {B:Nat} {v:Value} {l:List α} (h:Own E w B v l):∃ a c,v=.slice a l.length c∧∀ j (hj:j<l.length),∃ b,a=some ⟨b,0,none⟩∧v.ownBlock=some b∧∀ r u,(E.enc l[j])[r]?=some u→w.cell? ⟨b,j * E.size+r,none⟩=some u:=by
 have hc:=fun g hg=>World.ownsRow.cells (g:=g) h hg
 obtain⟨h1,h2⟩:=h
 rcases h2 with⟨rfl,h0⟩ | ⟨g,cap,cur,rfl,hg,hh,hr⟩
 ·have:l=[]:=List.length_eq_zero_iff.1 h0
  subst this;exact⟨none,0,rfl,fun j hj=>by cases hj⟩
 ·refine⟨_,cap,rfl,fun j hj=>⟨g,rfl,rfl,fun r u hu=>?_⟩⟩
  have hrs:r<E.size:=by
   rcases Nat.lt_or_ge r E.size with h' | h'
   ·exact h'
   ·rw[List.getElem?_eq_none (by rw[E.henc];exact h')] at hu;cases hu
  have:=hc g rfl (j * E.size+r) u (by rw[E.get l j r hj hrs];exact hu);unfold Addr.add at this
  split at this
  ·rename_i h0
   rw[h0];exact this
  ·simpa using this
theorem aS (E:Elem P α) {ops:Array Oper} {o:Oper} {a:Act} {w:World} {K:Act→World→Prop} {Q:Exit→Act→World→Prop} {F:Prop} (hgd:o.guard=none) (s x:Operand)
  (ho:o.op=.call { callee:=.builtin .append,args:=#[s,x],argTypes:=#[E.t,E.t] })
  (B:Nat) (l m:List α) (v:Value) (hs:a.eval s=v) (hown:Own E w B v l) (b of c:Nat) (hx:a.eval x=.slice (some ⟨b,of,none⟩) m.length c)
  (hm:aA w b of (m.flatMap E.enc)) (hlen:l.length+m.length≤100000000) (hB:B≤w.heap.size)
  (h:∀ v' w',Own E w' B v' (l ++ m)→w.grownBy w' v.ownBlock→eO w v v'→K (a.put o.dst v') w'):if Region.wanted o (yielded ops a.tmps)=true then Oper.wp P o a w K Q else F:=by
 have hw:Region.wanted o (yielded ops a.tmps)=true:=by simp[Region.wanted,hgd]
 rw[if_pos hw];obtain⟨v',w',hr,h2,h3,h4⟩:=iD E w o.type B l m v hown b of c hm hlen hB;unfold Oper.wp execOp;simp only[ho,resolve,invoke,builtin,Sem.run_bind,Sem.run_pure,Result.andThen_ok,List.map_toArray,List.map_cons,List.map_nil,hs,hx,hr];exact h v' w' h2 h3 h4
end Go.Proofs.YtlofbhoicbemnaaGreatDoor
namespace Go.Proofs.YtlofbhoicbemnaaGreatDoor
open Go.RowKit
section
variable {P:Program} {ops:Array Oper} {Q:Exit→Act→World→Prop} {md:Region.Mode} {S:World→Prop}
theorem tk_ {i:Nat} {oi:Oper} {v:Value} {fuel:Nat} {listed:Array Bool} {a:Act} {w:World} (hi:ops[i]?=some oi)
  (hb:(Region.noSelect ops && Region.free md ops listed i && (Region.ready md ops listed).contains i && Region.wanted oi (yielded ops a.tmps))=true)
  (hQ:∀ c a w,Q (.panic c) (a.put oi.dst v) w→Q (.panic c) a w) (hy:∀ w,S w→(execOp a.eval oi).run P w=.ok (.value v) w) (hS:S w)
  (h:wpAnyH P md ops Q S fuel (listed.setIfInBounds i true) (a.put oi.dst v) w):wpAnyH P md ops Q S (fuel+1) listed a w:=by
 simp only[Bool.and_eq_true] at hb;obtain⟨⟨⟨h1,h2⟩,h3⟩,h4⟩:=hb;exact wpAnyH_take hi h1 h2 h3 hQ (Or.inl ⟨h4,hy⟩) hS h
theorem rd_ {i:Nat} {o:Oper} {fuel:Nat} {listed:Array Bool} {a:Act} {w:World} (hr:Region.ready md ops listed=[i]) (ho:ops[i]?=some o)
  (h:∀ K':Act→World→Prop,Shut (∀ a w,S w→(S w→wpAnyH P md ops Q S fuel (listed.setIfInBounds i true) a w)→K' a w)→if Region.wanted o (yielded ops a.tmps)=true then Oper.wp P o a w K' Q else K' (a.put o.dst undef) w) :
  wpAnyH P md ops Q S (fuel+1) listed a w :=
 wpAnyH_ready hr (by simp) (AllReadyH.cons ho h AllReadyH.nil)
end
theorem fb_ {w w':World} (h:Below w.heap.size w w'):Fr (fun _=>False) w w':=Fr.of_below h _
end Go.Proofs.YtlofbhoicbemnaaGreatDoor
namespace Go.Proofs.YtlofbhoicbemnaaGreatDoor
open Go.RowKit
theorem zR (a:Int):-2147483648≤wrap32 a∧wrap32 a≤2147483647:=by unfold wrap32;omega
theorem Ic (a:Int):wrap64 (wrap32 a)=wrap32 a:=by unfold wrap64 wrap32;omega
theorem Hl (a:Int):wrap32 (wrap32 a)=wrap32 a:=by unfold wrap32;omega
theorem F4 (a:Int):wrap64 (wrap32 (IntKind.u64.wrap a % 4294967296))=wrap32 a:=by
 rw[IntKind.wrap_u64];unfold wrap64 wrap32;omega
theorem ut (n:Int):bits .and .i64 n 4294967295=n % 4294967296:=by
 have h127:(BitVec.ofInt 64 4294967295).toNat=2 ^ 32 - 1:=by decide
 have key:(BitVec.ofInt 64 n &&& BitVec.ofInt 64 4294967295).toNat=(n % ((2 ^ 64:Nat):Int)).toNat % 2 ^ 32:=by
  rw[BitVec.toNat_and,BitVec.toNat_ofInt,h127,Nat.and_two_pow_sub_one_eq_mod]
 show IntKind.i64.wrap ((BitVec.ofInt 64 n &&& BitVec.ofInt 64 4294967295).toNat:Nat)=n % 4294967296
 rw[key,IntKind.wrap_i64]
 omega
open Go.ChangeShapes Go.WideShapes Go.ChangeAt
theorem A7 (a:Int) (w:World) :
  Calls Tryz.prog 73 #[.int .i64 a] w fun e w'=>e=.returned (.int .i64 (wrap32 a))∧w=w':=by
 go_enter Tryz.func73,Tryz.ntmps73
 go_wp2
 go_ret
 exact⟨by simp[F4],rfl⟩
theorem Bl (a:Int) (w:World) :
  Calls Tryz.prog 75 #[.int .i64 a] w fun e w'=>e=.returned (.int .i64 (wrap32 a))∧w=w':=by
 have h1:=ut a;have h2:0≤a % 4294967296∧a % 4294967296<4294967296:=by omega
 have hw:wrap32 a=if a % 4294967296<2147483648 then a % 4294967296 else a % 4294967296 - 4294967296:=by unfold wrap32;split <;> omega
 by_cases h:a % 4294967296<2147483648
 ·rw[hw,if_pos h];clear hw
  go_enter Tryz.func75,Tryz.ntmps75
  go_wp2
  go_ret
  exact⟨rfl,rfl⟩
 ·rw[hw,if_neg h];clear hw
  go_enter Tryz.func75,Tryz.ntmps75
  go_wp2
  go_ret
  exact⟨rfl,rfl⟩
def dh (op:Int):Bool:=decide (0≤op) && decide (op≤29)
def cO (op:Int):Bool × Bool × Bool :=
 if op=1∨op=2∨op=10∨op=11∨op=12∨op=13∨op=16∨op=17∨op=18∨op=25∨op=26 then (true,true,false)
 else if op=3∨op=4∨op=5∨op=6∨op=7∨op=8∨op=14∨op=15∨op=19∨op=20∨op=21 then (true,true,true)
 else if op=9 then (false,true,false)
 else if op=22∨op=29 then (true,false,false)
 else if op=23∨op=24 then (false,true,true)
 else (false,false,false)
def gN (op:Int):ByteArray :=
 if op=0∨op=27∨op=28 then ⟨#[45,45,45]⟩
 else if op=1 then ⟨#[115,110,45]⟩
 else if op=2∨op=12 then ⟨#[115,115,45]⟩
 else if op=3∨op=4∨op=5∨op=6∨op=7∨op=8 then ⟨#[115,115,115]⟩
 else if op=9 then ⟨#[45,116,45]⟩
 else if op=10 then ⟨#[115,116,45]⟩
 else if op=11∨op=13 then ⟨#[115,112,45]⟩
 else if op=14∨op=19 then ⟨#[115,115,105]⟩
 else if op=15∨op=20 then ⟨#[115,105,115]⟩
 else if op=16 then ⟨#[115,103,45]⟩
 else if op=17 then ⟨#[103,115,45]⟩
 else if op=18 then ⟨#[115,111,45]⟩
 else if op=21 then ⟨#[114,102,97]⟩
 else if op=22 then ⟨#[114,45,45]⟩
 else if op=23∨op=24 then ⟨#[45,102,97]⟩
 else if op=25∨op=26 then ⟨#[115,115,45]⟩
 else if op=29 then ⟨#[115,45,45]⟩
 else ⟨#[]⟩
def jE:List Int:=[0,1,2,3,4,5,6,7,8,9,10,11,12,13,14,15,16,17,18,19,20,21,22,23,24,25,26,27,28,29]
theorem mo {p:Int→Prop} (h:∀ op ∈ jE,p op) (hlo:∀ op,op<0→p op) (hhi:∀ op,29<op→p op) (op:Int):p op:=by
 rcases Int.lt_or_le op 0 with h1 | h1
 ·exact hlo op h1
 rcases Int.lt_or_le 29 op with h2 | h2
 ·exact hhi op h2
 ·refine h op ?_
  simp only[jE,List.mem_cons,List.not_mem_nil,or_false]
  omega
theorem mW {p:Int→Prop} (h0:p 0) (h1:p 1) (h2:p 2) (h3:p 3) (h4:p 4) (h5:p 5) (h6:p 6) (h7:p 7) (h8:p 8) (h9:p 9) (h10:p 10) (h11:p 11) (h12:p 12) (h13:p 13) (h14:p 14) (h15:p 15) (h16:p 16) (h17:p 17) (h18:p 18) (h19:p 19) (h20:p 20) (h21:p 21) (h22:p 22) (h23:p 23) (h24:p 24) (h25:p 25) (h26:p 26) (h27:p 27) (h28:p 28) (h29:p 29):∀ op ∈ jE,p op:=by
 intro op hop;simp only[jE,List.mem_cons,List.not_mem_nil,or_false] at hop
 rcases hop with rfl | rfl | rfl | rfl | rfl | rfl | rfl | rfl | rfl | rfl | rfl | rfl | rfl | rfl | rfl | rfl | rfl | rfl | rfl | rfl | rfl | rfl | rfl | rfl | rfl | rfl | rfl | rfl | rfl | rfl <;> assumption
theorem xu (op:Int) (h:op<0∨29<op):cO op=(false,false,false):=by
 unfold cO;rw[if_neg (by omega),if_neg (by omega),if_neg (by omega),if_neg (by omega),if_neg (by omega)]
theorem kW (op:Int) (h:op<0∨29<op):gN op=⟨#[]⟩:=by
 unfold gN
 repeat rw[if_neg (by omega)]
theorem vE (op:Int) (w:World) :
  Calls Tryz.prog 156 #[.int .i64 op] w fun e w'=>e=.returned (.bool (dh op))∧w=w':=by
 unfold dh
 go_enter Tryz.func156,Tryz.ntmps156
 go_wp2
 all_goals
  go_ret
  exact⟨by simp[*];try omega,rfl⟩
def ky (w:World) (op:Int):Prop:=Calls Tryz.prog 155 #[.int .i64 op] w fun e w'=>e=.returned (.tuple #[.bool (cO op).1,.bool (cO op).2.1,.bool (cO op).2.2])∧w=w'
theorem GU (w:World):∀ op ∈ jE,ky w op:=by
 apply mW <;> (unfold ky;go_enter Tryz.func155,Tryz.ntmps155;go_wp2;go_ret3;exact⟨rfl,rfl⟩)
theorem xU (w:World) (op:Int):ky w op:=by
 refine mo (GU w) (fun op h=>?_) (fun op h=>?_) op
 all_goals
  unfold ky;rw[xu op (by omega)]
  go_enter Tryz.func155,Tryz.ntmps155
  go_wp2
  go_ret3
  exact⟨rfl,rfl⟩
def fU (w:World) (op:Int):Prop:=Calls Tryz.prog 91 #[.int .i64 op] w fun e w'=>e=.returned (.string (gN op))∧w=w'
theorem yH (w:World):∀ op ∈ jE,fU w op:=by
 apply mW <;> (unfold fU;go_enter Tryz.func91,Tryz.ntmps91;go_wp2;go_ret;exact⟨rfl,rfl⟩)
theorem pK (w:World) (op:Int):fU w op:=by
 refine mo (yH w) (fun op h=>?_) (fun op h=>?_) op
 all_goals
  unfold fU;rw[kW op (by omega)]
  go_enter Tryz.func91,Tryz.ntmps91
  go_wp2
  go_ret
  exact⟨rfl,rfl⟩
structure Ins where (op a b c:Int)
def Ins.val (x:Ins):Value:=.agg #[.int .i64 x.op,.int .i64 x.a,.int .i64 x.b,.int .i64 x.c]
def Ins.cells (x:Ins):List Value:=[.int .i64 x.op,.int .i64 x.a,.int .i64 x.b,.int .i64 x.c]
def jQ (n:Int) (used:Bool):Bool:=used || n == 0
def jb (x:Ins):Bool:=jQ x.a (cO x.op).1 && jQ x.b (cO x.op).2.1 && jQ x.c (cO x.op).2.2
def cB (x:Ins):Bool:=dh x.op && decide (0≤x.a) && decide (x.a≤255) && decide (0≤x.c) && decide (x.c≤255) && decide (wrap32 x.b=x.b) && jb x
theorem jf (n:Int) (u:Bool) (w:World) :
  Calls Tryz.prog 157 #[.int .i64 n,.bool u] w fun e w'=>e=.returned (.bool (jQ n u))∧w=w':=by
 cases u
 all_goals
  go_enter Tryz.func157,Tryz.ntmps157
  go_wp2
  all_goals
   go_ret
   exact⟨by simp[jQ, *],rfl⟩
theorem Cx (op:Int):dh op=!(gN op).toList.isEmpty:=by
 refine mo (p:=fun op=>dh op=!(gN op).toList.isEmpty) ?_ (fun op h=>?_) (fun op h=>?_) op
 ·apply mW <;> decide +kernel
 all_goals
  rw[kW op (by omega)];have:dh op=false:=by simp[dh];omega
  rw[this,ByteArray.toList_eq];rfl
theorem ym (op:Int) (h:dh op=true):∃ x y z:UInt8,gN op=⟨#[x,y,z]⟩∧((x.toNat:Int) != 45)=(cO op).1∧((y.toNat:Int) != 45)=(cO op).2.1∧((z.toNat:Int) != 45)=(cO op).2.2:=by
 have hop:op ∈ jE:=by
  simp[dh] at h
  simp only[jE,List.mem_cons,List.not_mem_nil,or_false]
  omega
 revert op
 intro op _ hop
 revert op
 suffices ∀ op ∈ jE,∃ x y z:UInt8,gN op=⟨#[x,y,z]⟩∧((x.toNat:Int) != 45)=(cO op).1∧((y.toNat:Int) != 45)=(cO op).2.1∧((z.toNat:Int) != 45)=(cO op).2.2 from fun op _ hop=>this op hop
 apply mW <;> exact⟨_,_,_,rfl,by decide +kernel,by decide +kernel,by decide +kernel⟩
def kK (w:World) (op:Int):Prop:=Calls Tryz.prog 74 #[.int .i64 op] w fun e w'=>e=.returned (.bool (dh op))∧w=w'
theorem tV (w:World) (op:Int):kK w op:=by
 unfold kK;have h1:=Cx op;have h2:=pK w op;unfold fU at h2;rw[h1];generalize gN op=s at *;clear h1;have H2:=k_ h2;clear h2
 go_enter Tryz.func74,Tryz.ntmps74
 go_wp2_with fail;refine H2.out.mono ?_;rintro e w' ⟨rfl,rfl⟩
 go_wp2
 all_goals
  go_ret
  exact⟨by simp[*],rfl⟩
def qi (w:World) (op:Int):Prop:=Calls Tryz.prog 92 #[.int .i64 op] w fun e w'=>e=.returned (.tuple #[.bool (cO op).1,.bool (cO op).2.1,.bool (cO op).2.2])∧∃ n,w'=w.drewN n
theorem Ct (w:World) (op:Int):qi w op:=by
 unfold qi;have h2:=pK w op;unfold fU at h2
 cases hk:dh op
 ·have ho:op<0∨29<op:=by simp[dh] at hk;omega
  rw[kW op ho] at h2;rw[xu op ho];have he:(⟨#[]⟩:ByteArray).toList.isEmpty=true:=by rw[ByteArray.toList_eq];rfl
  clear ho hk;have H2:=k_ h2;clear h2
  go_enter Tryz.func92,Tryz.ntmps92
  go_wp2_with fail;refine H2.out.mono ?_;rintro e w' ⟨rfl,rfl⟩
  go_wp2
  go_ret3
  exact⟨rfl,0,rfl⟩
 ·obtain⟨x,y,z,ho,e1,e2,e3⟩:=ym op hk
  rw[ho] at h2;rw[← e1,← e2,← e3];have he:(⟨#[x,y,z]⟩:ByteArray).toList.isEmpty=false:=by rw[ByteArray.toList_eq];rfl
  clear ho hk e1 e2 e3;have H2:=k_ h2;clear h2
  go_enter Tryz.func92,Tryz.ntmps92
  go_wp2_with fail;refine H2.out.mono ?_;rintro e w' ⟨rfl,rfl⟩
  go_wp2
  go_quiet (fail)
  go_wp2
  go_ret3
  exact⟨rfl,_,rfl⟩
theorem rY (x:Ins) (w:World) :
  Calls Tryz.prog 76 #[x.val] w fun e w'=>e=.returned (.bool (jb x))∧Below w.heap.size w w':=by
 obtain⟨op,a,b,c⟩:=x
 show Calls Tryz.prog 76 #[.agg #[.int .i64 op,.int .i64 a,.int .i64 b,.int .i64 c]] w _
 have ru:=fun w=>Ct w op
 unfold qi at ru;have hu:jb ⟨op,a,b,c⟩=(jQ a (cO op).1 && jQ b (cO op).2.1 && jQ c (cO op).2.2):=rfl;rw[hu];clear hu;generalize cO op=u at *;obtain⟨u1,u2,u3⟩:=u
 dsimp only at ru
 have RU:=k_ ru;clear ru
 cases u1 <;> cases u2 <;> cases u3
 all_goals
  go_enter Tryz.func76,Tryz.ntmps76
  go_wp2_with fail;refine(RU.out _).mono ?_;rintro e w' ⟨rfl,n,rfl⟩
  go_wp2
  all_goals
   go_ret
   exact⟨by simp[jQ, *],below_drewN ((Below.refl _ _).alloc (Nat.le_refl _) _) _⟩
theorem jZ (x:Ins) (w:World) :
  Calls Tryz.prog 111 #[x.val] w fun e w'=>e=.returned (.bool (cB x))∧Below w.heap.size w w':=by
 obtain⟨op,a,b,c⟩:=x
 show Calls Tryz.prog 111 #[.agg #[.int .i64 op,.int .i64 a,.int .i64 b,.int .i64 c]] w _
 have us:=fun w=>xU w op
 unfold ky at us;have kn:=vE op;have o1:=A7 b;have hr:cB ⟨op,a,b,c⟩=(dh op && decide (0≤a) && decide (a≤255) && decide (0≤c) && decide (c≤255) && decide (wrap32 b=b) && (jQ a (cO op).1 && jQ b (cO op).2.1 && jQ c (cO op).2.2)):=rfl;rw[hr];clear hr;generalize cO op=u at *;obtain⟨u1,u2,u3⟩:=u
 dsimp only at us
 have hB:=zR b;generalize hwb:wrap32 b=b' at *;clear hwb;generalize dh op=kn0 at *;have OF:=k_ o1;have US:=k_ us;have KN:=k_ kn;clear o1 us kn
 cases kn0
 ·skip
  go_enter Tryz.func111,Tryz.ntmps111
  go_wp2_with fail;refine(US.out _).mono ?_;rintro e w' ⟨rfl,rfl⟩;go_wp2_with fail
  go_quiet (first | (go_at_call 156;exact Calls.quiet_of_same ((KN.out _).mono fun _ _ ⟨a,b⟩=>⟨a,b.symm⟩)) | (go_at_call 73;exact Calls.quiet_of_same ((OF.out _).mono fun _ _ ⟨a,b⟩=>⟨a,b.symm⟩)) | (go_at_call 157;exact Calls.quiet_of_same ((jf _ _ _).mono fun _ _ ⟨a,b⟩=>⟨a,b.symm⟩)))
  go_wp2
  go_ret
  exact⟨by simp[*],below_drewN ((Below.refl _ _).alloc (Nat.le_refl _) _) _⟩
 by_cases h1:0≤a
 case neg =>
  have h1':decide (0≤a)=false:=by simpa using h1
  go_enter Tryz.func111,Tryz.ntmps111
  go_wp2_with fail;refine(US.out _).mono ?_;rintro e w' ⟨rfl,rfl⟩;go_wp2_with fail
  go_quiet (first | (go_at_call 156;exact Calls.quiet_of_same ((KN.out _).mono fun _ _ ⟨a,b⟩=>⟨a,b.symm⟩)) | (go_at_call 73;exact Calls.quiet_of_same ((OF.out _).mono fun _ _ ⟨a,b⟩=>⟨a,b.symm⟩)) | (go_at_call 157;exact Calls.quiet_of_same ((jf _ _ _).mono fun _ _ ⟨a,b⟩=>⟨a,b.symm⟩)))
  go_wp2
  go_ret
  exact⟨by simp[*],below_drewN ((Below.refl _ _).alloc (Nat.le_refl _) _) _⟩
 by_cases h2:a≤255
 case neg =>
  have h2':decide (a≤255)=false:=by simpa using h2
  go_enter Tryz.func111,Tryz.ntmps111
  go_wp2_with fail;refine(US.out _).mono ?_;rintro e w' ⟨rfl,rfl⟩;go_wp2_with fail
  go_quiet (first | (go_at_call 156;exact Calls.quiet_of_same ((KN.out _).mono fun _ _ ⟨a,b⟩=>⟨a,b.symm⟩)) | (go_at_call 73;exact Calls.quiet_of_same ((OF.out _).mono fun _ _ ⟨a,b⟩=>⟨a,b.symm⟩)) | (go_at_call 157;exact Calls.quiet_of_same ((jf _ _ _).mono fun _ _ ⟨a,b⟩=>⟨a,b.symm⟩)))
  go_wp2
  go_ret
  exact⟨by simp[*],below_drewN ((Below.refl _ _).alloc (Nat.le_refl _) _) _⟩
 by_cases h3:0≤c
 case neg =>
  have h3':decide (0≤c)=false:=by simpa using h3
  go_enter Tryz.func111,Tryz.ntmps111
  go_wp2_with fail;refine(US.out _).mono ?_;rintro e w' ⟨rfl,rfl⟩;go_wp2_with fail
  go_quiet (first | (go_at_call 156;exact Calls.quiet_of_same ((KN.out _).mono fun _ _ ⟨a,b⟩=>⟨a,b.symm⟩)) | (go_at_call 73;exact Calls.quiet_of_same ((OF.out _).mono fun _ _ ⟨a,b⟩=>⟨a,b.symm⟩)) | (go_at_call 157;exact Calls.quiet_of_same ((jf _ _ _).mono fun _ _ ⟨a,b⟩=>⟨a,b.symm⟩)))
  go_wp2
  go_ret
  exact⟨by simp[*],below_drewN ((Below.refl _ _).alloc (Nat.le_refl _) _) _⟩
 by_cases h4:c≤255
 case neg =>
  have h4':decide (c≤255)=false:=by simpa using h4
  go_enter Tryz.func111,Tryz.ntmps111
  go_wp2_with fail;refine(US.out _).mono ?_;rintro e w' ⟨rfl,rfl⟩;go_wp2_with fail
  go_quiet (first | (go_at_call 156;exact Calls.quiet_of_same ((KN.out _).mono fun _ _ ⟨a,b⟩=>⟨a,b.symm⟩)) | (go_at_call 73;exact Calls.quiet_of_same ((OF.out _).mono fun _ _ ⟨a,b⟩=>⟨a,b.symm⟩)) | (go_at_call 157;exact Calls.quiet_of_same ((jf _ _ _).mono fun _ _ ⟨a,b⟩=>⟨a,b.symm⟩)))
  go_wp2
  go_ret
  exact⟨by simp[*],below_drewN ((Below.refl _ _).alloc (Nat.le_refl _) _) _⟩
 by_cases h5:b'=b
 case neg =>
  have h5':(b' == b)=false:=by simpa using h5
  go_enter Tryz.func111,Tryz.ntmps111
  go_wp2_with fail;refine(US.out _).mono ?_;rintro e w' ⟨rfl,rfl⟩;go_wp2_with fail
  go_quiet (first | (go_at_call 156;exact Calls.quiet_of_same ((KN.out _).mono fun _ _ ⟨a,b⟩=>⟨a,b.symm⟩)) | (go_at_call 73;exact Calls.quiet_of_same ((OF.out _).mono fun _ _ ⟨a,b⟩=>⟨a,b.symm⟩)) | (go_at_call 157;exact Calls.quiet_of_same ((jf _ _ _).mono fun _ _ ⟨a,b⟩=>⟨a,b.symm⟩)))
  go_wp2
  go_ret
  exact⟨by simp[*],below_drewN ((Below.refl _ _).alloc (Nat.le_refl _) _) _⟩
 subst h5
 cases h6:jQ a u1
 ·skip
  go_enter Tryz.func111,Tryz.ntmps111
  go_wp2_with fail;refine(US.out _).mono ?_;rintro e w' ⟨rfl,rfl⟩;go_wp2_with fail
  go_quiet (first | (go_at_call 156;exact Calls.quiet_of_same ((KN.out _).mono fun _ _ ⟨a,b⟩=>⟨a,b.symm⟩)) | (go_at_call 73;exact Calls.quiet_of_same ((OF.out _).mono fun _ _ ⟨a,b⟩=>⟨a,b.symm⟩)) | (go_at_call 157;exact Calls.quiet_of_same ((jf _ _ _).mono fun _ _ ⟨a,b⟩=>⟨a,b.symm⟩)))
  go_wp2
  go_ret
  exact⟨by simp[*],below_drewN ((Below.refl _ _).alloc (Nat.le_refl _) _) _⟩
 cases h7:jQ b' u2
 ·skip
  go_enter Tryz.func111,Tryz.ntmps111
  go_wp2_with fail;refine(US.out _).mono ?_;rintro e w' ⟨rfl,rfl⟩;go_wp2_with fail
  go_quiet (first | (go_at_call 156;exact Calls.quiet_of_same ((KN.out _).mono fun _ _ ⟨a,b⟩=>⟨a,b.symm⟩)) | (go_at_call 73;exact Calls.quiet_of_same ((OF.out _).mono fun _ _ ⟨a,b⟩=>⟨a,b.symm⟩)) | (go_at_call 157;exact Calls.quiet_of_same ((jf _ _ _).mono fun _ _ ⟨a,b⟩=>⟨a,b.symm⟩)))
  go_wp2
  go_ret
  exact⟨by simp[*],below_drewN ((Below.refl _ _).alloc (Nat.le_refl _) _) _⟩
 go_enter Tryz.func111,Tryz.ntmps111
 go_wp2_with fail;refine(US.out _).mono ?_;rintro e w' ⟨rfl,rfl⟩;go_wp2_with fail
 go_quiet (first | (go_at_call 156;exact Calls.quiet_of_same ((KN.out _).mono fun _ _ ⟨a,b⟩=>⟨a,b.symm⟩)) | (go_at_call 73;exact Calls.quiet_of_same ((OF.out _).mono fun _ _ ⟨a,b⟩=>⟨a,b.symm⟩)) | (go_at_call 157;exact Calls.quiet_of_same ((jf _ _ _).mono fun _ _ ⟨a,b⟩=>⟨a,b.symm⟩)))
 go_wp2
 go_ret
 exact⟨by simp[*],below_drewN ((Below.refl _ _).alloc (Nat.le_refl _) _) _⟩
end Go.Proofs.YtlofbhoicbemnaaGreatDoor
