/- Laws on memory that the walks share: bytes as a string, rows of cells. Nothing of the program stands here. Regions that draw their .. -/
import Derived.WalkKit
import Derived.Handy
import Derived.WalkSpells
import Derived.Lib.Hide
import Derived.Deep.Draws
import Derived.Deep.QuietTactic
import Derived.BigQuiet
import Derived.Maps.OwnSet
import Derived.Deep.RegionHeld
import Derived.Test.YtbkkhmafheimfaaGreatDoorRows
import Derived.ProofKit
import Derived.OpenShut
set_option linter.unusedVariables false
set_option linter.unusedSimpArgs false
namespace Go.Proofs.YtbkkhmafheimfaaGreatDoor
theorem k_ {p:Prop}(h:p):RowKit.Hid p:=h
theorem c_14 {W:World}{b:Nat}{x0 x1 x2 x3 x4 x5 x6 x7 x8 x9 x10 x11 x12 x13:Value}(h:∀ j u,(#[x0,x1,x2,x3,x4,x5,x6,x7,x8,x9,x10,x11,x12,x13]:Array Value)[j]?=some u→W.cell? ⟨b,j,none⟩=some u):W.cell? ⟨b,0,none⟩=some x0∧W.cell? ⟨b,1,none⟩=some x1∧W.cell? ⟨b,2,none⟩=some x2∧W.cell? ⟨b,3,none⟩=some x3∧W.cell? ⟨b,4,none⟩=some x4∧W.cell? ⟨b,5,none⟩=some x5∧W.cell? ⟨b,6,none⟩=some x6∧W.cell? ⟨b,7,none⟩=some x7∧W.cell? ⟨b,8,none⟩=some x8∧W.cell? ⟨b,9,none⟩=some x9∧W.cell? ⟨b,10,none⟩=some x10∧W.cell? ⟨b,11,none⟩=some x11∧W.cell? ⟨b,12,none⟩=some x12∧W.cell? ⟨b,13,none⟩=some x13:=⟨h 0 _ rfl,h 1 _ rfl,h 2 _ rfl,h 3 _ rfl,h 4 _ rfl,h 5 _ rfl,h 6 _ rfl,h 7 _ rfl,h 8 _ rfl,h 9 _ rfl,h 10 _ rfl,h 11 _ rfl,h 12 _ rfl,h 13 _ rfl⟩
theorem r_14 {W:World}{b:Nat}{x0 x1 x2 x3 x4 x5 x6 x7 x8 x9 x10 x11 x12 x13:Value}{t:TypeId}(h:W.heap[b]?=some (.cells #[x0,x1,x2,x3,x4,x5,x6,x7,x8,x9,x10,x11,x12,x13] t)):W.cell? ⟨b,0,none⟩=some x0∧W.cell? ⟨b,1,none⟩=some x1∧W.cell? ⟨b,2,none⟩=some x2∧W.cell? ⟨b,3,none⟩=some x3∧W.cell? ⟨b,4,none⟩=some x4∧W.cell? ⟨b,5,none⟩=some x5∧W.cell? ⟨b,6,none⟩=some x6∧W.cell? ⟨b,7,none⟩=some x7∧W.cell? ⟨b,8,none⟩=some x8∧W.cell? ⟨b,9,none⟩=some x9∧W.cell? ⟨b,10,none⟩=some x10∧W.cell? ⟨b,11,none⟩=some x11∧W.cell? ⟨b,12,none⟩=some x12∧W.cell? ⟨b,13,none⟩=some x13:=c_14 fun j u hu=>by simp only [World.cell?,h];exact hu
theorem c_8 {W:World}{b:Nat}{cs:Array Value}{x0 x1 x2 x3 x4 x5 x6 x7:Value}(h:∀ j u,cs[j]?=some u→W.cell? ⟨b,j,none⟩=some u)(e0:cs[0]?=some x0)(e1:cs[1]?=some x1)(e2:cs[2]?=some x2)(e3:cs[3]?=some x3)(e4:cs[4]?=some x4)(e5:cs[5]?=some x5)(e6:cs[6]?=some x6)(e7:cs[7]?=some x7):W.cell? ⟨b,0,none⟩=some x0∧W.cell? ⟨b,1,none⟩=some x1∧W.cell? ⟨b,2,none⟩=some x2∧W.cell? ⟨b,3,none⟩=some x3∧W.cell? ⟨b,4,none⟩=some x4∧W.cell? ⟨b,5,none⟩=some x5∧W.cell? ⟨b,6,none⟩=some x6∧W.cell? ⟨b,7,none⟩=some x7:=⟨h 0 _ e0,h 1 _ e1,h 2 _ e2,h 3 _ e3,h 4 _ e4,h 5 _ e5,h 6 _ e6,h 7 _ e7⟩
end Go.Proofs.YtbkkhmafheimfaaGreatDoor
namespace Go.Proofs.YtbkkhmafheimfaaGreatDoor
open Go.RowKit
def bytesS (ns:List Int):ByteArray:=⟨(ns.map fun n=>UInt8.ofNat n.toNat).toArray⟩
theorem fold_push (ns:List Int):∀ (s:ByteArray),ns.foldl (fun r n=>r.push (UInt8.ofNat n.toNat)) s=⟨s.data ++ (ns.map fun n=>UInt8.ofNat n.toNat).toArray⟩:=by
 induction ns with
 | nil=>intro s;simp
 | cons n ns ih =>
   intro s;rw[List.foldl_cons,ih]
   congr 1
   show s.data.push _ ++ _=_
   apply Array.ext'
   simp
theorem run_str {P:Program} (w:World) (src dst e:TypeId) (a:Addr) (cap:Nat) (ns:List Int)
  (hs:P.underlying src=some (.slice e)) (he:P.underlying e=some (.int .u8)) (hd:P.underlying dst=some .string)
  (h:∀ j v,(ns.map (Value.int .u8))[j]?=some v→w.cell? (a.add j)=some v) :
  (convert src dst (.slice (some a) ns.length cap)).run P w=.ok (.string (bytesS ns)) w:=by
 rw[run_convert_bytes_string w src dst e _ _ _ hs he hd];have hl:=run_loadCells_list (P:=P) (w:=w) a (ns.map (Value.int .u8)) h;rw[List.length_map] at hl;rw[run_bytesToString w a ns.length cap ns hl,fold_push]
 show Result.ok (Value.string ⟨#[] ++ _⟩) w=_
 simp[bytesS]
theorem heap_new (w:World) (o:Obj):(w.alloc o).heap[w.heap.size]?=some o:=by
 show (w.heap.push _)[w.heap.size]?=_
 simp
theorem cell_new (w:World) (c:Array Value) (t:TypeId) (fz:Nat × Nat) (j:Nat):(w.alloc (.cells c t fz)).cell? ⟨w.heap.size,j,none⟩=c[j]?:=by
 unfold World.cell?;rw[heap_new]
 rfl
theorem cell_under (w:World) (o:Obj) {p:Addr} (h:p.block<w.heap.size):(w.alloc o).cell? p=w.cell? p :=
 World.cell?_of_block (w:=w) (Below.heap_alloc w o _ h)
theorem below_drewN {B:Nat} {a w:World} (h:Below B a w) (n:Nat):Below B a (w.drewN n):=h.trans ⟨rfl,rfl,rfl,Nat.le_refl _,fun _ _=>rfl⟩
def BelowW (w:World):Type:={ W:World // Below w.heap.size w W }
instance (w:World):Nonempty (BelowW w):=⟨⟨w,Below.refl _ _⟩⟩
theorem BelowW.cell {w:World} (W:BelowW w) {a:Addr} {v:Value} (h:w.cell? a=some v):W.val.cell? a=some v:=by
 have hlt:a.block<w.heap.size:=by
  unfold World.cell? at h
  rcases Nat.lt_or_ge a.block w.heap.size with h' | h'
  ·exact h'
  ·rw[Array.getElem?_eq_none h'] at h;cases h
 rw[W.2.cell hlt];exact h
theorem wp_region_below {P:Program} {id:Nat} {Q:Exit→Act→World→Prop} {a:Act} {w:World} {l:List Oper} (hm:P.follows .mixedOrders=true) (hB:Region.lexB .any l.toArray=true)
  (h:wpQuiet P l.toArray (fun w'=>∃ W:BelowW w,w'=W.val) (fun a'=>∀ w',(∃ W:BelowW w,w'=W.val)→Q .normal a' w') l a):(Code.region id l.toArray true).wp P Q a w :=
 wp_region_quiet (C:=fun w'=>∃ W:BelowW w,w'=W.val) hm hB ⟨⟨{ w with drawn:=w.drawn+1 },(Below.refl w.heap.size w).drew⟩,rfl⟩ (by simpa using h)
theorem Calls.below_of {P:Program} {f:FuncId} {args:Array Value} {w:World} {W:BelowW w} {v:Value}
  (h:Calls P f args W.val fun e w'=>e=.returned v∧Below W.val.heap.size W.val w'):Calls P f args W.val fun e w''=>e=.returned v∧∃ W':BelowW w,w''=W'.val :=
 h.mono fun _ w' ⟨he,hb⟩=>⟨he,⟨w',W.2.trans (hb.mono W.2.size)⟩,rfl⟩
theorem Calls.below_same {P:Program} {f:FuncId} {args:Array Value} {w:World} {W:BelowW w} {v:Value}
  (h:Calls P f args W.val fun e w'=>e=.returned v∧W.val=w'):Calls P f args W.val fun e w''=>e=.returned v∧∃ W':BelowW w,w''=W'.val :=
 h.mono fun _ _ ⟨he,hb⟩=>⟨he,W,hb.symm⟩
theorem World.block_lt {w:World} {a:Addr} {v:Value} (h:w.cell? a=some v):a.block<w.heap.size:=by
 unfold World.cell? at h
 rcases Nat.lt_or_ge a.block w.heap.size with h' | h'
 ·exact h'
 ·rw[Array.getElem?_eq_none h'] at h;cases h
theorem below_cell {w w':World} (hb:Below w.heap.size w w') {a:Addr} {v:Value} (h:w.cell? a=some v):w'.cell? a=some v:=by
 rw[hb.cell (World.block_lt h)];exact h
theorem owns_below {w w':World} {base:Nat} {e:TypeId} {size:Nat} {v:Value} {n:Nat} {xs:List Value} (h:w.ownsRow base e size v n xs) (hb:Below w.heap.size w w'):w'.ownsRow base e size v n xs:=by
 obtain⟨h1,h2⟩:=h;refine⟨h1,?_⟩
 rcases h2 with h2 | ⟨g,cap,cur,hv,hg,hh,hr⟩
 ·exact .inl h2
 ·have hlt:g<w.heap.size:=by
   rcases Nat.lt_or_ge g w.heap.size with h' | h'
   ·exact h'
   ·rw[Array.getElem?_eq_none h'] at hh;cases hh
  exact .inr ⟨g,cap,cur,hv,hg,by rw[hb.block g hlt];exact hh,hr⟩
theorem below_grown {B:Nat} {a w w':World} {base:Nat} {e:TypeId} {size:Nat} {v:Value} {n:Nat} {xs:List Value} (h:Below B a w) (hown:w.ownsRow base e size v n xs) (hg:w.grownBy w' v.ownBlock) (hB:B≤w.heap.size) (hb:B≤base):Below B a w' :=
 h.grown hg hB (fun k hk=>Nat.le_trans hb (hown.lt k hk).1)
theorem cell_grown {w w':World} {row:Option Nat} (hg:w.grownBy w' row) {a:Addr} {v:Value} (h:w.cell? a=some v) (hne:row≠some a.block):w'.cell? a=some v :=
 hg.cell h (fun e=>hne e.symm)
structure Elem (P:Program) (α:Type) where
 e:TypeId
 t:TypeId
 size:Nat
 bytes:Nat
 zero:Value
 enc:α→List Value
 ht:P.underlying t=some (.slice e)
 info:(P.info? e).map (fun i=>(i.zero,i.size,i.bytes))=some (some zero,size,bytes)
 hzs:zero.cells.size=size
 hsz:0<size
 hby:bytes≤1000
 henc:∀ x,(enc x).length=size
 hone:∀ x,∀ u ∈ enc x,u.oneCell'=true
variable {P:Program} {α:Type}
theorem Elem.len (E:Elem P α) (l:List α):(l.flatMap E.enc).length=l.length * E.size:=by
 induction l with
 | nil=>simp
 | cons x l ih=>rw[List.flatMap_cons,List.length_append,ih,E.henc,List.length_cons,Nat.add_mul];omega
def Own (E:Elem P α) (w:World) (B:Nat) (v:Value) (l:List α):Prop:=w.ownsRow B E.e E.size v l.length (l.flatMap E.enc)
theorem Own.nil (E:Elem P α) (w:World) (B:Nat):Own E w B (.slice none 0 0) []:=World.ownsRow_nil _ _ _ _
theorem Own.below {E:Elem P α} {w w':World} {B:Nat} {v:Value} {l:List α} (h:Own E w B v l) (hb:Below w.heap.size w w'):Own E w' B v l:=owns_below h hb
theorem Own.alloc {E:Elem P α} {w:World} {B:Nat} {v:Value} {l:List α} (h:Own E w B v l) (o:Obj):Own E (w.alloc o) B v l:=World.ownsRow.alloc h o
theorem Own.drew {E:Elem P α} {w:World} {B:Nat} {v:Value} {l:List α} (h:Own E w B v l):Own E w.drew B v l:=h
def CellsAt (w:World) (b o:Nat) (cs:List Value):Prop:=∀ j u,cs[j]?=some u→w.cell? ⟨b,o+j,none⟩=some u
theorem CellsAt.new (w:World) (cs:Array Value) (t:TypeId) (fz:Nat × Nat):CellsAt (w.alloc (.cells cs t fz)) w.heap.size 0 cs.toList:=fun j u hj=>by
 rw[Nat.zero_add,cell_new];simpa using hj
theorem CellsAt.new' {w:World} {g:Nat} (cs:Array Value) (t:TypeId) (fz:Nat × Nat) (hg:g=w.heap.size):CellsAt (w.alloc (.cells cs t fz)) g 0 cs.toList:=by
 subst hg;exact CellsAt.new w cs t fz
theorem append_own (E:Elem P α) {ops:Array Oper} {rest:List Oper} {o:Oper} {a:Act} {Q:Exit→Act→World→Prop} {w:World} (hgd:o.guard=none) (s x:Operand)
  (ho:o.op=.call { callee:=.builtin .append,args:=#[s,x],argTypes:=#[E.t,E.t] })
  (B:Nat) (l m:List α) (v:Value) (hs:a.eval s=v) (hown:Own E w B v l) (b of c:Nat) (hx:a.eval x=.slice (some ⟨b,of,none⟩) m.length c)
  (hm:CellsAt w b of (m.flatMap E.enc)) (hlen:l.length+m.length≤100000000) (hB:B≤w.heap.size)
  (h:∀ v' w',Own E w' B v' (l ++ m)→w.grownBy w' v.ownBlock→wpList P ops Q rest (a.put o.dst v') w'):wpList P ops Q (o :: rest) a w:=by
 obtain⟨i0,hi,hz0,hz1,hz2⟩:=info_parts E.info;refine wpList_append_own _ hgd s x E.t ho B E.e i0 E.zero E.size E.bytes E.ht hi hz0 hz1 hz2 E.hzs E.hsz v l.length (l.flatMap E.enc) hs hown ⟨b,of,none⟩ m.length c (m.flatMap E.enc) hx (E.len m) ?_ ?_ ?_ ?_ hB ?_
 ·intro j u hj
  have:=hm j u hj;unfold Addr.add
  by_cases h0:j=0
  ·subst h0;rw[if_pos rfl];exact this
  ·rw[if_neg h0];exact this
 ·intro u hu
  obtain⟨y,_,hy⟩:=List.mem_flatMap.1 hu;exact E.hone y u hy
 ·unfold maxLen;omega
 ·have h1:=E.hby
  have h2:(l.length+m.length) * E.bytes≤100000000 * 1000:=Nat.mul_le_mul hlen h1
  omega
 ·intro v' w' ho' hg _
  refine h v' w' ?_ hg;unfold Own;rw[List.length_append,List.flatMap_append];exact ho'
end Go.Proofs.YtbkkhmafheimfaaGreatDoor
namespace Go.Proofs.YtbkkhmafheimfaaGreatDoor
open Go.RowKit
structure Fr (F:Nat→Prop) (w w':World):Prop where
 os:w'.os=w.os
 tape:w'.tape=w.tape
 output:w'.output=w.output
 size:w.heap.size≤w'.heap.size
 block:∀ k,k<w.heap.size→¬ F k→w'.heap[k]?=w.heap[k]?
theorem Fr.refl (F:Nat→Prop) (w:World):Fr F w w:=⟨rfl,rfl,rfl,Nat.le_refl _,fun _ _ _=>rfl⟩
theorem Fr.trans {F G:Nat→Prop} {a b c:World} (h:Fr F a b) (k:Fr G b c) (hg:∀ k,k<a.heap.size→G k→F k):Fr F a c :=
 ⟨k.os.trans h.os,k.tape.trans h.tape,k.output.trans h.output,Nat.le_trans h.size k.size,
  fun i hi hn=>(k.block i (Nat.lt_of_lt_of_le hi h.size) (fun hG=>hn (hg i hi hG))).trans (h.block i hi hn)⟩
theorem Fr.mono {F G:Nat→Prop} {w w':World} (h:Fr F w w') (hg:∀ k,F k→G k):Fr G w w':=⟨h.os,h.tape,h.output,h.size,fun k hk hn=>h.block k hk (fun hf=>hn (hg k hf))⟩
theorem Fr.below {F:Nat→Prop} {w w':World} (h:Fr F w w') {N:Nat} (hN:N≤w.heap.size) (hf:∀ k,F k→N≤k):Below N w w' :=
 ⟨h.os,h.tape,h.output,h.size,fun k hk=>h.block k (by omega) (fun hF=>by have:=hf k hF;omega)⟩
theorem Fr.of_below {w w':World} (h:Below w.heap.size w w') (F:Nat→Prop):Fr F w w':=⟨h.os,h.tape,h.output,h.size,fun k hk _=>h.block k hk⟩
theorem Fr.alloc {F:Nat→Prop} {a w:World} (h:Fr F a w) (o:Obj):Fr F a (w.alloc o) :=
 h.trans (Fr.of_below ((Below.refl _ _).alloc (Nat.le_refl _) _) (fun _=>False)) (fun _ _ h=>h.elim)
theorem Fr.drew {F:Nat→Prop} {a w:World} (h:Fr F a w):Fr F a w.drew:=⟨h.os,h.tape,h.output,h.size,h.block⟩
theorem Fr.setCell {F:Nat→Prop} {a w:World} (h:Fr F a w) {p:Addr} (hp:p.block<a.heap.size→F p.block) (u:Value):Fr F a (w.setCell p u) :=
 h.trans (G:=fun k=>k=p.block) ⟨rfl,rfl,rfl,by simp[World.setCell],fun k _ hk=>Below.heap_setCell _ _ _ _ hk⟩ (fun k hk e=>by subst e;exact hp hk)
theorem Fr.grown {F:Nat→Prop} {a w w':World} {row:Option Nat} (h:Fr F a w) (hg:w.grownBy w' row) (hr:∀ k,row=some k→k<a.heap.size→F k):Fr F a w' :=
 h.trans (G:=fun k=>row=some k) ⟨hg.os,hg.tape,hg.output,hg.size,fun k hk hn=>hg.block k hk (fun e=>hn e.symm)⟩ (fun k hk e=>hr k e hk)
theorem Fr.heap {F:Nat→Prop} {w w':World} (h:Fr F w w') {k:Nat} {o:Obj} (hk:w.heap[k]?=some o) (hn:¬ F k):w'.heap[k]?=some o:=by
 have hlt:k<w.heap.size:=by
  rcases Nat.lt_or_ge k w.heap.size with h' | h'
  ·exact h'
  ·rw[Array.getElem?_eq_none h'] at hk;cases hk
 rw[h.block k hlt hn];exact hk
theorem Fr.cell {F:Nat→Prop} {w w':World} (h:Fr F w w') {a:Addr} {v:Value} (hc:w.cell? a=some v) (hn:¬ F a.block):w'.cell? a=some v:=by
 rw[World.cell?_of_block (w:=w) (h.block a.block (World.block_lt hc) hn)];exact hc
theorem owns_fr {F:Nat→Prop} {w w':World} {base:Nat} {e:TypeId} {size:Nat} {v:Value} {n:Nat} {xs:List Value} (h:w.ownsRow base e size v n xs) (hf:Fr F w w') (hn:∀ k,v.ownBlock=some k→¬ F k):w'.ownsRow base e size v n xs:=by
 obtain⟨h1,h2⟩:=h;refine⟨h1,?_⟩
 rcases h2 with h2 | ⟨g,cap,cur,hv,hg,hh,hr⟩
 ·exact .inl h2
 ·exact .inr ⟨g,cap,cur,hv,hg,hf.heap hh (hn g (by rw[hv];rfl)),hr⟩
variable {P:Program} {α:Type}
theorem Own.fr {E:Elem P α} {F:Nat→Prop} {w w':World} {B:Nat} {v:Value} {l:List α} (h:Own E w B v l) (hf:Fr F w w') (hn:∀ k,v.ownBlock=some k→¬ F k):Own E w' B v l:=owns_fr h hf hn
theorem Own.lt {E:Elem P α} {w:World} {B:Nat} {v:Value} {l:List α} (h:Own E w B v l) {k:Nat} (hk:v.ownBlock=some k):B≤k∧k<w.heap.size:=World.ownsRow.lt h k hk
theorem Own.base {E:Elem P α} {w:World} {B B':Nat} {v:Value} {l:List α} (h:Own E w B v l) (hb:∀ k,v.ownBlock=some k→B'≤k):Own E w B' v l:=by
 obtain⟨h1,h2⟩:=h;refine⟨h1,?_⟩
 rcases h2 with h2 | ⟨g,cap,cur,hv,hg,hh,hr⟩
 ·exact .inl h2
 ·exact .inr ⟨g,cap,cur,hv,hb g (by rw[hv];rfl),hh,hr⟩
theorem Own.slice {E:Elem P α} {w:World} {B:Nat} {v:Value} {l:List α} (h:Own E w B v l):∃ a n c,v=.slice a n c:=by
 rcases h.2 with⟨rfl,h0⟩ | ⟨g,cap,cur,rfl,_⟩
 ·exact⟨none,0,0,rfl⟩
 ·exact⟨_,_,_,rfl⟩
theorem heap_lt {w:World} {p:Nat} {o:Obj} (h:w.heap[p]?=some o):p<w.heap.size:=by
 rcases Nat.lt_or_ge p w.heap.size with h' | h'
 ·exact h'
 ·rw[Array.getElem?_eq_none h'] at h;cases h
def Fresh (w:World) (v v':Value):Prop:=∀ k,v'.ownBlock=some k→v.ownBlock=some k∨w.heap.size≤k
theorem run_append_fresh (E:Elem P α) (w:World) (ty:TypeId) (B:Nat) (l m:List α) (v:Value) (hown:Own E w B v l) (b of c:Nat)
  (hm:CellsAt w b of (m.flatMap E.enc)) (hlen:l.length+m.length≤100000000) (hB:B≤w.heap.size) :
  ∃ v' w',(Builtin.append_ #[E.t,E.t] ty #[v,.slice (some ⟨b,of,none⟩) m.length c]).run P w=.ok v' w'∧Own E w' B v' (l ++ m)∧w.grownBy w' v.ownBlock∧Fresh w v v':=by
 obtain⟨i0,hi,hz0,hz1,hz2⟩:=info_parts E.info;have hnews:∀ j u,(m.flatMap E.enc)[j]?=some u→w.cell? ((⟨b,of,none⟩:Addr).add j)=some u:=by
  intro j u hj;have:=hm j u hj;unfold Addr.add
  by_cases h0:j=0
  ·subst h0;rw[if_pos rfl];exact this
  ·rw[if_neg h0];exact this
 have h1:∀ u ∈ m.flatMap E.enc,u.oneCell'=true:=by
  intro u hu;obtain⟨y,_,hy⟩:=List.mem_flatMap.1 hu;exact E.hone y u hy
 have hml:l.length+m.length≤maxLen:=by unfold maxLen;omega
 have hby:(l.length+m.length) * E.bytes≤140737488355328:=by
  have h1:=E.hby;have h2:(l.length+m.length) * E.bytes≤100000000 * 1000:=Nat.mul_le_mul hlen h1
  omega
 have go:∀ B',B'≤w.heap.size→Own E w B' v l→∃ v' w',(Builtin.append_ #[E.t,E.t] ty #[v,.slice (some ⟨b,of,none⟩) m.length c]).run P w=.ok v' w'∧Own E w' B' v' (l ++ m)∧w.grownBy w' v.ownBlock:=fun B' hB' ho=>by
  obtain⟨v',w',hr,h2,h3,_⟩:=run_append_own (P:=P) w B' E.t ty E.e i0 E.zero E.size E.bytes E.ht hi hz0 hz1 hz2 E.hzs E.hsz v l.length (l.flatMap E.enc) ho ⟨b,of,none⟩ m.length c (m.flatMap E.enc) (E.len m) hnews h1 hml hby hB';refine⟨v',w',hr,?_,h3⟩;unfold Own;rw[List.length_append,List.flatMap_append];exact h2
 obtain⟨v',w',hr,h2,h3⟩:=go B hB hown;refine⟨v',w',hr,h2,h3,?_⟩
 rcases hown.2 with⟨rfl,h0⟩ | ⟨g,cap,cur,rfl,hbg,hg,hnc,hcm,hcs,htake⟩
 ·have hl0:l=[]:=List.length_eq_zero_iff.1 h0
  subst hl0;obtain⟨v2,w2,hr2,h22,_⟩:=go w.heap.size (Nat.le_refl _) (Own.nil _ _ _);rw[hr] at hr2
  injection hr2 with e1 e2
  subst e1 e2;exact fun k hk=>.inr (h22.lt hk).1
 ·by_cases hroom:l.length+m.length≤cap
  ·have hfit:l.length * i0.size+(m.flatMap E.enc).length≤cur.size:=by rw[E.len m,hcs,hz1,← Nat.add_mul];exact Nat.mul_le_mul_right _ hroom
   have hr2:=run_append_room (P:=P) w E.t ty E.e i0 E.ht hi g l.length cap cur hg ⟨b,of,none⟩ m.length c (m.flatMap E.enc) (by rw[hz1];exact E.len m) hnews h1 hroom hfit;rw[hr] at hr2
   injection hr2 with e1 e2
   subst e1;exact fun k hk=>.inl hk
  ·have holds:∀ j u,(l.flatMap E.enc)[j]?=some u→w.cell? ((⟨g,0,none⟩:Addr).add j)=some u:=World.ownsRow.cells (g:=g) hown rfl
   have hr2:=run_append_grow (P:=P) w E.t ty E.e i0 E.zero E.ht hi hz0 ⟨g,0,none⟩ l.length cap (l.flatMap E.enc) (by rw[hz1];exact E.len l) holds ⟨b,of,none⟩ m.length c (m.flatMap E.enc) (by rw[hz1];exact E.len m) hnews (by omega) (by omega) (growslice_fits (by omega) (by rw[hz2];exact hby));rw[hr] at hr2
   injection hr2 with e1 e2
   subst e1;intro k hk
   simp[Value.ownBlock] at hk
   exact .inr (by omega)
theorem append_fresh (E:Elem P α) {ops:Array Oper} {rest:List Oper} {o:Oper} {a:Act} {Q:Exit→Act→World→Prop} {w:World} (hgd:o.guard=none) (s x:Operand)
  (ho:o.op=.call { callee:=.builtin .append,args:=#[s,x],argTypes:=#[E.t,E.t] })
  (B:Nat) (l m:List α) (v:Value) (hs:a.eval s=v) (hown:Own E w B v l) (b of c:Nat) (hx:a.eval x=.slice (some ⟨b,of,none⟩) m.length c)
  (hm:CellsAt w b of (m.flatMap E.enc)) (hlen:l.length+m.length≤100000000) (hB:B≤w.heap.size)
  (h:∀ v' w',Own E w' B v' (l ++ m)→w.grownBy w' v.ownBlock→Fresh w v v'→wpList P ops Q rest (a.put o.dst v') w'):wpList P ops Q (o :: rest) a w :=
 wpList_plain hgd fun _ hK=>by
  obtain⟨v',w',hr,h2,h3,h4⟩:=run_append_fresh E w o.type B l m v hown b of c hm hlen hB;unfold Oper.wp execOp;simp only[ho,resolve,invoke,builtin,Sem.run_bind,Sem.run_pure,Result.andThen_ok,List.map_toArray,List.map_cons,List.map_nil,hs,hx,hr];exact hK _ _ (h v' w' h2 h3 h4)
theorem Elem.get (E:Elem P α) (l:List α) (j r:Nat) (hj:j<l.length) (hr:r<E.size):(l.flatMap E.enc)[j * E.size+r]?=(E.enc l[j])[r]?:=by
 induction l generalizing j with
 | nil=>cases hj
 | cons x l ih =>
   rw[List.flatMap_cons]
   cases j with
   | zero =>
     rw[List.getElem?_append_left (by rw[E.henc];omega)];simp
   | succ j =>
     rw[List.getElem?_append_right (by rw[E.henc,Nat.add_mul];omega)];have:(j+1) * E.size+r - (E.enc x).length=j * E.size+r:=by rw[E.henc,Nat.add_mul];omega
     rw[this,ih j (by simpa using hj)]
     rfl
theorem own_elems {E:Elem P α} {w:World} {B:Nat} {v:Value} {l:List α} (h:Own E w B v l):∃ a c,v=.slice a l.length c∧∀ j (hj:j<l.length),∃ b,a=some ⟨b,0,none⟩∧v.ownBlock=some b∧∀ r u,(E.enc l[j])[r]?=some u→w.cell? ⟨b,j * E.size+r,none⟩=some u:=by
 have hc:=fun g hg=>World.ownsRow.cells (g:=g) h hg
 obtain⟨h1,h2⟩:=h
 rcases h2 with⟨rfl,h0⟩ | ⟨g,cap,cur,rfl,hg,hh,hr⟩
 ·have:l=[]:=List.length_eq_zero_iff.1 h0
  subst this;exact⟨none,0,rfl,fun j hj=>by cases hj⟩
 ·refine⟨_,cap,rfl,fun j hj=>⟨g,rfl,rfl,fun r u hu=>?_⟩⟩
  have hrs:r<E.size:=by
   rcases Nat.lt_or_ge r E.size with h' | h'
   ·exact h'
   ·rw[List.getElem?_eq_none (by rw[E.henc];exact h')] at hu;cases hu
  have:=hc g rfl (j * E.size+r) u (by rw[E.get l j r hj hrs];exact hu);unfold Addr.add at this
  split at this
  ·rename_i h0
   rw[h0];exact this
  ·simpa using this
theorem step_append_fresh (E:Elem P α) {ops:Array Oper} {o:Oper} {a:Act} {w:World} {K:Act→World→Prop} {Q:Exit→Act→World→Prop} {F:Prop} (hgd:o.guard=none) (s x:Operand)
  (ho:o.op=.call { callee:=.builtin .append,args:=#[s,x],argTypes:=#[E.t,E.t] })
  (B:Nat) (l m:List α) (v:Value) (hs:a.eval s=v) (hown:Own E w B v l) (b of c:Nat) (hx:a.eval x=.slice (some ⟨b,of,none⟩) m.length c)
  (hm:CellsAt w b of (m.flatMap E.enc)) (hlen:l.length+m.length≤100000000) (hB:B≤w.heap.size)
  (h:∀ v' w',Own E w' B v' (l ++ m)→w.grownBy w' v.ownBlock→Fresh w v v'→K (a.put o.dst v') w'):if Region.wanted o (yielded ops a.tmps)=true then Oper.wp P o a w K Q else F:=by
 have hw:Region.wanted o (yielded ops a.tmps)=true:=by simp[Region.wanted,hgd]
 rw[if_pos hw];obtain⟨v',w',hr,h2,h3,h4⟩:=run_append_fresh E w o.type B l m v hown b of c hm hlen hB;unfold Oper.wp execOp;simp only[ho,resolve,invoke,builtin,Sem.run_bind,Sem.run_pure,Result.andThen_ok,List.map_toArray,List.map_cons,List.map_nil,hs,hx,hr];exact h v' w' h2 h3 h4
end Go.Proofs.YtbkkhmafheimfaaGreatDoor
namespace Go.Proofs.YtbkkhmafheimfaaGreatDoor
open Go.RowKit Go.Maps
def tokR (v:Value):Option (DataW Value × List MemPlace):=some (.held v,[])
structure KeyTy (P:Program) (κ:Type) where
 k:TypeId
 law:Keyed P k
 key:κ→Value
 lit:κ→Lit
 wf:κ→Prop
 hkey:∀ a,wf a→keyOf P k (key a)=some (lit a)
 inj:∀ a b,lit a=lit b→a=b
variable {P:Program} {κ ν:Type}
def MapIs (K:KeyTy P κ) (val:ν→Value) (w:World) (b n:Nat) (f:κ→Option ν):Prop :=
 ∃ D:DataW Value,w.ownsMap P K.k tokR b n D∧Maps.size D=n∧∀ a,K.wf a→(∀ x,f a=some x→∀ z,D.atKey (K.lit a) z=.held (val x))∧(f a=none→∀ z,D.atKey (K.lit a) z=z)
variable {K:KeyTy P κ} {val:ν→Value} {w w':World} {b n:Nat} {f:κ→Option ν}
theorem MapIs.made (K:KeyTy P κ) (val:ν→Value) (w:World):MapIs K val (w.alloc (.map #[] 0)) w.heap.size 0 (fun _=>none) :=
 ⟨_,World.ownsMap_made w P K.k tokR,rfl,fun _ _=>⟨fun _ h=>(by cases h),fun _ _=>rfl⟩⟩
theorem MapIs.lt (h:MapIs K val w b n f):b<w.heap.size:=let ⟨_,h,_⟩:=h;h.lt
theorem MapIs.fr {F:Nat→Prop} (h:MapIs K val w b n f) (hf:Fr F w w') (hn:¬ F b):MapIs K val w' b n f:=by
 obtain⟨D,h1,h2⟩:=h;obtain⟨es,clock,hb,r⟩:=h1;exact⟨D,⟨es,clock,hf.heap hb hn,r⟩,h2⟩
theorem MapIs.below (h:MapIs K val w b n f) (hb:Below w.heap.size w w'):MapIs K val w' b n f:=h.fr (Fr.of_below hb (fun _=>False)) (fun h=>h)
theorem MapIs.congr {g:κ→Option ν} (h:MapIs K val w b n f) (hg:∀ a,K.wf a→f a=g a):MapIs K val w b n g:=by
 obtain⟨D,h1,h2,h3⟩:=h;exact⟨D,h1,h2,fun a ha=>by rw[← hg a ha];exact h3 a ha⟩
theorem MapIs.look {t e:TypeId} (h:MapIs K val w b n f) (ht:P.underlying t=some (.map K.k e)) {z:Value} (hz:(zeroValue e).run P w=.ok z w) (a:κ) (ha:K.wf a) :
  (∀ x,f a=some x→(Instr.lookup t (.map (some b)) (K.key a) false).run P w=.ok (val x) w∧(Instr.lookup t (.map (some b)) (K.key a) true).run P w=.ok (.tuple #[val x,.bool true]) w) ∧
  (f a=none→(Instr.lookup t (.map (some b)) (K.key a) false).run P w=.ok z w∧(Instr.lookup t (.map (some b)) (K.key a) true).run P w=.ok (.tuple #[z,.bool false]) w):=by
 obtain⟨D,h1,_,h3⟩:=h;obtain⟨v,ps,hr,hv⟩:=h1.lookup K.law ht hz (zd:=.held z) (zp:=[]) rfl (K.hkey a ha);obtain⟨v2,ps2,hr2,hv2⟩:=h1.look_ok K.law ht hz (zd:=.held z) (zp:=[]) rfl (K.hkey a ha);refine⟨fun x hx=>?_,fun hx=>?_⟩
 ·have h4:=(h3 a ha).1 x hx
  rw[h4] at hv hv2
  injection hv with hv
  injection hv2 with hv2
  injection hv with hv _
  injection hv2 with hv2 _
  injection hv with hv
  injection hv2 with hv2
  subst hv hv2;rw[has_true_of_atKey h4] at hr2;exact⟨hr,hr2⟩
 ·have h4:=(h3 a ha).2 hx
  rw[h4] at hv hv2
  injection hv with hv
  injection hv2 with hv2
  injection hv with hv _
  injection hv2 with hv2 _
  injection hv with hv
  injection hv2 with hv2
  subst hv hv2;rw[has_false_of_atKey h4] at hr2;exact⟨hr,hr2⟩
def upd (f:κ→Option ν) [DecidableEq κ] (a:κ) (x:Option ν):κ→Option ν:=fun c=>if c=a then x else f c
theorem isKey (K:KeyTy P κ) {a:κ} (ha:K.wf a):WideAt.IsKeyLit (K.lit a):=K.law.key (K.hkey a ha)
theorem MapIs.put [DecidableEq κ] {t e:TypeId} (h:MapIs K val w b n f) (ht:P.underlying t=some (.map K.k e)) (hn:n<maxLen) (a:κ) (ha:K.wf a) (x:ν) :
  ∃ w',(Instr.mapUpdate t (.map (some b)) (K.key a) (val x)).run P w=.ok () w'∧MapIs K val w' b (if (f a).isSome then n else n+1) (upd f a (some x))∧w.mapTurned w' b:=by
 obtain⟨D,h1,h2,h3⟩:=h;obtain⟨w',hr,h4,h5⟩:=h1.store K.law ht hn (K.hkey a ha) (show tokR (val x)=some (.held (val x),[]) from rfl);have hm:=h1.isMap;have hT:=h1.tidy K.law;have hs:Maps.size (D.put (K.lit a) (.held (val x)))=if (f a).isSome then n else n+1:=by
  rw[size_put hT,h2]
  cases hf:f a with
  | none=>rw[has_false_of_atKey ((h3 a ha).2 hf)];rfl
  | some y=>rw[has_true_of_atKey ((h3 a ha).1 y hf)];rfl
 refine⟨w',hr,⟨_,?_,hs,fun c hc=>?_⟩,h5⟩
 ·obtain⟨es,clock,hb,F,hsz,hD⟩:=h4
  refine⟨es,clock,hb,F,?_,hD⟩;rw[← hs,hD]
  simp[Maps.size,length_sorted]
 ·by_cases hca:c=a
  ·subst hca
   refine⟨fun y hy z=>?_,fun hy=>?_⟩
   ·rw[atKey_put_same hm (isKey K hc)]
    simp[upd] at hy
    rw[hy]
   ·simp[upd] at hy
  ·have hne:K.lit c≠K.lit a:=fun e=>hca (K.inj c a e)
   refine⟨fun y hy z=>?_,fun hy z=>?_⟩
   ·rw[atKey_put_other hne]
    simp[upd,hca] at hy
    exact(h3 c hc).1 y hy z
   ·rw[atKey_put_other hne]
    simp[upd,hca] at hy
    exact(h3 c hc).2 hy z
theorem MapIs.del [DecidableEq κ] {t e:TypeId} (h:MapIs K val w b n f) (ht:P.underlying t=some (.map K.k e)) (a:κ) (ha:K.wf a) (ty:TypeId) :
  ∃ w',(Builtin.delete_ #[t,K.k] ty #[.map (some b),K.key a]).run P w=.ok (.tuple #[]) w'∧MapIs K val w' b (if (f a).isSome then n - 1 else n) (upd f a none)∧w.mapTurned w' b:=by
 obtain⟨D,h1,h2,h3⟩:=h;obtain⟨w',hr,h4,h5⟩:=h1.drop K.law ht (K.hkey a ha) ty;have hT:=h1.tidy K.law;have hs:Maps.size (D.del (K.lit a))=if (f a).isSome then n - 1 else n:=by
  have:=size_del (k:=K.lit a) hT;rw[h2] at this
  cases hf:f a with
  | none=>rw[has_false_of_atKey ((h3 a ha).2 hf)] at this;simpa using this
  | some y=>rw[has_true_of_atKey ((h3 a ha).1 y hf)] at this;simp at this ⊢;omega
 refine⟨w',hr,⟨_,?_,hs,fun c hc=>?_⟩,h5⟩
 ·obtain⟨es,clock,hb,F,hsz,hD⟩:=h4
  refine⟨es,clock,hb,F,?_,hD⟩;rw[← hs,hD]
  simp[Maps.size,length_sorted]
 ·by_cases hca:c=a
  ·subst hca
   refine⟨fun y hy=>?_,fun hy z=>?_⟩
   ·simp[upd] at hy
   ·exact atKey_del_same z
  ·have hne:K.lit c≠K.lit a:=fun e=>hca (K.inj c a e)
   refine⟨fun y hy z=>?_,fun hy z=>?_⟩
   ·rw[atKey_del_other hne]
    simp[upd,hca] at hy
    exact(h3 c hc).1 y hy z
   ·rw[atKey_del_other hne]
    simp[upd,hca] at hy
    exact(h3 c hc).2 hy z
theorem turned_fr {b:Nat} (h:w.mapTurned w' b):Fr (fun k=>k=b) w w':=(Fr.refl _ w).grown h.grown (fun k hk _=>by injection hk with e;exact e.symm)
variable {ops:Array Oper} {rest:List Oper} {o:Oper} {a:Act} {Q:Exit→Act→World→Prop}
theorem look_some (hg:o.guard=none) (m x:Operand) (t e:TypeId) (hop:o.op=Op.lookup t m x false) (h:MapIs K val w b n f) (ht:P.underlying t=some (.map K.k e)) {z:Value} (hz:(zeroValue e).run P w=.ok z w) (k:κ) (hk:K.wf k)
  (hm:a.eval m=.map (some b)) (hx:a.eval x=K.key k) (y:ν) (hf:f k=some y) (hK:wpList P ops Q rest (a.put o.dst (val y)) w):wpList P ops Q (o :: rest) a w:=by
 refine wpList_plain hg fun K' hK'=>?_
 have hrun:=((h.look ht hz k hk).1 y hf).1;unfold Oper.wp
 simp[execOp,hop,hm,hx,hrun,Result.andThen]
 exact hK' _ _ hK
theorem look_some_ok (hg:o.guard=none) (m x:Operand) (t e:TypeId) (hop:o.op=Op.lookup t m x true) (h:MapIs K val w b n f) (ht:P.underlying t=some (.map K.k e)) {z:Value} (hz:(zeroValue e).run P w=.ok z w) (k:κ) (hk:K.wf k)
  (hm:a.eval m=.map (some b)) (hx:a.eval x=K.key k) (y:ν) (hf:f k=some y) (hK:wpList P ops Q rest (a.put o.dst (.tuple #[val y,.bool true])) w):wpList P ops Q (o :: rest) a w:=by
 refine wpList_plain hg fun K' hK'=>?_
 have hrun:=((h.look ht hz k hk).1 y hf).2;unfold Oper.wp
 simp[execOp,hop,hm,hx,hrun,Result.andThen]
 exact hK' _ _ hK
theorem look_none (hg:o.guard=none) (m x:Operand) (t e:TypeId) (hop:o.op=Op.lookup t m x false) (h:MapIs K val w b n f) (ht:P.underlying t=some (.map K.k e)) {z:Value} (hz:(zeroValue e).run P w=.ok z w) (k:κ) (hk:K.wf k)
  (hm:a.eval m=.map (some b)) (hx:a.eval x=K.key k) (hf:f k=none) (hK:wpList P ops Q rest (a.put o.dst z) w):wpList P ops Q (o :: rest) a w:=by
 refine wpList_plain hg fun K' hK'=>?_
 have hrun:=((h.look ht hz k hk).2 hf).1;unfold Oper.wp
 simp[execOp,hop,hm,hx,hrun,Result.andThen]
 exact hK' _ _ hK
theorem look_none_ok (hg:o.guard=none) (m x:Operand) (t e:TypeId) (hop:o.op=Op.lookup t m x true) (h:MapIs K val w b n f) (ht:P.underlying t=some (.map K.k e)) {z:Value} (hz:(zeroValue e).run P w=.ok z w) (k:κ) (hk:K.wf k)
  (hm:a.eval m=.map (some b)) (hx:a.eval x=K.key k) (hf:f k=none) (hK:wpList P ops Q rest (a.put o.dst (.tuple #[z,.bool false])) w):wpList P ops Q (o :: rest) a w:=by
 refine wpList_plain hg fun K' hK'=>?_
 have hrun:=((h.look ht hz k hk).2 hf).2;unfold Oper.wp
 simp[execOp,hop,hm,hx,hrun,Result.andThen]
 exact hK' _ _ hK
theorem put_map [DecidableEq κ] (hg:o.guard=none) (m x v:Operand) (t e:TypeId) (hop:o.op=Op.mapUpdate t m x v) (h:MapIs K val w b n f) (ht:P.underlying t=some (.map K.k e)) (hn:n<maxLen) (k:κ) (hk:K.wf k) (y:ν)
  (hm:a.eval m=.map (some b)) (hx:a.eval x=K.key k) (hv:a.eval v=val y)
  (hK:∀ w',MapIs K val w' b (if (f k).isSome then n else n+1) (upd f k (some y))→w.mapTurned w' b→wpList P ops Q rest (a.put o.dst undef) w'):wpList P ops Q (o :: rest) a w:=by
 refine wpList_plain hg fun K' hK'=>?_
 obtain⟨w',hrun,r1,r2⟩:=h.put ht hn k hk y;unfold Oper.wp
 simp[execOp,hop,hm,hx,hv,hrun,Result.andThen]
 exact hK' _ _ (hK w' r1 r2)
end Go.Proofs.YtbkkhmafheimfaaGreatDoor
namespace Go.Proofs.YtbkkhmafheimfaaGreatDoor
open Go.RowKit Go.Maps
theorem getD_set_self {L:Array Bool} {i:Nat} (h:L.getD i true=false):(L.setIfInBounds i true).getD i false=true:=by
 have hi:i<L.size:=by
  rcases Nat.lt_or_ge i L.size with h1 | h1
  ·exact h1
  ·rw[Array.getD_eq_getD_getElem?,Array.getElem?_eq_none h1] at h;cases h
 rw[Array.getD_eq_getD_getElem?,Array.getElem?_setIfInBounds_self_of_lt hi]
 rfl
theorem set_comm_tt (L:Array Bool) (i j:Nat):(L.setIfInBounds i true).setIfInBounds j true=(L.setIfInBounds j true).setIfInBounds i true:=by
 by_cases h:i=j
 ·rw[h]
 ·exact Array.setIfInBounds_comm true true h
def listAll (L:Array Bool) (l:List Nat):Array Bool:=l.foldl (fun L i=>L.setIfInBounds i true) L
theorem listAll_set (l:List Nat):∀ (L:Array Bool) (i:Nat),listAll (L.setIfInBounds i true) l=(listAll L l).setIfInBounds i true:=by
 induction l with
 | nil=>intro L i;rfl
 | cons x l ih =>
   intro L i
   show listAll ((L.setIfInBounds i true).setIfInBounds x true) l=(listAll (L.setIfInBounds x true) l).setIfInBounds i true
   rw[set_comm_tt,ih]
theorem listAll_mid (L:Array Bool) (l1 l2:List Nat) (x:Nat):listAll (L.setIfInBounds x true) (l1 ++ l2)=listAll L (l1 ++ x :: l2):=by
 unfold listAll;rw[List.foldl_append,List.foldl_append,List.foldl_cons];have:=listAll_set l1 L x;unfold listAll at this;rw[this]
variable {P:Program} {κ ν:Type} [DecidableEq κ] {K:KeyTy P κ} {val:ν→Value} {md:Region.Mode} {ops:Array Oper} {Q:Exit→Act→World→Prop} {S:World→Prop}
def EntryOk (K:KeyTy P κ) (val:ν→Value) (md:Region.Mode) (ops:Array Oper) (t:TypeId) (a:Act) (b:Nat) (L:Array Bool) (x:Nat × κ × ν):Prop :=
 (∃ o m k v,ops[x.1]?=some o∧o.guard=none∧o.dst=none∧o.op=.insert t m k v∧a.eval m=.map (some b)∧a.eval k=K.key x.2.1∧a.eval v=val x.2.2∧∀ d ∈ o.after,Region.binds md d=true→L.getD d.on false=true)∧K.wf x.2.1∧L.getD x.1 true=false
theorem inserts_any {t e:TypeId} (ht:P.underlying t=some (.map K.k e)) (a:Act) (b:Nat) (R:World→Prop) (hRS:∀ w,R w→S w) (hR:∀ w w',R w→w.mapTurned w' b→R w') (fuel:Nat) :
  ∀ (N:Nat) (Rm:List (Nat × κ × ν)),Rm.length=N→∀ (L:Array Bool) (f:κ→Option ν) (c:Nat) (w:World),
   (∀ x ∈ Rm,EntryOk K val md ops t a b L x)→(Rm.map (·.1)).Nodup→(Rm.map (·.2.1)).Nodup →
   (∀ j o,ops[j]?=some o→L.getD j true=false→(∀ x ∈ Rm,x.1≠j)→∀ x ∈ Rm,∃ d ∈ o.after,Region.binds md d=true∧d.on=x.1) →
   MapIs K val w b c f→c+N<maxLen→R w →
   (∀ w' n g,n≤c+N→MapIs K val w' b n g→(∀ x ∈ Rm,g x.2.1=some x.2.2)→(∀ k,(∀ x ∈ Rm,x.2.1≠k)→g k=f k)→R w'→wpAnyH P md ops Q S fuel (listAll L (Rm.map (·.1))) a w') →
   wpAnyH P md ops Q S (N+fuel) L a w:=by
 intro N
 induction N with
 | zero =>
   intro Rm hN L f c w _ _ _ _ hm _ hr hfin;have:Rm=[]:=List.length_eq_zero_iff.1 hN;subst this;have:=hfin w c f (by omega) hm (fun x hx=>by cases hx) (fun k _=>rfl) hr;rw[Nat.zero_add];exact this
 | succ N ih =>
   intro Rm hN L f c w hok hnd hkd hlate hm hc hr hfin;rw[show N+1+fuel=(N+fuel)+1 from by omega];have hready:∀ i,i ∈ Region.ready md ops L↔∃ x ∈ Rm,x.1=i:=fun i=>by
    rw[mem_ready]
    constructor
    ·rintro⟨h0,o,ho,hall⟩
     by_cases hx:∃ x ∈ Rm,x.1=i
     ·exact hx
     ·exfalso
      have hne:∀ x ∈ Rm,x.1≠i:=fun x hx1 hx2=>hx ⟨x,hx1,hx2⟩
      match Rm,hN with
      | y :: _,_ =>
        obtain⟨d,hd,hb,he⟩:=hlate i o ho h0 hne y (List.mem_cons_self ..);have h1:=hall d hd hb;rw[he] at h1;have h2:=(hok y (List.mem_cons_self ..)).2.2;have hi:y.1<L.size:=by
         rcases Nat.lt_or_ge y.1 L.size with h3 | h3
         ·exact h3
         ·rw[Array.getD_eq_getD_getElem?,Array.getElem?_eq_none h3] at h2;cases h2
        rw[Array.getD_eq_getD_getElem?,Array.getElem?_eq_getElem hi] at h1 h2
        simp at h1 h2
        rw[h1] at h2
        cases h2
    ·rintro⟨x,hx,rfl⟩
     obtain⟨⟨o,m,k,v,ho,_,_,_,_,_,_,hall⟩,_,h0⟩:=hok x hx;exact⟨h0,o,ho,hall⟩
   refine⟨fun h=>?_,fun i hi=>?_⟩
   ·match Rm,hN with
    | y :: _,_ =>
      have:=(hready y.1).2 ⟨y,List.mem_cons_self ..,rfl⟩;rw[h] at this
      cases this
   ·obtain⟨x,hx,rfl⟩:=(hready i).1 hi
    obtain⟨⟨o,m,k,v,ho,hg,hdst,hop,em,ek,ev,hall⟩,hwf,h0⟩:=hok x hx;obtain⟨w',hrun,hm',htn⟩:=hm.put ht (by omega) x.2.1 hwf x.2.2;obtain⟨l1,l2,hl⟩:=List.append_of_mem hx;have hR':=hR w w' hr htn;have hgoal:wpAnyH P md ops Q S (N+fuel) (L.setIfInBounds x.1 true) a w':=by
     subst hl;rw[List.map_append,List.map_cons] at hnd hkd;have hn1:=hnd;rw[List.nodup_append] at hn1;obtain⟨n1,n2,n3⟩:=hn1;rw[List.nodup_cons] at n2;have hk1:=hkd;rw[List.nodup_append] at hk1;obtain⟨k1,k2,k3⟩:=hk1;rw[List.nodup_cons] at k2;have hdi:∀ y ∈ l1 ++ l2,y.1≠x.1:=fun y hy e=>by
      rcases List.mem_append.1 hy with h | h
      ·exact n3 _ (List.mem_map_of_mem h) _ (List.mem_cons_self ..) e
      ·exact n2.1 (e ▸ List.mem_map_of_mem h)
     have hdk:∀ y ∈ l1 ++ l2,y.2.1≠x.2.1:=fun y hy e=>by
      rcases List.mem_append.1 hy with h | h
      ·exact k3 _ (List.mem_map_of_mem h) _ (List.mem_cons_self ..) e
      ·exact k2.1 (e ▸ List.mem_map_of_mem h)
     have hsub:∀ y ∈ l1 ++ l2,y ∈ l1 ++ x :: l2:=fun y hy=>by
      rcases List.mem_append.1 hy with h | h
      ·exact List.mem_append_left _ h
      ·exact List.mem_append_right _ (List.mem_cons_of_mem _ h)
     refine ih (l1 ++ l2) (by simp at hN ⊢;omega) _ (upd f x.2.1 (some x.2.2)) (if (f x.2.1).isSome then c else c+1) w' (fun y hy=>?_) ?_ ?_ (fun j o' ho' hj hne y hy=>?_) hm' (by split <;> omega) hR' (fun w2 n g hn hg hg1 hg2 hr2=>?_)
     ·obtain⟨⟨o',m',k',v',q1,q2,q3,q4,q5,q6,q7,q8⟩,q9,q10⟩:=hok y (hsub y hy)
      exact⟨⟨o',m',k',v',q1,q2,q3,q4,q5,q6,q7,fun d hd hb=>getD_set_true (q8 d hd hb)⟩,q9,by rw[getD_set_ne true (Ne.symm (hdi y hy))];exact q10⟩
     ·rw[List.map_append,List.nodup_append]
      exact⟨n1,n2.2,fun u hu z hz=>n3 u hu z (List.mem_cons_of_mem _ hz)⟩
     ·rw[List.map_append,List.nodup_append]
      exact⟨k1,k2.2,fun u hu z hz=>k3 u hu z (List.mem_cons_of_mem _ hz)⟩
     ·by_cases hjx:j=x.1
      ·subst hjx
       exfalso
       have:=getD_set_self h0;have hi:x.1<(L.setIfInBounds x.1 true).size:=by
        rcases Nat.lt_or_ge x.1 (L.setIfInBounds x.1 true).size with h3 | h3
        ·exact h3
        ·rw[Array.getD_eq_getD_getElem?,Array.getElem?_eq_none h3] at this;cases this
       rw[Array.getD_eq_getD_getElem?,Array.getElem?_eq_getElem hi] at hj this
       simp at hj this
      ·refine hlate j o' ho' (by rw[getD_set_ne true (Ne.symm hjx)] at hj;exact hj) (fun z hz=>?_) y (hsub y hy)
       rcases List.mem_append.1 hz with h | h
       ·exact hne z (List.mem_append_left _ h)
       ·rcases List.mem_cons.1 h with rfl | h
        ·exact fun e=>hjx e.symm
        ·exact hne z (List.mem_append_right _ h)
     ·have hlist:listAll (L.setIfInBounds x.1 true) ((l1 ++ l2).map (·.1))=listAll L ((l1 ++ x :: l2).map (·.1)):=by
       rw[List.map_append,List.map_append,List.map_cons,listAll_mid]
      rw[hlist];refine hfin w2 n g (Nat.le_trans hn (by split <;> omega)) hg (fun y hy=>?_) (fun k hk=>?_) hr2
      ·rcases List.mem_append.1 hy with h | h
       ·exact hg1 y (List.mem_append_left _ h)
       ·rcases List.mem_cons.1 h with rfl | h
        ·rw[hg2 _ hdk];simp[upd]
        ·exact hg1 y (List.mem_append_right _ h)
      ·rw[hg2 k (fun z hz=>hk z (hsub z hz))]
       have:k≠x.2.1:=fun e=>hk x hx e.symm
       simp[upd,this]
    have hgo:S w'∧wpAnyH P md ops Q S (N+fuel) (L.setIfInBounds x.1 true) a w':=⟨hRS w' hR',hgoal⟩;unfold wpOp;rw[ho];have hw:Region.wanted o (yielded ops a.tmps)=true:=by unfold Region.wanted;rw[hg]
    simp only[hw,if_true]
    left
    unfold Oper.wp;simp only[execOp,hop,em,ek,ev]
    simp[hrun,Result.andThen]
    rw[Oper.upon_skip,hdst];exact hgo
theorem inserts_go {t e:TypeId} (ht:P.underlying t=some (.map K.k e)) (a:Act) (b:Nat) (R:World→Prop) (hRS:∀ w,R w→S w) (hR:∀ w w',R w→w.mapTurned w' b→R w') (fuel N:Nat) (Rm:List (Nat × κ × ν)) (hN:Rm.length=N) (L:Array Bool) (w:World)
  (hB:((Rm.map (·.1)).all fun i=>match ops[i]? with | some o=>o.guard.isNone && o.dst.isNone && o.after.all (fun d=>!Region.binds md d || L.getD d.on false) && !(L.getD i true) | none=>false)=true)
  (hop:∀ x ∈ Rm,(∃ m k v,(ops[x.1]?.map (·.op))=some (.insert t m k v)∧a.eval m=.map (some b)∧a.eval k=K.key x.2.1∧a.eval v=val x.2.2)∧K.wf x.2.1) (hnd:(Rm.map (·.1)).Nodup) (hkd:(Rm.map (·.2.1)).Nodup)
  (hlate:((List.range ops.size).all fun j=>L.getD j true || (Rm.map (·.1)).contains j || match ops[j]? with | some o=>(Rm.map (·.1)).all fun i=>o.after.any fun d=>Region.binds md d && d.on == i | none=>true)=true)
  (hm:MapIs K val w b 0 (fun _=>none)) (hc:N<maxLen) (hr:R w)
  (hfin:∀ w' n g,n≤N→MapIs K val w' b n g→(∀ x ∈ Rm,g x.2.1=some x.2.2)→(∀ k,(∀ x ∈ Rm,x.2.1≠k)→g k=none)→R w'→wpAnyH P md ops Q S fuel (listAll L (Rm.map (·.1))) a w') :
  wpAnyH P md ops Q S (N+fuel) L a w:=by
 refine inserts_any ht a b R hRS hR fuel N Rm hN L (fun _=>none) 0 w (fun x hx=>?_) hnd hkd (fun j o ho hj hne x hx=>?_) hm (by omega) hr (fun w' n g hn hg h1 h2 h3=>hfin w' n g (by omega) hg h1 h2 h3)
 ·obtain⟨⟨m,k,v,h1,h2,h3,h4⟩,hwf⟩:=hop x hx
  have hb:=List.all_eq_true.1 hB x.1 (List.mem_map_of_mem hx)
  cases ho:ops[x.1]? with
  | none=>rw[ho] at h1;cases h1
  | some o =>
    rw[ho] at h1 hb;simp only[Bool.and_eq_true,Bool.not_eq_true',Option.isNone_iff_eq_none] at hb;obtain⟨⟨⟨g1,g2⟩,g3⟩,g4⟩:=hb;refine⟨⟨o,m,k,v,ho,g1,g2,by simpa using h1,h2,h3,h4,fun d hd hbd=>?_⟩,hwf,g4⟩;rw[Array.all_eq_true] at g3;obtain⟨i,hi,rfl⟩:=Array.mem_iff_getElem.1 hd;have:=g3 i hi;rw[hbd] at this
    simpa using this
 ·have hlt:j<ops.size:=by
   rcases Nat.lt_or_ge j ops.size with h | h
   ·exact h
   ·rw[Array.getElem?_eq_none h] at ho;cases ho
  have h:=List.all_eq_true.1 hlate j (List.mem_range.2 hlt);rw[ho,hj] at h;have hnc:(Rm.map (·.1)).contains j=false:=by
   rw[Bool.eq_false_iff];intro hc;rw[List.contains_iff_mem] at hc;obtain⟨y,hy,he⟩:=List.mem_map.1 hc;exact hne y hy he
  rw[hnc] at h;simp only[Bool.false_or] at h;have:=List.all_eq_true.1 h x.1 (List.mem_map_of_mem hx);rw[Array.any_eq_true] at this;obtain⟨i,hi,hd⟩:=this;simp only[Bool.and_eq_true,beq_iff_eq] at hd;exact⟨_,Array.getElem_mem hi,hd.1,hd.2⟩
end Go.Proofs.YtbkkhmafheimfaaGreatDoor
namespace Go.Proofs.YtbkkhmafheimfaaGreatDoor
open Go.RowKit
theorem w32_bd (a:Int):-2147483648≤wrap32 a∧wrap32 a≤2147483647:=by unfold wrap32;omega
theorem w64_w32 (a:Int):wrap64 (wrap32 a)=wrap32 a:=by unfold wrap64 wrap32;omega
theorem of_plain (a:Int):wrap64 (wrap32 (IntKind.u64.wrap a % 4294967296))=wrap32 a:=by
 rw[IntKind.wrap_u64];unfold wrap64 wrap32;omega
open Go.ChangeShapes Go.WideShapes Go.ChangeAt
theorem of_any (a:Int) (w:World) :
  Calls Tryz.prog 22 #[.int .i64 a] w fun e w'=>e=.returned (.int .i64 (wrap32 a))∧w=w':=by
 go_enter Tryz.func22,Tryz.ntmps22
 go_wp2
 go_ret
 exact⟨by simp[of_plain],rfl⟩
end Go.Proofs.YtbkkhmafheimfaaGreatDoor
