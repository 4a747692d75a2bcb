/- Footprints: what a call may turn is a set of blocks. Nothing of the program stands here. What comes in: a slice of a script's entries. .. -/
import Derived.Test.YtlofbhoicbemnaaGreatDoorDAa
import Derived.Deep.RegionHeld3
import Derived.BigRegion
import Derived.Deep.CutBlock
import Derived.Deep.DeepCutAuto
import Derived.Deep.RegionLaw
set_option linter.unusedVariables false
set_option linter.unusedSimpArgs false
set_option maxRecDepth 100000
set_option maxHeartbeats 1600000
namespace Go.Proofs.YtlofbhoicbemnaaGreatDoor
open Go.RowKit
structure Fr (F:Nat→Prop) (w w':World):Prop where
 os:w'.os=w.os
 tape:w'.tape=w.tape
 output:w'.output=w.output
 size:w.heap.size≤w'.heap.size
 block:∀ k,k<w.heap.size→¬ F k→w'.heap[k]?=w.heap[k]?
theorem Fr.refl (F:Nat→Prop) (w:World):Fr F w w:=⟨rfl,rfl,rfl,Nat.le_refl _,fun _ _ _=>rfl⟩
theorem Fr.trans {F G:Nat→Prop} {a b c:World} (h:Fr F a b) (k:Fr G b c) (hg:∀ k,k<a.heap.size→G k→F k):Fr F a c :=
 ⟨k.os.trans h.os,k.tape.trans h.tape,k.output.trans h.output,Nat.le_trans h.size k.size,
  fun i hi hn=>(k.block i (Nat.lt_of_lt_of_le hi h.size) (fun hG=>hn (hg i hi hG))).trans (h.block i hi hn)⟩
theorem Fr.mono {F G:Nat→Prop} {w w':World} (h:Fr F w w') (hg:∀ k,F k→G k):Fr G w w':=⟨h.os,h.tape,h.output,h.size,fun k hk hn=>h.block k hk (fun hf=>hn (hg k hf))⟩
theorem Fr.below {F:Nat→Prop} {w w':World} (h:Fr F w w') {N:Nat} (hN:N≤w.heap.size) (hf:∀ k,F k→N≤k):Below N w w' :=
 ⟨h.os,h.tape,h.output,h.size,fun k hk=>h.block k (by omega) (fun hF=>by have:=hf k hF;omega)⟩
theorem Fr.of_below {w w':World} (h:Below w.heap.size w w') (F:Nat→Prop):Fr F w w':=⟨h.os,h.tape,h.output,h.size,fun k hk _=>h.block k hk⟩
theorem Fr.alloc {F:Nat→Prop} {a w:World} (h:Fr F a w) (o:Obj):Fr F a (w.alloc o) :=
 h.trans (Fr.of_below ((Below.refl _ _).alloc (Nat.le_refl _) _) (fun _=>False)) (fun _ _ h=>h.elim)
theorem Fr.drew {F:Nat→Prop} {a w:World} (h:Fr F a w):Fr F a w.drew:=⟨h.os,h.tape,h.output,h.size,h.block⟩
theorem Fr.drewN {F:Nat→Prop} {a w:World} (h:Fr F a w) (n:Nat):Fr F a (w.drewN n):=⟨h.os,h.tape,h.output,h.size,h.block⟩
theorem Fr.setCell {F:Nat→Prop} {a w:World} (h:Fr F a w) {p:Addr} (hp:p.block<a.heap.size→F p.block) (u:Value):Fr F a (w.setCell p u) :=
 h.trans (G:=fun k=>k=p.block) ⟨rfl,rfl,rfl,by simp[World.setCell],fun k _ hk=>Below.heap_setCell _ _ _ _ hk⟩ (fun k hk e=>by subst e;exact hp hk)
theorem Fr.grown {F:Nat→Prop} {a w w':World} {row:Option Nat} (h:Fr F a w) (hg:w.grownBy w' row) (hr:∀ k,row=some k→k<a.heap.size→F k):Fr F a w' :=
 h.trans (G:=fun k=>row=some k) ⟨hg.os,hg.tape,hg.output,hg.size,fun k hk hn=>hg.block k hk (fun e=>hn e.symm)⟩ (fun k hk e=>hr k e hk)
theorem Fr.heap {F:Nat→Prop} {w w':World} (h:Fr F w w') {k:Nat} {o:Obj} (hk:w.heap[k]?=some o) (hn:¬ F k):w'.heap[k]?=some o:=by
 have hlt:k<w.heap.size:=by
  rcases Nat.lt_or_ge k w.heap.size with h' | h'
  ·exact h'
  ·rw[Array.getElem?_eq_none h'] at hk;cases hk
 rw[h.block k hlt hn];exact hk
theorem Fr.cell {F:Nat→Prop} {w w':World} (h:Fr F w w') {a:Addr} {v:Value} (hc:w.cell? a=some v) (hn:¬ F a.block):w'.cell? a=some v:=by
 rw[World.cell?_of_block (w:=w) (h.block a.block (World.block_lt hc) hn)];exact hc
theorem owns_fr {F:Nat→Prop} {w w':World} {base:Nat} {e:TypeId} {size:Nat} {v:Value} {n:Nat} {xs:List Value} (h:w.ownsRow base e size v n xs) (hf:Fr F w w') (hn:∀ k,v.ownBlock=some k→¬ F k):w'.ownsRow base e size v n xs:=by
 obtain⟨h1,h2⟩:=h;refine⟨h1,?_⟩
 rcases h2 with h2 | ⟨g,cap,cur,hv,hg,hh,hr⟩
 ·exact .inl h2
 ·exact .inr ⟨g,cap,cur,hv,hg,hf.heap hh (hn g (by rw[hv];rfl)),hr⟩
theorem CellsAt.fr {F:Nat→Prop} {w w':World} {b o:Nat} {cs:List Value} (h:CellsAt w b o cs) (hf:Fr F w w') (hn:¬ F b):CellsAt w' b o cs:=fun j u hj=>hf.cell (h j u hj) hn
variable {P:Program} {α:Type}
theorem Own.fr {E:Elem P α} {F:Nat→Prop} {w w':World} {B:Nat} {v:Value} {l:List α} (h:Own E w B v l) (hf:Fr F w w') (hn:∀ k,v.ownBlock=some k→¬ F k):Own E w' B v l:=owns_fr h hf hn
theorem Own.lt {E:Elem P α} {w:World} {B:Nat} {v:Value} {l:List α} (h:Own E w B v l) {k:Nat} (hk:v.ownBlock=some k):B≤k∧k<w.heap.size:=World.ownsRow.lt h k hk
theorem Own.base {E:Elem P α} {w:World} {B B':Nat} {v:Value} {l:List α} (h:Own E w B v l) (hb:∀ k,v.ownBlock=some k→B'≤k):Own E w B' v l:=by
 obtain⟨h1,h2⟩:=h;refine⟨h1,?_⟩
 rcases h2 with h2 | ⟨g,cap,cur,hv,hg,hh,hr⟩
 ·exact .inl h2
 ·exact .inr ⟨g,cap,cur,hv,hb g (by rw[hv];rfl),hh,hr⟩
theorem Own.slice {E:Elem P α} {w:World} {B:Nat} {v:Value} {l:List α} (h:Own E w B v l):∃ a n c,v=.slice a n c:=by
 rcases h.2 with⟨rfl,h0⟩ | ⟨g,cap,cur,rfl,_⟩
 ·exact⟨none,0,0,rfl⟩
 ·exact⟨_,_,_,rfl⟩
theorem heap_lt {w:World} {p:Nat} {o:Obj} (h:w.heap[p]?=some o):p<w.heap.size:=by
 rcases Nat.lt_or_ge p w.heap.size with h' | h'
 ·exact h'
 ·rw[Array.getElem?_eq_none h'] at h;cases h
def Fresh (w:World) (v v':Value):Prop:=∀ k,v'.ownBlock=some k→v.ownBlock=some k∨w.heap.size≤k
theorem run_append_fresh (E:Elem P α) (w:World) (ty:TypeId) (B:Nat) (l m:List α) (v:Value) (hown:Own E w B v l) (b of c:Nat)
  (hm:CellsAt w b of (m.flatMap E.enc)) (hlen:l.length+m.length≤100000000) (hB:B≤w.heap.size) :
  ∃ v' w',(Builtin.append_ #[E.t,E.t] ty #[v,.slice (some ⟨b,of,none⟩) m.length c]).run P w=.ok v' w'∧Own E w' B v' (l ++ m)∧w.grownBy w' v.ownBlock∧Fresh w v v':=by
 obtain⟨i0,hi,hz0,hz1,hz2⟩:=info_parts E.info;have hnews:∀ j u,(m.flatMap E.enc)[j]?=some u→w.cell? ((⟨b,of,none⟩:Addr).add j)=some u:=by
  intro j u hj;have:=hm j u hj;unfold Addr.add
  by_cases h0:j=0
  ·subst h0;rw[if_pos rfl];exact this
  ·rw[if_neg h0];exact this
 have h1:∀ u ∈ m.flatMap E.enc,u.oneCell'=true:=by
  intro u hu;obtain⟨y,_,hy⟩:=List.mem_flatMap.1 hu;exact E.hone y u hy
 have hml:l.length+m.length≤maxLen:=by unfold maxLen;omega
 have hby:(l.length+m.length) * E.bytes≤140737488355328:=by
  have h1:=E.hby;have h2:(l.length+m.length) * E.bytes≤100000000 * 1000:=Nat.mul_le_mul hlen h1
  omega
 have go:∀ B',B'≤w.heap.size→Own E w B' v l→∃ v' w',(Builtin.append_ #[E.t,E.t] ty #[v,.slice (some ⟨b,of,none⟩) m.length c]).run P w=.ok v' w'∧Own E w' B' v' (l ++ m)∧w.grownBy w' v.ownBlock:=fun B' hB' ho=>by
  obtain⟨v',w',hr,h2,h3,_⟩:=run_append_own (P:=P) w B' E.t ty E.e i0 E.zero E.size E.bytes E.ht hi hz0 hz1 hz2 E.hzs E.hsz v l.length (l.flatMap E.enc) ho ⟨b,of,none⟩ m.length c (m.flatMap E.enc) (E.len m) hnews h1 hml hby hB';refine⟨v',w',hr,?_,h3⟩;unfold Own;rw[List.length_append,List.flatMap_append];exact h2
 obtain⟨v',w',hr,h2,h3⟩:=go B hB hown;refine⟨v',w',hr,h2,h3,?_⟩
 rcases hown.2 with⟨rfl,h0⟩ | ⟨g,cap,cur,rfl,hbg,hg,hnc,hcm,hcs,htake⟩
 ·have hl0:l=[]:=List.length_eq_zero_iff.1 h0
  subst hl0;obtain⟨v2,w2,hr2,h22,_⟩:=go w.heap.size (Nat.le_refl _) (Own.nil _ _ _);rw[hr] at hr2
  injection hr2 with e1 e2
  subst e1 e2;exact fun k hk=>.inr (h22.lt hk).1
 ·by_cases hroom:l.length+m.length≤cap
  ·have hfit:l.length * i0.size+(m.flatMap E.enc).length≤cur.size:=by rw[E.len m,hcs,hz1,← Nat.add_mul];exact Nat.mul_le_mul_right _ hroom
   have hr2:=run_append_room (P:=P) w E.t ty E.e i0 E.ht hi g l.length cap cur hg ⟨b,of,none⟩ m.length c (m.flatMap E.enc) (by rw[hz1];exact E.len m) hnews h1 hroom hfit;rw[hr] at hr2
   injection hr2 with e1 e2
   subst e1;exact fun k hk=>.inl hk
  ·have holds:∀ j u,(l.flatMap E.enc)[j]?=some u→w.cell? ((⟨g,0,none⟩:Addr).add j)=some u:=World.ownsRow.cells (g:=g) hown rfl
   have hr2:=run_append_grow (P:=P) w E.t ty E.e i0 E.zero E.ht hi hz0 ⟨g,0,none⟩ l.length cap (l.flatMap E.enc) (by rw[hz1];exact E.len l) holds ⟨b,of,none⟩ m.length c (m.flatMap E.enc) (by rw[hz1];exact E.len m) hnews (by omega) (by omega) (growslice_fits (by omega) (by rw[hz2];exact hby));rw[hr] at hr2
   injection hr2 with e1 e2
   subst e1;intro k hk
   simp[Value.ownBlock] at hk
   exact .inr (by omega)
theorem append_fresh (E:Elem P α) {ops:Array Oper} {rest:List Oper} {o:Oper} {a:Act} {Q:Exit→Act→World→Prop} {w:World} (hgd:o.guard=none) (s x:Operand)
  (ho:o.op=.call { callee:=.builtin .append,args:=#[s,x],argTypes:=#[E.t,E.t] })
  (B:Nat) (l m:List α) (v:Value) (hs:a.eval s=v) (hown:Own E w B v l) (b of c:Nat) (hx:a.eval x=.slice (some ⟨b,of,none⟩) m.length c)
  (hm:CellsAt w b of (m.flatMap E.enc)) (hlen:l.length+m.length≤100000000) (hB:B≤w.heap.size)
  (h:∀ v' w',Own E w' B v' (l ++ m)→w.grownBy w' v.ownBlock→Fresh w v v'→wpList P ops Q rest (a.put o.dst v') w'):wpList P ops Q (o :: rest) a w :=
 wpList_plain hgd fun _ hK=>by
  obtain⟨v',w',hr,h2,h3,h4⟩:=run_append_fresh E w o.type B l m v hown b of c hm hlen hB;unfold Oper.wp execOp;simp only[ho,resolve,invoke,builtin,Sem.run_bind,Sem.run_pure,Result.andThen_ok,List.map_toArray,List.map_cons,List.map_nil,hs,hx,hr];exact hK _ _ (h v' w' h2 h3 h4)
theorem Elem.get (E:Elem P α) (l:List α) (j r:Nat) (hj:j<l.length) (hr:r<E.size):(l.flatMap E.enc)[j * E.size+r]?=(E.enc l[j])[r]?:=by
 induction l generalizing j with
 | nil=>cases hj
 | cons x l ih =>
   rw[List.flatMap_cons]
   cases j with
   | zero =>
     rw[List.getElem?_append_left (by rw[E.henc];omega)];simp
   | succ j =>
     rw[List.getElem?_append_right (by rw[E.henc,Nat.add_mul];omega)];have:(j+1) * E.size+r - (E.enc x).length=j * E.size+r:=by rw[E.henc,Nat.add_mul];omega
     rw[this,ih j (by simpa using hj)]
     rfl
theorem own_elems {E:Elem P α} {w:World} {B:Nat} {v:Value} {l:List α} (h:Own E w B v l):∃ a c,v=.slice a l.length c∧∀ j (hj:j<l.length),∃ b,a=some ⟨b,0,none⟩∧v.ownBlock=some b∧∀ r u,(E.enc l[j])[r]?=some u→w.cell? ⟨b,j * E.size+r,none⟩=some u:=by
 have hc:=fun g hg=>World.ownsRow.cells (g:=g) h hg
 obtain⟨h1,h2⟩:=h
 rcases h2 with⟨rfl,h0⟩ | ⟨g,cap,cur,rfl,hg,hh,hr⟩
 ·have:l=[]:=List.length_eq_zero_iff.1 h0
  subst this;exact⟨none,0,rfl,fun j hj=>by cases hj⟩
 ·refine⟨_,cap,rfl,fun j hj=>⟨g,rfl,rfl,fun r u hu=>?_⟩⟩
  have hrs:r<E.size:=by
   rcases Nat.lt_or_ge r E.size with h' | h'
   ·exact h'
   ·rw[List.getElem?_eq_none (by rw[E.henc];exact h')] at hu;cases hu
  have:=hc g rfl (j * E.size+r) u (by rw[E.get l j r hj hrs];exact hu);unfold Addr.add at this
  split at this
  ·rename_i h0
   rw[h0];exact this
  ·simpa using this
theorem step_append_fresh (E:Elem P α) {ops:Array Oper} {o:Oper} {a:Act} {w:World} {K:Act→World→Prop} {Q:Exit→Act→World→Prop} {F:Prop} (hgd:o.guard=none) (s x:Operand)
  (ho:o.op=.call { callee:=.builtin .append,args:=#[s,x],argTypes:=#[E.t,E.t] })
  (B:Nat) (l m:List α) (v:Value) (hs:a.eval s=v) (hown:Own E w B v l) (b of c:Nat) (hx:a.eval x=.slice (some ⟨b,of,none⟩) m.length c)
  (hm:CellsAt w b of (m.flatMap E.enc)) (hlen:l.length+m.length≤100000000) (hB:B≤w.heap.size)
  (h:∀ v' w',Own E w' B v' (l ++ m)→w.grownBy w' v.ownBlock→Fresh w v v'→K (a.put o.dst v') w'):if Region.wanted o (yielded ops a.tmps)=true then Oper.wp P o a w K Q else F:=by
 have hw:Region.wanted o (yielded ops a.tmps)=true:=by simp[Region.wanted,hgd]
 rw[if_pos hw];obtain⟨v',w',hr,h2,h3,h4⟩:=run_append_fresh E w o.type B l m v hown b of c hm hlen hB;unfold Oper.wp execOp;simp only[ho,resolve,invoke,builtin,Sem.run_bind,Sem.run_pure,Result.andThen_ok,List.map_toArray,List.map_cons,List.map_nil,hs,hx,hr];exact h v' w' h2 h3 h4
end Go.Proofs.YtlofbhoicbemnaaGreatDoor
namespace Go.Proofs.YtlofbhoicbemnaaGreatDoor
open Go.ChangeShapes Go.WideShapes Go.ChangeAt Go.RowKit
structure Ent where (who n:Int)
instance : Inhabited Ent := ⟨⟨0, 0⟩⟩
def Ent.cells (x:Ent):List Value:=[.int .i64 x.who,.int .i64 x.n]
def Ent.wf (x:Ent):Prop:=(-9223372036854775808≤x.who∧x.who≤9223372036854775807)∧(-9223372036854775808≤x.n∧x.n≤9223372036854775807)
def EntAt (w:World) (b o:Nat) (x:Ent):Prop:=w.cell? ⟨b,o,none⟩=some (.int .i64 x.who)∧w.cell? ⟨b,o+1,none⟩=some (.int .i64 x.n)
def EntSl (w:World) (D:Nat→Prop) (a:Option Addr) (l:List Ent):Prop:=∀ j (hj:j<l.length),∃ b o,a=some ⟨b,o,none⟩∧D b∧EntAt w b (o+j * 2) l[j]
theorem EntSl.fr {F:Nat→Prop} {w w':World} {D:Nat→Prop} {a:Option Addr} {l:List Ent} (h:EntSl w D a l) (hf:Fr F w w') (hd:∀ k,D k→¬ F k):EntSl w' D a l:=fun j hj=>by
 obtain⟨b,o,h1,h2,h3,h4⟩:=h j hj;exact⟨b,o,h1,h2,hf.cell h3 (hd b h2),hf.cell h4 (hd b h2)⟩
theorem EntSl.below' {w w':World} {D:Nat→Prop} {a:Option Addr} {l:List Ent} (h:EntSl w D a l) (hb:Below w.heap.size w w'):EntSl w' D a l:=h.fr (Fr.of_below hb (fun _=>False)) (fun _ _ h=>h)
theorem EntSl.below {w w':World} {D:Nat→Prop} {a:Option Addr} {l:List Ent} (h:EntSl w D a l) (hb:Below w.heap.size w w'):EntSl w' D a l:=h.fr (Fr.of_below hb (fun _=>False)) (fun _ _ h=>h)
variable {H:Type} {enc:TypeId × Value→H}
theorem cells_ent:Tryz.prog.cellsOf 29=2:=by kernel_rfl
theorem trod_ent {w:World} {base:Nat} {sp:Nat→Bool} {hd:Bool} {n:Nat} {cs:List Value} {x:DataW H × List MemPlace} (h:DataW.trod enc Tryz.prog w base sp hd n 29 cs=some x):∃ y:Ent,cs=y.cells∧y.wf:=by
 obtain⟨xs,m,_,_,hl,hlen,hf⟩:=DataW.trod_struct Tryz.underlying29 h;rw[cells_ent] at hl
 match cs,hl,xs,hlen with
 | [c0,c1],_,[y0,y1],_ =>
   have f0:DataW.trod enc Tryz.prog w base sp hd m 3 (([c0,c1].drop 0).take (Tryz.prog.cellsOf 3))=some y0:=hf 0 _ rfl;have f1:DataW.trod enc Tryz.prog w base sp hd m 3 (([c0,c1].drop 1).take (Tryz.prog.cellsOf 3))=some y1:=hf 1 _ rfl;rw[cells_ints.1] at f0 f1;obtain⟨z0,rfl,b0⟩:=trod_one f0;obtain⟨z1,rfl,b1⟩:=trod_one f1;exact⟨⟨z0,z1⟩,rfl,b0,b1⟩
theorem cells_two {w:World} {base:Nat} {a:Addr} {x:Ent} (h:w.cells? base a 2=some x.cells):a.spot=none∧EntAt w a.block a.off x∧a.block<w.heap.size:=by
 obtain⟨_,_,hc⟩:=World.cells?_some h;have h0:=hc 0 (by omega);have hp:a.add 0=a:=rfl;rw[hp] at h0;have hs:a.spot=none:=by have:=plain_addr (v:=.int .i64 x.who) h0;rw[this]
 have h1:=hc 1 (by omega);rw[addr_add a hs] at h1;have:=plain_addr (v:=.int .i64 x.who) h0;rw[this] at h0;have h2:w.cell? ⟨a.block,a.off,none⟩=some (.int .i64 x.who):=h0;have h3:=World.block_lt h2;exact⟨hs,⟨h0,h1⟩,h3⟩
theorem open_entries {w:World} {base b:Nat} {v:Value} {sp:Nat→Bool} {d:DataW H} {p:List MemPlace} (hv:Value.okWide Tryz.prog w .any base 22 v)
  (h:DataW.Trod enc Tryz.prog w b sp true 22 v d p):∃ (a:Option Addr) (l:List Ent) (c:Nat),v=.slice a l.length c∧EntSl w (fun k=>k<w.heap.size) a l∧(∀ x ∈ l,x.wf)∧l.length≤c:=by
 obtain⟨fuel,hf⟩:=h;obtain⟨a0,len0,cap0,rfl⟩:=okWide_slice Tryz.underlying22 hv
 rcases Go.Deep.open_slice Tryz.underlying22 hf with⟨hcs,hx⟩ | ⟨a,len,cap,m,n,D,Pl,hcs,hb,hl,hm,hmm,hx,hel⟩
 ·simp[Value.cells] at hcs
  obtain⟨rfl,rfl,rfl⟩:=hcs;exact⟨none,[],0,rfl,(fun j hj=>by cases hj),(fun x hx=>by cases hx),Nat.le_refl _⟩
 ·simp[Value.cells] at hcs
  obtain⟨rfl,rfl,rfl⟩:=hcs;have hle:len0≤m:=by rw[hmm];split <;> omega
  rw[cells_ent] at hel;obtain⟨f,hF⟩:=Go.Deep.choose_lt (α:=Ent) (p:=fun i y=>(a.add (i * 2)).spot=none∧(EntAt w (a.add (i * 2)).block (a.add (i * 2)).off y∧(a.add (i * 2)).block<w.heap.size)∧y.wf) (n:=len0) (fun i hi=>by
   obtain⟨cs',h1,h2⟩:=hel i (by omega);obtain⟨y,rfl,hwf⟩:=trod_ent h2;obtain⟨h3,h4⟩:=cells_two h1;exact⟨y,h3,h4,hwf⟩)
  refine⟨some a,(List.range len0).map f,cap0,by simp,fun j hj=>?_,fun x hx=>?_,by simpa using hl⟩
  ·simp at hj
   have h0:=(hF 0 (by omega)).1;have ha0:a.add (0 * 2)=a:=by unfold Addr.add;simp
   rw[ha0] at h0;have hj2:=(hF j hj).2.1;rw[addr_add a h0] at hj2;obtain⟨bb,oo,ss⟩:=a
   dsimp only at h0
   subst h0;exact⟨bb,oo,rfl,hj2.2,by simpa using hj2.1⟩
  ·simp at hx
   obtain⟨i,hi,rfl⟩:=hx;exact(hF i hi).2.2
def entE:Elem Tryz.prog Ent where
 e:=29
 t:=22
 size:=2
 bytes:=16
 zero:=.agg #[.int .i64 0,.int .i64 0]
 enc:=Ent.cells
 ht:=Tryz.underlying22
 info:=by kernel_rfl
 hzs:=rfl
 hsz:=by decide
 hby:=by decide
 henc:=fun _=>rfl
 hone:=fun x u h=>by simp[Ent.cells] at h;rcases h with rfl | rfl <;> rfl
end Go.Proofs.YtlofbhoicbemnaaGreatDoor
namespace Go.Proofs.YtlofbhoicbemnaaGreatDoor
open Go.ChangeShapes Go.WideShapes Go.ChangeAt Go.RowKit
def entOk (x:Ent):Bool:=decide (0≤x.who) && decide (x.who≤5) && decide (0≤x.n) && decide (x.n≤31)
def entI (x:Ent):Int:=32 * x.who+x.n
def scrL (l:List Ent):List Int:=l.map entI
def scrS (l:List Ent):ByteArray × Int:=if l.all entOk then (if l.length≤4000 then (bytesS (scrL l),0) else (⟨#[]⟩,5)) else (⟨#[]⟩,1)
theorem scrS_no (l:List Ent) (k:Nat) (hk:k<l.length) (h:entOk l[k]=false):scrS l=(⟨#[]⟩,1):=by
 have:l.all entOk=false:=by
  rw[List.all_eq_false];exact⟨l[k],List.getElem_mem hk,by simp[h]⟩
 unfold scrS;rw[this]
 rfl
theorem scrL_len (l:List Ent):(scrL l).length=l.length:=by simp[scrL]
theorem scrL_snoc (l:List Ent) (x:Ent):scrL (l ++ [x])=scrL l ++ [entI x]:=by simp[scrL]
theorem bits_tab:∀ a:Fin 6,∀ b:Fin 32,bits BinOp.or IntKind.u8 (((a.val:Nat):Int) * 32) ((b.val:Nat):Int)=32 * ((a.val:Nat):Int)+((b.val:Nat):Int):=by decide +kernel
theorem bits_ent (a b:Int) (h0:¬ a<0) (h1:¬ 5<a) (h2:¬ b<0) (h3:¬ 31<b):bits BinOp.or IntKind.u8 (a * 32) b=entI ⟨a,b⟩:=by
 have:=bits_tab ⟨a.toNat,by omega⟩ ⟨b.toNat,by omega⟩;simp only[Int.toNat_of_nonneg (show 0≤a by omega),Int.toNat_of_nonneg (show 0≤b by omega)] at this;exact this
theorem script_any (l:List Ent) (D:Nat→Prop) (a:Option Addr) (c:Nat) (w:World) (hl:l.length≤100000) (hc:EntSl w D a l) :
  Calls Tryz.prog 7 #[.slice a l.length c] w fun e w'=>e=.returned (.tuple #[.string (scrS l).1,.int .i64 (scrS l).2])∧Below w.heap.size w w':=by
 have HC:=k_ hc;clear hc
 go_enter Tryz.func7,Tryz.ntmps7
 go_wp2_with fail
 go_loopw [4,9] (fun v i wr=>∃ k:Nat,k≤l.length∧i=.int .i64 k∧Own u8E wr w.heap.size v (scrL (l.take k))∧Below w.heap.size w wr∧(l.take k).all entOk=true) (fun _ i _=>l.length - (intOf i).toNat)
 case atStart=>exact⟨0,Nat.zero_le _,rfl,Own.nil _ _ _,Below.refl _ _,rfl⟩
 case round =>
  obtain⟨k,hk,rfl,hown,hB,hok⟩:=hrel
  by_cases hlt:k<l.length
  ·have hx:=HC.out.below' hB k hlt
   obtain⟨b,o,rfl,hd,hx0,hx1⟩:=hx;have HB:=k_ hB;clear hB;have HOK:=k_ hok;clear hok;have HO:=k_ hown;clear hown;obtain⟨x,hxe⟩:∃ x,x=l[k]:=⟨_,rfl⟩;rw[← hxe] at hx0 hx1;obtain⟨who,n⟩:=x;have hno:entOk ⟨who,n⟩=false→scrS l=(⟨#[]⟩,1):=fun h=>scrS_no l k hlt (by rw[← hxe];exact h)
   have hx0:wr.cell? ⟨b,o+k * 2,none⟩=some (.int .i64 who):=hx0;have hx1:wr.cell? ⟨b,o+k * 2+1,none⟩=some (.int .i64 n):=hx1;have HXE:=k_ hxe;have HE:=k_ (HB.out.alloc HB.out.size (.cells #[.int .i64 who,.int .i64 n] 29));clear hxe hd
   by_cases c1:who<0
   ·have HN:=k_ (hno (by unfold entOk;simp;omega));clear hno
    go_wp2_with fail
    go_ret2
    exact⟨by rw[HN.out];rfl,HE.out⟩
   by_cases c2:5<who
   ·have HN:=k_ (hno (by unfold entOk;simp;omega));clear hno
    go_wp2_with fail
    go_ret2
    exact⟨by rw[HN.out];rfl,HE.out⟩
   by_cases c3:n<0
   ·have HN:=k_ (hno (by unfold entOk;simp;omega));clear hno
    go_wp2_with fail
    go_ret2
    exact⟨by rw[HN.out];rfl,HE.out⟩
   by_cases c4:31<n
   ·have HN:=k_ (hno (by unfold entOk;simp;omega));clear hno
    go_wp2_with fail
    go_ret2
    exact⟨by rw[HN.out];rfl,HE.out⟩
   have hyes:entOk ⟨who,n⟩=true:=by unfold entOk;simp;omega
   have HY:=k_ hyes;clear hno hyes;have HBI:=k_ (bits_ent who n c1 c2 c3 c4)
   go_wp2_with (at_builtin;refine append_own u8E rfl (.tmp 31) (.tmp 40) rfl w.heap.size (scrL (l.take k)) [bits BinOp.or IntKind.u8 (who * 32) n] _ rfl ((HO.out.alloc _).alloc _) (wr.heap.size+1) 0 1 rfl (CellsAt.new' _ _ _ (by simp))  ?c1 ?c2 ?_)
   case c1=>rw[scrL_len];simp;omega
   case c2=>have:=HB.out.size;simp;omega
   intro v2 w2 hown2 hg2;have hB2:=k_ (below_grown (HE.out.alloc HE.out.size _) ((HO.out.alloc _).alloc _) hg2 (by have:=HB.out.size;simp;omega) (Nat.le_refl _));rw[HBI.out] at hown2;have HO2:=k_ hown2;clear hown2;clear hg2 hx0 hx1;go_wp2_with fail
   go_roundw
   case rel =>
    refine⟨k+1,by omega,by go_num,?_,hB2.out,?_⟩
    ·rw[take_snoc l k hlt,scrL_snoc,← HXE.out]
     exact HO2.out
    ·rw[take_snoc l k hlt,List.all_append,HOK.out,← HXE.out]
     simp[HY.out]
   case measure=>simp[intOf];omega
  ·have hk':k=l.length:=by omega
   subst hk';rw[List.take_length] at hown hok;have HB:=k_ hB;clear hB;have HO:=k_ hown;clear hown;have HL:=k_ (scrL_len l)
   by_cases h4:l.length≤4000
   ·have HR:=k_ (show scrS l=(bytesS (scrL l),0) from by unfold scrS;rw[hok,if_pos rfl,if_pos h4])
    have HTX:=k_ (own_str HO.out);obtain⟨g,cap,rfl,_⟩:=own_elems HO.out;rw[HL.out] at *;have hcv:=HTX.out;go_wp2_with fail
    go_ret2
    exact⟨by rw[HR.out];rfl,HB.out⟩
   ·have HR:=k_ (show scrS l=(⟨#[]⟩,5) from by unfold scrS;rw[hok,if_pos rfl,if_neg h4])
    obtain⟨g,cap,rfl,_⟩:=own_elems HO.out;rw[HL.out] at *;go_wp2_with fail
    go_ret2
    exact⟨by rw[HR.out];rfl,HB.out⟩
theorem scrS_ok (l:List Ent) (h:l.all entOk=true) (hl:l.length≤4000):scrS l=(bytesS (scrL l),0):=by
 unfold scrS;rw[h,if_pos rfl,if_pos hl]
theorem scrS_bad (l:List Ent) (h:l.all entOk=false):scrS l=(⟨#[]⟩,1):=by
 unfold scrS;rw[h];rfl
theorem bS_app (a b:List Int):bytesS a ++ bytesS b=bytesS (a ++ b):=by
 apply ByteArray.ext
 unfold bytesS
 simp
theorem run_byte1 (w:World) (x:Int):(convert 30 9 (.slice (some ⟨w.heap.size,0,none⟩) 1 1)).run Tryz.prog (w.alloc (.cells #[.int .u8 x] 5))=.ok (.string (bytesS [x])) (w.alloc (.cells #[.int .u8 x] 5)):=by
 refine run_str (P:=Tryz.prog) _ _ _ 5 _ 1 [x] Tryz.underlying30 Tryz.underlying5 Tryz.underlying9 ?_;intro j v hv
 match j,hv with
 | 0,hv=>show World.cell? _ ⟨w.heap.size,0,none⟩=_;rw[cell_new];exact hv
def entO (x:UInt8):Ent:=⟨((x.toNat:Nat):Int) / 32,((x.toNat:Nat):Int) % 32⟩
def entsL (b:ByteArray):List Ent:=b.data.toList.map entO
def entsOk (b:ByteArray):Bool:=b.data.toList.all (fun x=>decide ((entO x).who≤5))
def entsS (b:ByteArray):List Ent × Int:=if entsOk b then (if b.size≤4000 then (entsL b,0) else ([],5)) else ([],2)
theorem entsL_len (b:ByteArray):(entsL b).length=b.size:=by unfold entsL;rw[List.length_map,Array.length_toList];rfl
theorem and31E:∀ a:Fin 256,bits BinOp.and IntKind.u8 ((a.val:Nat):Int) 31=((a.val:Nat):Int) % 32:=by decide +kernel
theorem byte_at (b:ByteArray) (k:Nat) (h:k<b.size):∃ x:Int,(∃ u,b.data.toList[k]?=some u∧x=((u.toNat:Nat):Int))∧0≤x∧x≤255∧IntKind.i64.wrap (x / 32)=x / 32∧IntKind.i64.wrap (x % 32)=x % 32∧bits BinOp.and IntKind.u8 x 31=x % 32 ∧
  ∀ w,Sem.run Tryz.prog (Instr.index 9 (.string b) (.int .i64 k)) w=.ok (.int .u8 x) w:=by
 have hlt:b[k].toNat<256:=UInt8.toNat_lt _;refine⟨_,⟨b[k],?_,rfl⟩,by omega,by omega,by simp[IntKind.wrap,IntKind.signed,IntKind.bits];omega,by simp[IntKind.wrap,IntKind.signed,IntKind.bits];omega,and31E ⟨_,hlt⟩,fun w=>?_⟩
 ·rw[List.getElem?_eq_getElem (by simpa using h)];rfl
 ·rw[run_index_string w _ b .i64 k Tryz.underlying9,dif_pos ⟨by omega,by omega⟩]
  rfl
theorem entries_any (b:ByteArray) (w:World) (hl:b.size≤100000) :
  Calls Tryz.prog 9 #[.string b] w fun e w'=>∃ v,e=.returned (.tuple #[v,.int .i64 (entsS b).2])∧Own entE w' w.heap.size v (entsS b).1∧Below w.heap.size w w':=by
 go_enter Tryz.func9,Tryz.ntmps9
 go_wp2_with fail
 go_loopw [4,9] (fun v i wr=>∃ k:Nat,k≤b.size∧i=.int .i64 k∧Own entE wr w.heap.size v ((entsL b).take k)∧Below w.heap.size w wr∧(b.data.toList.take k).all (fun x=>decide ((entO x).who≤5))=true) (fun _ i _=>b.size - (intOf i).toNat)
 case atStart=>exact⟨0,Nat.zero_le _,rfl,Own.nil _ _ _,Below.refl _ _,rfl⟩
 case round =>
  obtain⟨k,hk,rfl,hown,hB,hok⟩:=hrel
  by_cases hlt:k<b.size
  ·have HB:=k_ hB;clear hB
   have HOK:=k_ hok;clear hok;have HO:=k_ hown;clear hown;obtain⟨x,hx,x0,x1,hw1,hw2,hb31,hix⟩:=byte_at b k hlt
   have HX:=k_ hx;clear hx
   go_upto_region 5 with fail
   refine wp_region_noPanic ?_;refine wp_region_held_drew (S:=fun w'=>Below wr.heap.size wr w') (by kernel_rfl) (Below.refl _ _).drew (fun _=>?_);have HR1:=k_ (Below.refl wr.heap.size wr).drew;have hs1:wr.drew.heap.size=wr.heap.size:=rfl;have HS1:=k_ hs1;clear hs1;have HO1:=k_ (HO.out.drew);have HB1:=k_ (HB.out.drew);generalize wr.drew=r1 at *;refine wpAnyH_take (i:=0) (v:=?_) rfl (by kernel_rfl) (by kernel_rfl) (by kernel_rfl) (fun _ _ _ h=>h) (Or.inl ⟨by kernel_rfl,?tq0⟩) HR1.out ?_
   case tq0=>(intro wq hq;go_simp;first | done | with_reducible rfl)
   refine wpAnyH_take (i:=1) (v:=?_) rfl (by kernel_rfl) (by kernel_rfl) (by kernel_rfl) (fun _ _ _ h=>h) (Or.inl ⟨by kernel_rfl,?tq1⟩) HR1.out ?_
   case tq1=>(intro wq hq;go_simp;first | done | with_reducible rfl)
   refine wpAnyH_take (i:=2) (v:=?_) rfl (by kernel_rfl) (by kernel_rfl) (by kernel_rfl) (fun _ _ _ h=>h) (Or.inl ⟨by kernel_rfl,?tq2⟩) HR1.out ?_
   case tq2=>(intro wq hq;go_simp;first | done | with_reducible rfl)
   refine wpAnyH_take (i:=3) (v:=?_) rfl (by kernel_rfl) (by kernel_rfl) (by kernel_rfl) (fun _ _ _ h=>h) (Or.inl ⟨by kernel_rfl,?tq3⟩) HR1.out ?_
   case tq3=>(intro wq hq;go_simp;first | done | with_reducible rfl)
   refine wpAnyH_take (i:=4) (v:=?_) rfl (by kernel_rfl) (by kernel_rfl) (by kernel_rfl) (fun _ _ _ h=>h) (Or.inl ⟨by kernel_rfl,?tq4⟩) HR1.out ?_
   case tq4=>(intro wq hq;go_simp;first | done | with_reducible rfl)
   refine wpAnyH_take (i:=5) (v:=?_) rfl (by kernel_rfl) (by kernel_rfl) (by kernel_rfl) (fun _ _ _ h=>h) (Or.inl ⟨by kernel_rfl,?tq5⟩) HR1.out ?_
   case tq5=>(intro wq hq;go_simp;first | done | with_reducible rfl)
   refine wpAnyH_take (i:=6) (v:=?_) rfl (by kernel_rfl) (by kernel_rfl) (by kernel_rfl) (fun _ _ _ h=>h) (Or.inl ⟨by kernel_rfl,?tq6⟩) HR1.out ?_
   case tq6=>(intro wq hq;go_simp;first | done | with_reducible rfl)
   refine wpAnyH_take (i:=7) (v:=?_) rfl (by kernel_rfl) (by kernel_rfl) (by kernel_rfl) (fun _ _ _ h=>h) (Or.inl ⟨by kernel_rfl,?tq7⟩) HR1.out ?_
   case tq7=>(intro wq hq;go_simp;first | done | with_reducible rfl)
   refine wpAnyH_take (i:=8) (v:=?_) rfl (by kernel_rfl) (by kernel_rfl) (by kernel_rfl) (fun _ _ _ h=>h) (Or.inl ⟨by kernel_rfl,?tq8⟩) HR1.out ?_
   case tq8=>(intro wq hq;go_simp;first | done | with_reducible rfl)
   refine wpAnyH_take (i:=9) (v:=?_) rfl (by kernel_rfl) (by kernel_rfl) (by kernel_rfl) (fun _ _ _ h=>h) (Or.inl ⟨by kernel_rfl,?tq9⟩) HR1.out ?_
   case tq9=>(intro wq hq;go_simp;first | done | with_reducible rfl)
   refine wpAnyH_take (i:=10) (v:=?_) rfl (by kernel_rfl) (by kernel_rfl) (by kernel_rfl) (fun _ _ _ h=>h) (Or.inl ⟨by kernel_rfl,?tq10⟩) HR1.out ?_
   case tq10=>(intro wq hq;go_simp;first | done | with_reducible rfl)
   refine wpAnyH_ready (rs:=[11]) (by kernel_rfl) (by simp) ?_;refine(AllReadyH.cons rfl (fun K hK=>?_) AllReadyH.nil);go_simp;obtain⟨r2,hr2⟩:∃ u,u=r1.alloc (.cells #[.int .i64 0,.int .i64 0] 29):=⟨_,rfl⟩;have hcl:=heap_new r1 (.cells #[.int .i64 0,.int .i64 0] 29);have hba:Below r1.heap.size r1 r2:=by rw[hr2];exact(Below.refl _ _).alloc (Nat.le_refl _) _
   rw[← hr2] at hcl ⊢;have HO2:=k_ (HO1.out.below hba);have HB2:=k_ (HB1.out.trans (hba.mono HB1.out.size));have HR2:=k_ (HR1.out.trans (hba.mono HR1.out.size));have hn:wr.heap.size≤r1.heap.size:=HR1.out.size;have hlt2:r1.heap.size<r2.heap.size:=by rw[hr2];simp
   obtain⟨z,hz⟩:∃ z,z=r1.heap.size:=⟨_,rfl⟩;rw[← hz] at hcl hn hlt2 ⊢;have hc0:r2.cell? ⟨z,0,none⟩=some (.int .i64 0):=by simp[World.cell?,hcl]
   have hc1:r2.cell? ⟨z,1,none⟩=some (.int .i64 0):=by simp[World.cell?,hcl]
   have hf0:r2.frozen? ⟨z,0,none⟩=false:=by simp[World.frozen?,hcl]
   have hf1:r2.frozen? ⟨z,1,none⟩=false:=by simp[World.frozen?,hcl]
   refine hK.out _ _ HR2.out (fun _=>?_);clear hK K hr2 hba HO1 HB1 HR1 HS1 hz;refine wpAnyH_ready (rs:=[12]) (by kernel_rfl) (by simp) ?_;refine(AllReadyH.cons rfl (fun K hK=>?_) AllReadyH.nil);go_simp;have hb3:Below wr.heap.size wr ((r2.setCell ⟨z,0,none⟩ (.int .i64 (x / 32))).setCell ⟨z,1,none⟩ (.int .i64 (x % 32))):=(HR2.out.setCell hn _).setCell hn _;have d0:((r2.setCell ⟨z,0,none⟩ (.int .i64 (x / 32))).setCell ⟨z,1,none⟩ (.int .i64 (x % 32))).cell? ⟨z,0,none⟩=some (.int .i64 (x / 32)):=by
    rw[World.cell?_setCell_other (h:=by simp),World.cell?_setCell_same (h:=hc0)]
   have d1:((r2.setCell ⟨z,0,none⟩ (.int .i64 (x / 32))).setCell ⟨z,1,none⟩ (.int .i64 (x % 32))).cell? ⟨z,1,none⟩=some (.int .i64 (x % 32)):=by
    rw[World.cell?_setCell_same (h:=by rw[World.cell?_setCell_other (h:=by simp)];exact hc1)]
   refine hK.out _ _ hb3 (fun _=>?_);clear hK K;generalize ((r2.setCell ⟨z,0,none⟩ (.int .i64 (x / 32))).setCell ⟨z,1,none⟩ (.int .i64 (x % 32)))=r3 at *;clear hcl hc0 hc1 hf0 hf1 hlt2 HO2 HB2 HR2;have HO3:=k_ (HO.out.below hb3);have HB3:=k_ (HB.out.trans (hb3.mono HB.out.size));clear HO HB;refine wpAnyH_done (by kernel_rfl) ?_ _;refine NoPanic.normal ?_;clear hb3 hn hix hw1 hw2 hb31;obtain⟨u,hu,hxu⟩:=HX.out;have hxx:entO u=⟨x / 32,x % 32⟩:=by unfold entO;rw[← hxu]
   by_cases h5:5<x / 32
   ·have HN:=k_ (show entsS b=([],2) from by
     have:entsOk b=false:=by
      unfold entsOk;rw[List.all_eq_false];exact⟨u,List.mem_of_getElem? hu,by rw[hxx];simp;omega⟩
     unfold entsS;rw[this];rfl)
    clear hu hxu hxx;go_wp2_with fail
    go_ret2
    exact⟨_,by rw[HN.out];rfl,by rw[HN.out];exact Own.nil _ _ _,HB3.out⟩
   ·have HU:=k_ hu
    have HXX:=k_ hxx;clear hu hxu hxx
    go_wp2_with (at_builtin;refine append_own entE rfl (.tmp 26) (.tmp 28) rfl w.heap.size ((entsL b).take k) [⟨x / 32,x % 32⟩] _ rfl (HO3.out.alloc _) r3.heap.size 0 1 rfl (CellsAt.new _ _ _ _) ?c1 ?c2 ?_)
    case c1=>simp[entsL_len];omega
    case c2=>have:=HB3.out.size;simp;omega
    intro v4 w4 hown4 hg4;have hB4:=k_ (below_grown (HB3.out.alloc HB3.out.size _) (HO3.out.alloc _) hg4 (by have:=HB3.out.size;simp;omega) (Nat.le_refl _));have HO4:=k_ hown4;clear hown4;clear hg4;go_wp2_with fail
    go_roundw
    case rel =>
     refine⟨k+1,by omega,by go_num,?_,hB4.out,?_⟩
     ·rw[List.take_add_one,show (entsL b)[k]?=some ⟨x / 32,x % 32⟩ from by unfold entsL;rw[List.getElem?_map,HU.out,← HXX.out];rfl]
      exact HO4.out
     ·rw[List.take_add_one,HU.out,List.all_append,HOK.out]
      simp[HXX.out];omega
    case measure=>simp[intOf];omega
  ·have hk':k=b.size:=by omega
   subst hk';rw[List.take_of_length_le (Nat.le_of_eq (entsL_len b))] at hown;rw[List.take_of_length_le (Nat.le_of_eq (by rw[Array.length_toList];rfl))] at hok;have HB:=k_ hB;clear hB;have HO:=k_ hown;clear hown;obtain⟨g,cap,rfl,_⟩:=own_elems HO.out;have HL:=k_ (entsL_len b);rw[HL.out] at *
   by_cases h4:b.size≤4000
   ·have HR:=k_ (show entsS b=(entsL b,0) from by unfold entsS;rw[show entsOk b=true from hok,if_pos rfl,if_pos h4])
    go_wp2_with fail
    go_ret2
    exact⟨_,by rw[HR.out];rfl,by rw[HR.out];have h:=HO.out;rw[entsL_len] at h;exact h,HB.out⟩
   ·have HR:=k_ (show entsS b=([],5) from by unfold entsS;rw[show entsOk b=true from hok,if_pos rfl,if_neg h4])
    go_wp2_with fail
    go_ret2
    exact⟨_,by rw[HR.out];rfl,by rw[HR.out];exact Own.nil _ _ _,HB.out⟩
theorem rentries_any (b:ByteArray) (w:World) (hl:b.size≤100000) :
  Calls Tryz.prog 10 #[.string b] w fun e w'=>∃ v,e=.returned (.tuple #[v,.int .i64 (entsS b).2])∧Own entE w' w.heap.size v (entsS b).1∧Below w.heap.size w w':=by
 go_enter Tryz.func10,Tryz.ntmps10
 go_wp2_with fail
 go_loopw [4,5] (fun v i wr=>∃ k:Nat,k≤b.size∧i=.int .i64 k∧Own entE wr w.heap.size v ((entsL b).take k)∧Below w.heap.size w wr∧(b.data.toList.take k).all (fun x=>decide ((entO x).who≤5))=true) (fun _ i _=>b.size - (intOf i).toNat)
 case atStart=>exact⟨0,Nat.zero_le _,rfl,Own.nil _ _ _,Below.refl _ _,rfl⟩
 case round =>
  obtain⟨k,hk,rfl,hown,hB,hok⟩:=hrel
  by_cases hlt:k<b.size
  ·have HB:=k_ hB;clear hB
   have HOK:=k_ hok;clear hok;have HO:=k_ hown;clear hown;obtain⟨x,hx,x0,x1,hw1,hw2,hb31,hix⟩:=byte_at b k hlt
   obtain⟨u,hu,hxu⟩:=hx;have hxx:entO u=⟨x / 32,x % 32⟩:=by unfold entO;rw[← hxu]
   clear hb31
   by_cases h5:5<x / 32
   ·have HN:=k_ (show entsS b=([],2) from by
     have:entsOk b=false:=by
      unfold entsOk;rw[List.all_eq_false];exact⟨u,List.mem_of_getElem? hu,by rw[hxx];simp;omega⟩
     unfold entsS;rw[this];rfl)
    clear hu hxu hxx;go_wp2_with fail
    go_ret2
    exact⟨_,by rw[HN.out];rfl,by rw[HN.out];exact Own.nil _ _ _,HB.out⟩
   ·have HU:=k_ hu
    have HXX:=k_ hxx;clear hu hxu hxx;have HQ1:=k_ (show IntKind.i64.wrap (IntKind.u8.wrap (x.tdiv 32))=x / 32 from by rw[Int.tdiv_eq_ediv_of_nonneg x0];simp[IntKind.wrap,IntKind.signed,IntKind.bits];omega);have HQ2:=k_ (show IntKind.i64.wrap (x.tmod 32)=x % 32 from by rw[Int.tmod_eq_emod_of_nonneg x0];exact hw2)
    go_upto_region 7 with fail
    refine wp_region_noPanic ?_;refine wp_region_held_drew (S:=fun w'=>Below w.heap.size w w') (by kernel_rfl) HB.out.drew (fun _=>?_);have HO1:=k_ (HO.out.drew);have HB1:=k_ (HB.out.drew);generalize wr.drew=r1 at *;refine wpAnyH_take (i:=0) (v:=?_) rfl (by kernel_rfl) (by kernel_rfl) (by kernel_rfl) (fun _ _ _ h=>h) (Or.inl ⟨by kernel_rfl,?tq0⟩) HB1.out ?_
    case tq0=>(intro wq hq;go_simp;first | done | with_reducible rfl)
    refine wpAnyH_take (i:=1) (v:=?_) rfl (by kernel_rfl) (by kernel_rfl) (by kernel_rfl) (fun _ _ _ h=>h) (Or.inl ⟨by kernel_rfl,?tq1⟩) HB1.out ?_
    case tq1=>(intro wq hq;go_simp;first | done | with_reducible rfl)
    refine wpAnyH_take (i:=2) (v:=?_) rfl (by kernel_rfl) (by kernel_rfl) (by kernel_rfl) (fun _ _ _ h=>h) (Or.inl ⟨by kernel_rfl,?tq2⟩) HB1.out ?_
    case tq2=>(intro wq hq;go_simp;first | done | with_reducible rfl)
    refine wpAnyH_take (i:=3) (v:=?_) rfl (by kernel_rfl) (by kernel_rfl) (by kernel_rfl) (fun _ _ _ h=>h) (Or.inl ⟨by kernel_rfl,?tq3⟩) HB1.out ?_
    case tq3=>(intro wq hq;go_simp;first | done | with_reducible rfl)
    refine wpAnyH_take (i:=4) (v:=?_) rfl (by kernel_rfl) (by kernel_rfl) (by kernel_rfl) (fun _ _ _ h=>h) (Or.inl ⟨by kernel_rfl,?tq4⟩) HB1.out ?_
    case tq4=>(intro wq hq;go_simp;first | done | with_reducible rfl)
    refine wpAnyH_take (i:=5) (v:=?_) rfl (by kernel_rfl) (by kernel_rfl) (by kernel_rfl) (fun _ _ _ h=>h) (Or.inl ⟨by kernel_rfl,?tq5⟩) HB1.out ?_
    case tq5=>(intro wq hq;go_simp;first | done | with_reducible rfl)
    refine wpAnyH_take (i:=6) (v:=?_) rfl (by kernel_rfl) (by kernel_rfl) (by kernel_rfl) (fun _ _ _ h=>h) (Or.inl ⟨by kernel_rfl,?tq6⟩) HB1.out ?_
    case tq6=>(intro wq hq;go_simp;first | done | with_reducible rfl)
    refine wpAnyH_take (i:=7) (v:=?_) rfl (by kernel_rfl) (by kernel_rfl) (by kernel_rfl) (fun _ _ _ h=>h) (Or.inl ⟨by kernel_rfl,?tq7⟩) HB1.out ?_
    case tq7=>(intro wq hq;go_simp;first | done | with_reducible rfl)
    refine wpAnyH_take (i:=8) (v:=?_) rfl (by kernel_rfl) (by kernel_rfl) (by kernel_rfl) (fun _ _ _ h=>h) (Or.inl ⟨by kernel_rfl,?tq8⟩) HB1.out ?_
    case tq8=>(intro wq hq;go_simp;first | done | with_reducible rfl)
    refine wpAnyH_take (i:=9) (v:=?_) rfl (by kernel_rfl) (by kernel_rfl) (by kernel_rfl) (fun _ _ _ h=>h) (Or.inl ⟨by kernel_rfl,?tq9⟩) HB1.out ?_
    case tq9=>(intro wq hq;go_simp;first | done | with_reducible rfl)
    refine wpAnyH_take (i:=10) (v:=?_) rfl (by kernel_rfl) (by kernel_rfl) (by kernel_rfl) (fun _ _ _ h=>h) (Or.inl ⟨by kernel_rfl,?tq10⟩) HB1.out ?_
    case tq10=>(intro wq hq;go_simp;first | done | with_reducible rfl)
    refine wpAnyH_take (i:=11) (v:=?_) rfl (by kernel_rfl) (by kernel_rfl) (by kernel_rfl) (fun _ _ _ h=>h) (Or.inl ⟨by kernel_rfl,?tq11⟩) HB1.out ?_
    case tq11=>(intro wq hq;go_simp;first | done | with_reducible rfl)
    refine wpAnyH_ready (rs:=[12]) (by kernel_rfl) (by simp) ?_;refine(AllReadyH.cons rfl (fun K hK=>?_) AllReadyH.nil);go_simp;rw[HQ1.out,HQ2.out];obtain⟨r2,hr2⟩:∃ u,u=r1.alloc (.cells #[.int .i64 (x / 32),.int .i64 (x % 32)] 29):=⟨_,rfl⟩;have hcl:CellsAt r2 r1.heap.size 0 ([(⟨x / 32,x % 32⟩:Ent)].flatMap entE.enc):=by rw[hr2];exact CellsAt.new _ _ _ _
    have hba:Below r1.heap.size r1 r2:=by rw[hr2];exact(Below.refl _ _).alloc (Nat.le_refl _) _
    rw[← hr2];have HO2:=k_ (HO1.out.below hba);have HB2:=k_ (HB1.out.trans (hba.mono HB1.out.size));obtain⟨z,hz⟩:∃ z,z=r1.heap.size:=⟨_,rfl⟩;rw[← hz] at hcl ⊢;have HCL:=k_ hcl;refine hK.out _ _ HB2.out (fun _=>?_);clear hK K hr2 hba HO1 HB1 hz hcl;refine wpAnyH_ready (rs:=[13]) (by kernel_rfl) (by simp) ?_;refine(AllReadyH.cons rfl (fun K hK=>?_) AllReadyH.nil);have hsz:=HB2.out.size;refine step_append_fresh entE rfl (.tmp 17) (.tmp 29) rfl w.heap.size ((entsL b).take k) [⟨x / 32,x % 32⟩] _ rfl HO2.out z 0 1 rfl HCL.out (by simp[entsL_len];omega) hsz ?_;intro v4 w4 hown4 hg4 hf4;have hB4:=k_ (below_grown HB2.out HO2.out hg4 hsz (Nat.le_refl _));have HO4:=k_ hown4;clear hown4;refine hK.out _ _ hB4.out (fun _=>?_);clear hK K hg4 hf4;refine wpAnyH_ready (rs:=[14]) (by kernel_rfl) (by simp) ?_;refine(AllReadyH.cons rfl (fun K hK=>?_) AllReadyH.nil);go_simp;refine hK.out _ _ hB4.out (fun _=>?_);clear hK K;refine wpAnyH_done (by kernel_rfl) ?_ _;refine NoPanic.normal ?_;go_wp2_with fail
    go_roundw
    case rel =>
     refine⟨k+1,by omega,by go_num,?_,hB4.out,?_⟩
     ·rw[List.take_add_one,show (entsL b)[k]?=some ⟨x / 32,x % 32⟩ from by unfold entsL;rw[List.getElem?_map,HU.out,← HXX.out];rfl]
      exact HO4.out
     ·rw[List.take_add_one,HU.out,List.all_append,HOK.out]
      simp[HXX.out];omega
    case measure=>simp[intOf];omega
  ·have hk':k=b.size:=by omega
   subst hk';rw[List.take_of_length_le (Nat.le_of_eq (entsL_len b))] at hown;rw[List.take_of_length_le (Nat.le_of_eq (by rw[Array.length_toList];rfl))] at hok;have HB:=k_ hB;clear hB;have HO:=k_ hown;clear hown;obtain⟨g,cap,rfl,_⟩:=own_elems HO.out;have HL:=k_ (entsL_len b);rw[HL.out] at *
   by_cases h4:b.size≤4000
   ·have HR:=k_ (show entsS b=(entsL b,0) from by unfold entsS;rw[show entsOk b=true from hok,if_pos rfl,if_pos h4])
    go_wp2_with fail
    go_ret2
    exact⟨_,by rw[HR.out];rfl,by rw[HR.out];have h:=HO.out;rw[entsL_len] at h;exact h,HB.out⟩
   ·have HR:=k_ (show entsS b=([],5) from by unfold entsS;rw[show entsOk b=true from hok,if_pos rfl,if_neg h4])
    go_wp2_with fail
    go_ret2
    exact⟨_,by rw[HR.out];rfl,by rw[HR.out];exact Own.nil _ _ _,HB.out⟩
end Go.Proofs.YtlofbhoicbemnaaGreatDoor
