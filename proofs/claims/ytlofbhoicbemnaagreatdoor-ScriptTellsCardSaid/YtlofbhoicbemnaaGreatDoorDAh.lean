/- Families of lists that one owns, none of which lies in another's memory. Nothing of the program's text stands here. Walks: the book's .. -/
import Derived.Test.YtlofbhoicbemnaaGreatDoorDAf
import Derived.Test.YtlofbhoicbemnaaGreatDoorDAg
set_option linter.unusedVariables false
set_option linter.unusedSimpArgs false
set_option maxRecDepth 100000
set_option maxHeartbeats 3200000
namespace Go.Proofs.YtlofbhoicbemnaaGreatDoor
open Go.RowKit
variable {P:Program} {α:Type}
theorem run_append_keep (E:Elem P α) (w:World) (ty:TypeId) (B:Nat) (l m:List α) (v:Value) (hown:Own E w B v l) (b of c:Nat)
  (hm:CellsAt w b of (m.flatMap E.enc)) (hlen:l.length+m.length≤100000000) (hB:B≤w.heap.size) :
  ∃ v' w',(Builtin.append_ #[E.t,E.t] ty #[v,.slice (some ⟨b,of,none⟩) m.length c]).run P w=.ok v' w'∧Own E w' B v' (l ++ m)∧w.grownBy w' v.ownBlock∧Fresh w v v'∧Own E w' B v l:=by
 obtain⟨v',w',hr,h2,h3,h4⟩:=run_append_fresh E w ty B l m v hown b of c hm hlen hB;refine⟨v',w',hr,h2,h3,h4,?_⟩;obtain⟨i0,hi,hz0,hz1,hz2⟩:=info_parts E.info;have hnews:∀ j u,(m.flatMap E.enc)[j]?=some u→w.cell? ((⟨b,of,none⟩:Addr).add j)=some u:=by
  intro j u hj;have:=hm j u hj;unfold Addr.add
  by_cases h0:j=0
  ·subst h0;rw[if_pos rfl];exact this
  ·rw[if_neg h0];exact this
 have h1:∀ u ∈ m.flatMap E.enc,u.oneCell'=true:=by
  intro u hu;obtain⟨y,_,hy⟩:=List.mem_flatMap.1 hu;exact E.hone y u hy
 have hby:(l.length+m.length) * E.bytes≤140737488355328:=by
  have h1:=E.hby;have h2:(l.length+m.length) * E.bytes≤100000000 * 1000:=Nat.mul_le_mul hlen h1
  omega
 have hown0:=hown;obtain⟨hxl,hrow⟩:=hown;refine⟨hxl,?_⟩
 rcases hrow with hnil | ⟨g,cap,cur,rfl,hbg,hg,hnc,hcm,hcs,htake⟩
 ·exact .inl hnil
 ·right
  by_cases hroom:l.length+m.length≤cap
  ·have hfit:l.length * i0.size+(m.flatMap E.enc).length≤cur.size:=by rw[E.len m,hcs,hz1,← Nat.add_mul];exact Nat.mul_le_mul_right _ hroom
   have hr2:=run_append_room (P:=P) w E.t ty E.e i0 E.ht hi g l.length cap cur hg ⟨b,of,none⟩ m.length c (m.flatMap E.enc) (by rw[hz1];exact E.len m) hnews h1 hroom hfit;rw[hr] at hr2
   injection hr2 with e1 e2
   subst e1;obtain⟨_,hrow2⟩:=h2
   rcases hrow2 with⟨hc,_⟩ | ⟨g2,cap2,cur2,hv2,hbg2,hg2,hnc2,hcm2,hcs2,htake2⟩
   ·cases hc
   ·injection hv2 with q1 q2 q3
    injection q1 with q1
    injection q1 with q1
    subst q1 q3;refine⟨g,cap,cur2,rfl,hbg,hg2,hnc,hcm,hcs2,?_⟩;have:(cur2.toList.take ((l ++ m).length * E.size)).take (l.length * E.size)=l.flatMap E.enc:=by
     rw[htake2,List.flatMap_append,List.take_append_of_le_length (by rw[E.len l];exact Nat.le_refl _),List.take_of_length_le (by rw[E.len l];exact Nat.le_refl _)]
    rw[List.take_take] at this;rw[← this]
    congr 1
    rw[Nat.min_eq_left];exact Nat.mul_le_mul_right _ (by simp)
  ·have holds:∀ j u,(l.flatMap E.enc)[j]?=some u→w.cell? ((⟨g,0,none⟩:Addr).add j)=some u:=World.ownsRow.cells (g:=g) hown0 rfl
   have hr2:=run_append_grow (P:=P) w E.t ty E.e i0 E.zero E.ht hi hz0 ⟨g,0,none⟩ l.length cap (l.flatMap E.enc) (by rw[hz1];exact E.len l) holds ⟨b,of,none⟩ m.length c (m.flatMap E.enc) (by rw[hz1];exact E.len m) hnews (by omega) (by omega) (growslice_fits (by omega) (by rw[hz2];exact hby));rw[hr] at hr2
   injection hr2 with e1 e2
   refine⟨g,cap,cur,rfl,hbg,?_,hnc,hcm,hcs,htake⟩;rw[e2,Below.heap_alloc _ _ _ (heap_lt (w:=w.drew) hg)];exact hg
theorem append_keep (E:Elem P α) {ops:Array Oper} {rest:List Oper} {o:Oper} {a:Act} {Q:Exit→Act→World→Prop} {w:World} (hgd:o.guard=none) (s x:Operand)
  (ho:o.op=.call { callee:=.builtin .append,args:=#[s,x],argTypes:=#[E.t,E.t] })
  (B:Nat) (l m:List α) (v:Value) (hs:a.eval s=v) (hown:Own E w B v l) (b of c:Nat) (hx:a.eval x=.slice (some ⟨b,of,none⟩) m.length c)
  (hm:CellsAt w b of (m.flatMap E.enc)) (hlen:l.length+m.length≤100000000) (hB:B≤w.heap.size)
  (h:∀ v' w',Own E w' B v' (l ++ m)→w.grownBy w' v.ownBlock→Fresh w v v'→Own E w' B v l→wpList P ops Q rest (a.put o.dst v') w'):wpList P ops Q (o :: rest) a w :=
 wpList_plain hgd fun _ hK=>by
  obtain⟨v',w',hr,h2,h3,h4,h5⟩:=run_append_keep E w o.type B l m v hown b of c hm hlen hB;unfold Oper.wp execOp;simp only[ho,resolve,invoke,builtin,Sem.run_bind,Sem.run_pure,Result.andThen_ok,List.map_toArray,List.map_cons,List.map_nil,hs,hx,hr];exact hK _ _ (h v' w' h2 h3 h4 h5)
theorem Own.cells {E:Elem P α} {w:World} {B:Nat} {v:Value} {l:List α} (h:Own E w B v l) (hne:1≤l.length):∃ g c,v=.slice (some ⟨g,0,none⟩) l.length c∧B≤g∧g<w.heap.size∧CellsAt w g 0 (l.flatMap E.enc):=by
 have hc:=fun g hg=>World.ownsRow.cells (g:=g) h hg
 have hlt:=fun k hk=>h.lt (k:=k) hk
 obtain⟨h1,h2⟩:=h
 rcases h2 with⟨rfl,h0⟩ | ⟨g,cap,cur,rfl,hg,hh,hr⟩
 ·omega
 ·refine⟨g,cap,rfl,hg,(hlt g rfl).2,fun j u hj=>?_⟩
  have:=hc g rfl j u hj;unfold Addr.add at this
  split at this
  ·subst j;exact this
  ·simpa using this
theorem ownsRow_set {w:World} {base:Nat} {e:TypeId} {size g n c:Nat} {xs:List Value} (h:w.ownsRow base e size (.slice (some ⟨g,0,none⟩) n c) n xs) (m:Nat) (u:Value) :
  (w.setCell ⟨g,m,none⟩ u).ownsRow base e size (.slice (some ⟨g,0,none⟩) n c) n (xs.set m u):=by
 obtain⟨h1,h2⟩:=h;refine⟨by rw[List.length_set];exact h1,?_⟩
 rcases h2 with⟨hc,_⟩ | ⟨g',cap,cur,hv,hbg,hg,hnc,hcm,hcs,htake⟩
 ·cases hc
 ·injection hv with q1 q2 q3
  injection q1 with q1
  injection q1 with q1
  subst q1 q3;refine .inr ⟨g,c,cur.setIfInBounds m u,rfl,hbg,?_,hnc,hcm,by simpa using hcs,?_⟩
  ·simp only[World.setCell,Array.getElem?_modify,if_pos rfl,hg,Option.map]
   rfl
  ·rw[← htake]
   simp[List.take_set]
def Disj (hs:List Hd):Prop:=∀ i j (hi:i<hs.length) (hj:j<hs.length),i≠j→∀ k,hs[i].val.ownBlock=some k→hs[j].val.ownBlock≠some k
structure Fam (E:Elem P α) (HE:Elem P Hd) (w:World) (B:Nat) (X:Nat→Prop) (v:Value) (hs:List Hd) (ls:List (List α)):Prop where
 own:Own HE w B v hs
 len:hs.length=ls.length
 each:∀ j (h:j<hs.length) (h':j<ls.length),Own E w B hs[j].val ls[j]
 apart:Disj hs
 row:∀ k,v.ownBlock=some k→X k
 mem:∀ j (h:j<hs.length) k,hs[j].val.ownBlock=some k→X k∧v.ownBlock≠some k
variable {E:Elem P α} {HE:Elem P Hd} {w w':World} {B:Nat} {X:Nat→Prop} {v:Value} {hs:List Hd} {ls:List (List α)}
theorem Fam.nil (E:Elem P α) (HE:Elem P Hd) (w:World) (B:Nat) (X:Nat→Prop):Fam E HE w B X (.slice none 0 0) [] [] :=
 ⟨Own.nil _ _ _,rfl,fun j hj _=>(by cases hj),fun i j hi _ _=>(by cases hi),fun k h=>(by simp[Value.ownBlock] at h),fun j hj=>(by cases hj)⟩
theorem Fam.fr {F:Nat→Prop} (h:Fam E HE w B X v hs ls) (hf:Fr F w w') (hX:∀ k,X k→¬ F k):Fam E HE w' B X v hs ls :=
 ⟨h.own.fr hf (fun k hk=>hX k (h.row k hk)),h.len,fun j hj hj'=>(h.each j hj hj').fr hf (fun k hk=>hX k (h.mem j hj k hk).1),h.apart,h.row,h.mem⟩
theorem Fam.slice (h:Fam E HE w B X v hs ls):∃ a c,v=.slice a ls.length c:=by
 obtain⟨a,c,hv,_⟩:=own_elems h.own;exact⟨a,c,by rw[hv,h.len]⟩
theorem Fam.head (h:Fam E HE w B X v hs ls) (hsz:HE.size=1) (henc:∀ x,HE.enc x=[x.val]) (j:Nat) (hj:j<ls.length) :
  ∃ g c,v=.slice (some ⟨g,0,none⟩) ls.length c∧X g∧∃ hj':j<hs.length,w.cell? ⟨g,j,none⟩=some hs[j].val∧Own E w B hs[j].val ls[j]:=by
 obtain⟨a,c,hv,hel⟩:=own_elems h.own;have hj':j<hs.length:=by rw[h.len];exact hj
 obtain⟨b,h1,h2,h3⟩:=hel j hj';refine⟨b,c,by rw[hv,h1,h.len],h.row b h2,hj',?_,h.each j hj' hj⟩;have:=h3 0 hs[j].val (by rw[henc];rfl);rw[hsz] at this
 simpa using this
theorem Fam.upd (h:Fam E HE w B X v hs ls) (i:Nat) (hi:i<hs.length) (l':List α) (hf:Fr (fun k=>hs[i].val.ownBlock=some k) w w') (ho:Own E w' B hs[i].val l'):Fam E HE w' B X v hs (ls.set i l'):=by
 refine⟨h.own.fr hf (fun k hk hk2=>(h.mem i hi k hk2).2 hk),by rw[List.length_set];exact h.len,fun j hj hj'=>?_,h.apart,h.row,h.mem⟩
 by_cases hij:i=j
 ·subst hij;rw[List.getElem_set_self];exact ho
 ·rw[List.getElem_set_ne hij]
  exact(h.each j hj (by simpa using hj')).fr hf (fun k hk hk2=>h.apart i j hi hj hij k hk2 hk)
end Go.Proofs.YtlofbhoicbemnaaGreatDoor
namespace Go.Proofs.YtlofbhoicbemnaaGreatDoor
open Go.ChangeShapes Go.WideShapes Go.ChangeAt Go.RowKit
def marks {α:Type} (mk:Nat→Nat→α) (i f n:Nat):List α:=(List.range n).map fun t=>mk i (f+t)
theorem marks_succ {α:Type} (mk:Nat→Nat→α) (i f n:Nat):marks mk i f (n+1)=marks mk i f n ++ [mk i (f+n)]:=by simp[marks,List.range_succ]
theorem marks_len {α:Type} (mk:Nat→Nat→α) (i f n:Nat):(marks mk i f n).length=n:=by simp[marks]
theorem marks_add {α:Type} (mk:Nat→Nat→α) (i n m:Nat):marks mk i 0 (n+m)=marks mk i 0 n ++ marks mk i n m:=by
 induction m with
 | zero=>simp[marks]
 | succ m ih=>rw[← Nat.add_assoc,marks_succ,ih,marks_succ,List.append_assoc,Nat.zero_add]
theorem marks_get {α:Type} (mk:Nat→Nat→α) (i f n j:Nat) (h:j<(marks mk i f n).length):(marks mk i f n)[j]=mk i (f+j):=by simp[marks]
theorem run_append_none {P:Program} {α:Type} (E:Elem P α) (w:World) (ty:TypeId) (b:Option Addr) (c:Nat):(Builtin.append_ #[E.t,E.t] ty #[.slice none 0 0,.slice b 0 c]).run P w=.ok (.slice none 0 0) w:=by
 obtain⟨i0,hi,hz0,hz1,hz2⟩:=info_parts E.info
 cases b with
 | none=>simp[Builtin.append_,run_underlying E.ht,sizeOf,typeInfo,hi,Builtin.lenOf,Builtin.firstCells]
 | some a =>
   have hf:=run_firstCells_some (P:=P) w i0.size 0 a 0 c [] (by simp) (by simp)
   simp[Builtin.append_,run_underlying E.ht,sizeOf,typeInfo,hi,Builtin.lenOf,hf]
theorem append_none_any {P:Program} {α:Type} (E:Elem P α) {ops:Array Oper} {rest:List Oper} {o:Oper} {a:Act} {Q:Exit→Act→World→Prop} {w:World} (hgd:o.guard=none) (s x:Operand)
  (ho:o.op=.call { callee:=.builtin .append,args:=#[s,x],argTypes:=#[E.t,E.t] }) (hs:a.eval s=.slice none 0 0) (b:Option Addr) (c:Nat) (hx:a.eval x=.slice b 0 c)
  (h:wpList P ops Q rest (a.put o.dst (.slice none 0 0)) w):wpList P ops Q (o :: rest) a w :=
 wpList_plain hgd fun _ hK=>by
  have hr:=run_append_none E w o.type b c;unfold Oper.wp execOp;simp only[ho,resolve,invoke,builtin,Sem.run_bind,Sem.run_pure,Result.andThen_ok,List.map_toArray,List.map_cons,List.map_nil,hs,hx,hr];exact hK _ _ h
theorem int_map (l:List Int):l.flatMap intE.enc=l.map (Value.int .i64):=by
 induction l with
 | nil=>rfl
 | cons x l ih=>rw[List.flatMap_cons,ih];rfl
theorem sl_cellsInts {w:World} {D:Nat→Prop} {a:Option Addr} {l:List Int} (h:IntSl w D a l) (hn:1≤l.length):∃ b o,a=some ⟨b,o,none⟩∧CellsAt w b o (l.flatMap intE.enc):=by
 obtain⟨b,o,rfl,_,_⟩:=h 0 (by omega);refine⟨b,o,rfl,fun j u hj=>?_⟩;rw[int_map] at hj
 rcases Nat.lt_or_ge j l.length with hlt | hge
 ·obtain⟨b',o',h1,_,h3⟩:=h j hlt
  injection h1 with h1
  injection h1 with h1 h2 _
  subst h1 h2;rw[List.getElem?_map,List.getElem?_eq_getElem hlt] at hj
  injection hj with hj
  rw[← hj];exact h3
 ·rw[List.getElem?_eq_none (by simpa using hge)] at hj;cases hj
theorem sl_cellsInstrs {w:World} {D:Nat→Prop} {a:Option Addr} {l:List Ins} (h:InsSlD w D a l) (hn:1≤l.length):∃ b o,a=some ⟨b,o,none⟩∧CellsAt w b o (l.flatMap insE.enc):=by
 obtain⟨b,o,rfl,_,_⟩:=h 0 (by omega);refine⟨b,o,rfl,fun j u hj=>?_⟩;have hlen:=insE.len l
 rcases Nat.lt_or_ge (j / 4) l.length with hlt | hge
 ·obtain⟨b',o',h1,_,h3⟩:=h (j / 4) hlt
  injection h1 with h1
  injection h1 with h1 h2 _
  subst h1 h2;have hf:=flat_cells l (j / 4) (j % 4) hlt (by omega);have ej:j / 4 * 4+j % 4=j:=by omega
  rw[ej] at hf;have hj:(l.flatMap Ins.cells)[j]?=some u:=hj;rw[hf] at hj;obtain⟨q0,q1,q2,q3⟩:=h3;have hr:j % 4<4:=by omega
  have eo:o+j=o+j / 4 * 4+j % 4:=by omega
  rw[eo];generalize j % 4=r at *
  match r,hr,hj with
  | 0,_,hj=>injection hj with hj;rw[← hj];exact q0
  | 1,_,hj=>injection hj with hj;rw[← hj];exact q1
  | 2,_,hj=>injection hj with hj;rw[← hj];exact q2
  | 3,_,hj=>injection hj with hj;rw[← hj];exact q3
 ·have:l.length * 4≤j:=by omega
  rw[List.getElem?_eq_none (by rw[hlen];exact this)] at hj;cases hj
def Two (w:World) (p i0 i1:Nat) (v v':Value):Prop:=w.cell? ⟨p,i0,none⟩=some v∧w.cell? ⟨p,i1,none⟩=some v'
def Marked {α:Type} (S:World→(Nat→Prop)→Option Addr→List α→Prop) (mk:Nat→Nat→α) (w:World) (D:Nat→Prop) (v:Value) (ns:List Nat):Prop :=
 ∃ a c,v=.slice a ns.length c∧∀ j (hj:j<ns.length),∃ b o,a=some ⟨b,o,none⟩∧D b∧∃ x y,w.cell? ⟨b,o+j,none⟩=some (.slice x ns[j] y)∧S w D x (marks mk j 0 ns[j])
def mkd {α:Type} (mk:Nat→Nat→α) (i:Nat) (ls:List (List α)):List (List α):=ls.mapIdx fun j l=>if j<i then marks mk j 0 l.length else l
theorem mkd_len {α:Type} (mk:Nat→Nat→α) (i:Nat) (ls:List (List α)):(mkd mk i ls).length=ls.length:=by simp[mkd]
theorem mkd_get {α:Type} (mk:Nat→Nat→α) (i:Nat) (ls:List (List α)) (j:Nat) (h:j<(mkd mk i ls).length) (h':j<ls.length):(mkd mk i ls)[j]=if j<i then marks mk j 0 ls[j].length else ls[j]:=by simp[mkd]
theorem mkd_zero {α:Type} (mk:Nat→Nat→α) (ls:List (List α)):mkd mk 0 ls=ls:=by
 apply List.ext_getElem (mkd_len _ _ _)
 intro j h1 h2;rw[mkd_get mk 0 ls j h1 h2];simp
theorem mkd_succ {α:Type} (mk:Nat→Nat→α) (i:Nat) (ls:List (List α)) (hi:i<ls.length):(mkd mk i ls).set i (marks mk i 0 ls[i].length)=mkd mk (i+1) ls:=by
 apply List.ext_getElem (by simp[mkd_len])
 intro j h1 h2;have h3:j<ls.length:=by simpa[mkd_len] using h2
 rw[mkd_get mk (i+1) ls j h2 h3,List.getElem_set]
 by_cases hij:i=j
 ·subst hij;simp
 ·rw[if_neg hij,mkd_get mk i ls j (by simpa[mkd_len] using h3) h3]
  by_cases hlt:j<i
  ·rw[if_pos hlt,if_pos (by omega)]
  ·rw[if_neg hlt,if_neg (by omega)]
def part {α:Type} (mk:Nat→Nat→α) (i k:Nat) (l:List α):List α:=marks mk i 0 k ++ l.drop k
theorem part_len {α:Type} (mk:Nat→Nat→α) (i k:Nat) (l:List α) (h:k≤l.length):(part mk i k l).length=l.length:=by simp[part,marks_len];omega
theorem part_zero {α:Type} (mk:Nat→Nat→α) (i:Nat) (l:List α):part mk i 0 l=l:=by simp[part,marks]
theorem part_all {α:Type} (mk:Nat→Nat→α) (i:Nat) (l:List α):part mk i l.length l=marks mk i 0 l.length:=by simp[part]
theorem part_succ {α:Type} (mk:Nat→Nat→α) (i k:Nat) (l:List α) (h:k<l.length):(part mk i k l).set k (mk i k)=part mk i (k+1) l:=by
 unfold part;rw[marks_succ,List.set_append_right _ _ (by rw[marks_len];exact Nat.le_refl _),marks_len,Nat.sub_self,List.append_assoc,Nat.zero_add]
 congr 1
 rw[List.drop_eq_getElem_cons h]
 rfl
def entsE:Elem Tryz.prog Hd where
 e:=22
 t:=36
 size:=1
 bytes:=24
 zero:=.slice none 0 0
 enc:=fun h=>[h.val]
 ht:=Tryz.underlying36
 info:=by kernel_rfl
 hzs:=rfl
 hsz:=by decide
 hby:=by decide
 henc:=fun _=>rfl
 hone:=fun x u h=>by simp at h;subst h;rfl
def mkEntries (i k:Nat):Ent:=⟨-1000 * (i:Int) - (k:Int) - 1,0⟩
theorem own_entD {w:World} {B:Nat} {v:Value} {l:List Ent} (h:Own entE w B v l):∃ a c,v=.slice a l.length c∧EntSl w (fun k=>v.ownBlock=some k) a l:=by
 obtain⟨a,c,e,hc⟩:=own_elems h;refine⟨a,c,e,fun j hj=>?_⟩;obtain⟨b,h1,h2,h3⟩:=hc j hj;have h4:=h3 0 (.int .i64 l[j].who) rfl;have h5:=h3 1 (.int .i64 l[j].n) rfl;have hsz:(entE).size=2:=rfl;rw[hsz] at h4 h5;exact⟨b,0,h1,by rw[e,h1];rfl,by rw[Nat.zero_add];exact h4,by rw[Nat.zero_add];exact h5⟩
theorem EntSl.dom {w:World} {D D':Nat→Prop} {a:Option Addr} {l:List Ent} (h:EntSl w D a l) (hd:∀ k,D k→D' k):EntSl w D' a l:=fun j hj=>by
 obtain⟨b,o,h1,h2,h3⟩:=h j hj;exact⟨b,o,h1,hd b h2,h3⟩
theorem sameEnts_any (w:World) (D D':Nat→Prop) (a a':Option Addr) (l:List Ent) (c c':Nat) (hl:EntSl w D a l) (hm:EntSl w D' a' l) (hn:l.length≤1000000) :
  Calls Tryz.prog 12 #[.slice a l.length c,.slice a' l.length c'] w fun e w'=>e=.returned (.bool true)∧∃ n,w'=w.drewN n:=by
 have h1:((l.length:Int) != (l.length:Int))=false:=by rw[bne_eq_false_iff_eq]
 have HL:=k_ hl;clear hl;have HM:=k_ hm;clear hm
 go_enter Tryz.func12,Tryz.ntmps12
 go_wp2_with fail;clear h1
 go_loopw [5] (fun i wr=>∃ k:Nat,k≤l.length∧i=.int .i64 k∧∃ n,wr=w.drewN n) (fun i _=>l.length - (intOf i).toNat)
 case atStart=>exact⟨0,Nat.zero_le _,rfl,0,rfl⟩
 case round =>
  obtain⟨k,hk,rfl,n,hwr⟩:=hrel
  by_cases hlt:k<l.length
  ·obtain⟨b,o,rfl,_,hx⟩:=HL.out k hlt
   obtain⟨b',o',rfl,_,hy⟩:=HM.out k hlt;obtain⟨p0,p1⟩:EntAt wr b (o+k * 2) l[k]:=by rw[hwr];exact hx
   obtain⟨r0,r1⟩:EntAt wr b' (o'+k * 2) l[k]:=by rw[hwr];exact hy
   clear hx hy;generalize l[k]=x at *;have HWR:=k_ hwr;clear hwr;go_wp2_with fail
   go_quiet (fail)
   go_wp2_with fail
   go_roundw
   case rel=>exact⟨k+1,by omega,by go_num,by rw[HWR.out];exact⟨_,by first | rfl | (simp;rfl)⟩⟩
   case measure=>simp[intOf];omega
  ·have HWR:=k_ hwr;clear hwr
   go_wp2_with fail
   go_ret
   exact⟨rfl,by rw[HWR.out];exact⟨_,rfl⟩⟩
theorem markEntries_any (i f n:Nat) (w:World) (hi:i≤1000) (hf:f≤1000000) (hn:n≤1000000) :
  Calls Tryz.prog 69 #[.int .i64 i,.int .i64 f,.int .i64 n] w fun e w'=>∃ v,e=.returned v∧Own entE w' w.heap.size v (marks mkEntries i f n)∧Below w.heap.size w w':=by
 go_enter Tryz.func69,Tryz.ntmps69
 go_wp2_with fail
 go_loopw [7,8] (fun v k wr=>∃ t:Nat,t≤n∧k=.int .i64 ((f+t:Nat):Int)∧Own entE wr w.heap.size v (marks mkEntries i f t)∧Below w.heap.size w wr) (fun _ k _=>f+n - (intOf k).toNat)
 case atStart=>exact⟨0,Nat.zero_le _,rfl,Own.nil _ _ _,Below.refl _ _⟩
 case round =>
  obtain⟨t,ht,rfl,hown,hB⟩:=hrel;have hlen:=marks_len mkEntries i f t
  by_cases hlt:t<n
  ·have hlt':((f+t:Nat):Int)<(f:Int)+(n:Int):=by omega
   have hms:=marks_succ mkEntries i f t;have hmk:mkEntries i (f+t)=(⟨-1000*(i:Int)-((f+t:Nat):Int)-1,0⟩:Ent):=rfl;rw[hmk] at hms;generalize hk:f+t=k at *;have hk0:(k:Int)≤2000000:=by omega
   have HK:=k_ hk;clear hk hmk;have HMS:=k_ hms;clear hms;have HOWN:=k_ hown;clear hown;have HB:=k_ hB;clear hB;have HLEN:=k_ hlen;clear hlen
   go_wp2_with (at_builtin;refine append_own entE rfl (.tmp 17) (.tmp 24) rfl w.heap.size (marks mkEntries i f t) [(⟨-1000*(i:Int)-(k:Int)-1,0⟩:Ent)] _ rfl (HOWN.out.alloc _) wr.heap.size 0 1 rfl (CellsAt.new _ _ _ _) ?c1 ?c2 ?_)
   case c1=>rw[HLEN.out];simp;omega
   case c2=>have:=HB.out.size;simp;omega
   intro v2 w2 hown2 hg2;have hB2:=k_ (below_grown (HB.out.alloc HB.out.size _) (HOWN.out.alloc _) hg2 (by have:=HB.out.size;simp;omega) (Nat.le_refl _));have HO2:=k_ hown2;clear hown2 hg2;go_wp2_with fail
   go_roundw
   case rel=>exact⟨t+1,by omega,by have:=HK.out;first | go_num | (rw[← Nat.add_assoc,this];go_num),by rw[HMS.out];exact HO2.out,hB2.out⟩
   case measure=>have:=HK.out;simp[intOf];omega
  ·have hk':t=n:=by omega
   subst hk';have hge:¬ ((f+t:Nat):Int)<(f:Int)+(t:Int):=by omega
   have hP:∀ v,Own entE wr w.heap.size v (marks mkEntries i f t)→∃ v',Ending.returned v=.returned v'∧Own entE wr w.heap.size v' (marks mkEntries i f t)∧Below w.heap.size w wr:=fun v hv=>⟨v,rfl,hv,hB⟩
   have HP:=k_ (hP _ hown);clear hP hown hB hlen hlt;go_wp2_with fail
   go_ret
   exact HP.out
theorem stillEntries_any (w:World) (p B:Nat) (X X':Nat→Prop) (v v':Value) (hs hs':List Hd) (ls:List (List Ent)) (h2:Two w p 6 7 v v') (hF:Fam entE entsE w B X v hs ls) (hF':Fam entE entsE w B X' v' hs' ls)
  (hn:ls.length≤1000) (hl:∀ l ∈ ls,l.length≤100000) :
  Calls Tryz.prog 28 #[.pointer (some ⟨p,0,none⟩)] w fun e w'=>e=.returned (.bool true)∧∃ n,w'=w.drewN n:=by
 obtain⟨q0,q1⟩:=h2;obtain⟨a,c,rfl⟩:=hF.slice;obtain⟨a',c',rfl⟩:=hF'.slice;have HF:=k_ hF;clear hF;have HF':=k_ hF';clear hF';have HL:=k_ hl;clear hl
 go_enter Tryz.func28,Tryz.ntmps28
 go_wp2_with fail
 go_loopw [3] (fun i wr=>∃ k:Nat,k≤ls.length∧i=.int .i64 k∧∃ n,wr=w.drewN n) (fun i _=>ls.length - (intOf i).toNat)
 case atStart=>exact⟨0,Nat.zero_le _,rfl,0,rfl⟩
 case round =>
  obtain⟨k,hk,rfl,n,hwr⟩:=hrel;have r0:wr.cell? ⟨p,6,none⟩=some (.slice a ls.length c):=by rw[hwr];exact q0
  have r1:wr.cell? ⟨p,7,none⟩=some (.slice a' ls.length c'):=by rw[hwr];exact q1
  by_cases hlt:k<ls.length
  ·obtain⟨g,c2,he,_,hj,hc,ho⟩:=HF.out.head rfl (fun _=>rfl) k hlt
   obtain⟨g',c2',he',_,hj',hc',ho'⟩:=HF'.out.head rfl (fun _=>rfl) k hlt
   injection he with e1 e2 e3
   injection he' with e1' e2' e3'
   subst e1 e3 e1' e3';obtain⟨x,y,hx,hsl⟩:=own_entD ho;obtain⟨x',y',hx',hsl'⟩:=own_entD ho';rw[hx] at hc;rw[hx'] at hc';have hc:wr.cell? ⟨g,k,none⟩=some (.slice x ls[k].length y):=by rw[hwr];exact hc
   have hc':wr.cell? ⟨g',k,none⟩=some (.slice x' ls[k].length y'):=by rw[hwr];exact hc'
   have hlk:=HL.out _ (List.getElem_mem hlt);have sm:=fun m=>sameEnts_any (wr.drewN m) _ _ x x' ls[k] y y' (show EntSl (wr.drewN m) _ x ls[k] from by rw[hwr];exact hsl) (show EntSl (wr.drewN m) _ x' ls[k] from by rw[hwr];exact hsl') (by omega)
   clear hx hx' hsl hsl' ho ho' hj hj';generalize ls[k]=l at *;have SM:=k_ sm;clear sm;have HWR:=k_ hwr;clear hwr;go_wp2_with fail
   go_quiet ((go_at_call 12;exact Calls.quiet_of (SM.out _)))
   go_wp2_with fail
   go_roundw
   case rel=>exact⟨k+1,by omega,by go_num,by rw[HWR.out];exact⟨_,by first | rfl | (simp;rfl)⟩⟩
   case measure=>simp[intOf];omega
  ·skip
   have HWR:=k_ hwr;clear hwr;go_wp2_with fail
   go_ret
   exact⟨rfl,by rw[HWR.out];exact⟨_,rfl⟩⟩
theorem markedEntries_any (w:World) (D:Nat→Prop) (v:Value) (ns:List Nat) (hM:Marked EntSl mkEntries w D v ns) (hn:ns.length≤1000) (hl:∀ n ∈ ns,n≤200000) :
  Calls Tryz.prog 43 #[v] w fun e w'=>e=.returned (.bool true)∧Below w.heap.size w w':=by
 obtain⟨a,c,rfl,hM⟩:=hM;have HM:=k_ hM;clear hM;have HL:=k_ hl;clear hl
 go_enter Tryz.func43,Tryz.ntmps43
 go_wp2_with fail
 go_loopw [3] (fun i wr=>∃ k:Nat,k≤ns.length∧i=.int .i64 k∧Below w.heap.size w wr) (fun i _=>ns.length - (intOf i).toNat)
 case atStart=>exact⟨0,Nat.zero_le _,rfl,Below.refl _ _⟩
 case round =>
  obtain⟨k,hk,rfl,hB⟩:=hrel
  by_cases hlt:k<ns.length
  ·obtain⟨b,o,rfl,_,x,y,hc,hsl⟩:=HM.out k hlt
   have hc:=below_cell hB hc;have hlk:=HL.out _ (List.getElem_mem hlt);generalize ns[k]=n at *;have mk:∀ W,Calls Tryz.prog 69 #[.int .i64 k,.int .i64 0,.int .i64 n] W fun e w'=>∃ x2 y2 D2,e=.returned (.slice x2 n y2)∧EntSl w' D2 x2 (marks mkEntries k 0 n)∧Below W.heap.size W w':=fun W =>
    (markEntries_any k 0 n W (by omega) (by omega) (by omega)).mono (by
     rintro e w' ⟨v,rfl,ho,hb⟩;obtain⟨x2,y2,rfl,hs⟩:=own_entD ho;exact⟨x2,y2,_,by rw[marks_len],hs,hb⟩)
   have sm:=fun (W:World) (hb:Below wr.heap.size wr W) (D':Nat→Prop) x' y' (hs':EntSl W D' x' (marks mkEntries k 0 n))=>sameEnts_any W D D' x x' (marks mkEntries k 0 n) y y' (hsl.fr ((Fr.of_below hB (fun _=>False)).trans (Fr.of_below hb (fun _=>False)) (fun _ _ h=>h)) (fun _ _ h=>h)) hs' (by rw[marks_len];omega)
   have hml:=marks_len mkEntries k 0 n;rw[hml] at sm;clear hsl;generalize marks mkEntries k 0 n=l at *;have MK:=k_ mk;clear mk;have SM:=k_ sm;clear sm;have HB:=k_ hB;clear hB;have HML:=k_ hml;clear hml;go_wp2_with fail
   go_region_held3 (fun w'=>w'.cell? ⟨b,o+k,none⟩=some (.slice x n y)) (first | go_keep | exact kk) (first | (go_at_call 69;refine(MK.out _).mono ?_;rintro e W ⟨x2,y2,D2,rfl,hs2,hb⟩;have kk:=below_cell hb (show wr.drew.cell? ⟨b,o+k,none⟩=some (.slice x n y) from hc);have hbW:=((Below.refl wr.heap.size wr).drew).trans hb) | (go_at_call 12;refine(SM.out W hbW _ x2 y2 hs2).mono ?_;rintro e W2 ⟨rfl,n2,rfl⟩))
   have HBW:=k_ hbW;clear hbW;clear hs2;go_wp2_with fail
   go_roundw
   case rel=>exact⟨k+1,by omega,by go_num,HB.out.trans ((below_drewN HBW.out _).mono HB.out.size)⟩
   case measure=>simp[intOf];omega
  ·skip
   have HB:=k_ hB;clear hB;go_wp2_with fail
   go_ret
   exact⟨rfl,HB.out⟩
theorem flat_setE (l:List Ent) (k:Nat) (hk:k<l.length) (x:Ent):((l.flatMap Ent.cells).set (k * 2) (.int .i64 x.who)).set (k * 2+1) (.int .i64 x.n)=(l.set k x).flatMap Ent.cells:=by
 induction l generalizing k with
 | nil=>cases hk
 | cons y l ih =>
   cases k with
   | zero=>simp[Ent.cells]
   | succ k =>
     have h:=ih k (by simpa using hk);simp only[List.flatMap_cons,List.set_cons_succ];have e:∀ r,(k+1) * 2+r=(Ent.cells y).length+(k * 2+r):=fun r=>by simp[Ent.cells];omega
     have e0:(k+1) * 2=(Ent.cells y).length+k * 2:=by simp[Ent.cells];omega
     rw[e 1,e0];simp only[List.set_append_right _ _ (Nat.le_add_right _ _),Nat.add_sub_cancel_left];rw[h]
theorem set_ent {w:World} {B g c:Nat} {l:List Ent} (h:Own entE w B (.slice (some ⟨g,0,none⟩) l.length c) l) (k:Nat) (hk:k<l.length) (x:Ent):Own entE ((w.setCell ⟨g,k * 2,none⟩ (.int .i64 x.who)).setCell ⟨g,k * 2+1,none⟩ (.int .i64 x.n)) B (.slice (some ⟨g,0,none⟩) l.length c) (l.set k x):=by
 have h1:=ownsRow_set (ownsRow_set (show w.ownsRow B entE.e entE.size _ l.length (l.flatMap entE.enc) from h) (k * 2) (.int .i64 x.who)) (k * 2+1) (.int .i64 x.n);unfold Own;rw[List.length_set];have e:=flat_setE l k hk x;have e2:(l.set k x).flatMap entE.enc=(l.set k x).flatMap Ent.cells:=rfl;rw[e2,← e];exact h1
theorem Own.slot {P:Program} {α:Type} {E:Elem P α} {w:World} {B g n c:Nat} {l:List α} (h:Own E w B (.slice (some ⟨g,0,none⟩) n c) l) (m:Nat) (hm:m<l.length * E.size):(∃ u,w.cell? ⟨g,m,none⟩=some u)∧w.frozen? ⟨g,m,none⟩=false:=by
 obtain⟨h1,h2⟩:=h
 rcases h2 with⟨hc,_⟩ | ⟨g',cap,cur,hv,hbg,hg,hnc,hcm,hcs,htake⟩
 ·cases hc
 ·injection hv with q1 q2 q3
  injection q1 with q1
  injection q1 with q1
  subst q1;have h3:=row_cell hg m;refine⟨?_,h3.2⟩;have hlt:m<cur.size:=by
   rw[hcs];exact Nat.lt_of_lt_of_le hm (Nat.mul_le_mul_right _ hnc)
  exact⟨cur[m],by rw[h3.1,Array.getElem?_eq_getElem hlt]⟩
theorem putEntries_any (w:World) (p B:Nat) (X:Nat→Prop) (v:Value) (hs:List Hd) (ls:List (List Ent)) (q0:w.cell? ⟨p,6,none⟩=some v) (hp:¬ X p) (hX:∀ k,X k→k<w.heap.size) (hF:Fam entE entsE w B X v hs ls)
  (hn:ls.length≤1000) (hl:∀ l ∈ ls,l.length≤100000) :
  Calls Tryz.prog 34 #[.pointer (some ⟨p,0,none⟩)] w fun e w'=>e=.returned (.tuple #[])∧Fam entE entsE w' B X v hs (mkd mkEntries ls.length ls)∧Fr X w w':=by
 obtain⟨a,c,rfl⟩:=hF.slice;have HF:=k_ hF;clear hF;have HL:=k_ hl;clear hl;have HX:=k_ hX;clear hX;have HP:=k_ hp;clear hp
 go_enter Tryz.func34,Tryz.ntmps34
 go_wp2_with fail
 go_loopw [2] (fun s2 wr=>∃ i:Nat,i≤ls.length∧s2=.int .i64 i∧Fam entE entsE wr B X (.slice a ls.length c) hs (mkd mkEntries i ls)∧Fr X w wr) (fun s2 _=>ls.length - (intOf s2).toNat)
 case atStart=>exact⟨0,Nat.zero_le _,rfl,by rw[mkd_zero];exact HF.out,Fr.refl _ _⟩
 case round =>
  obtain⟨i,hi,rfl,hf,hfr⟩:=hrel;have r0:=hfr.cell q0 HP.out
  by_cases hlt:i<ls.length
  ·obtain⟨g,c2,he,hXg,hj,hc,ho⟩:=hf.head rfl (fun _=>rfl) i (by rw[mkd_len];exact hlt)
   injection he with e1 e2 e3
   subst e1 e3;rw[mkd_get mkEntries i ls i _ hlt,if_neg (Nat.lt_irrefl i)] at ho;have hlk:=HL.out _ (List.getElem_mem hlt);have hms:=mkd_succ mkEntries i ls hlt;have hsl:=ho.slice;obtain⟨x,y,hxv⟩:∃ x y,hs[i].val=.slice x ls[i].length y:=by
    obtain⟨x,y,hx,_⟩:=own_elems ho;exact⟨x,y,hx⟩
   have mk:∀ W,Calls Tryz.prog 69 #[.int .i64 i,.int .i64 0,.int .i64 ls[i].length] W fun e w'=>∃ x2 y2,e=.returned (.slice x2 ls[i].length y2)∧(∃ D2,EntSl w' D2 x2 (marks mkEntries i 0 ls[i].length)∧∀ k,D2 k→W.heap.size≤k)∧Below W.heap.size W w':=fun W =>
    (markEntries_any i 0 ls[i].length W (by omega) (by omega) (by omega)).mono (by
     rintro e w' ⟨v,rfl,ho,hb⟩;obtain⟨x2,y2,rfl,hs⟩:=own_entD ho;exact⟨x2,y2,by rw[marks_len],⟨_,hs,fun k hk=>(ho.lt hk).1⟩,hb⟩)
   have hpl:=fun k=>part_len mkEntries i k ls[i]
   have hpz:=part_zero mkEntries i ls[i];have hpa:=part_all mkEntries i ls[i];have hpp:=fun k=>part_succ mkEntries i k ls[i]
   obtain⟨hd,hhd⟩:∃ hd,hd=hs[i]:=⟨_,rfl⟩;rw[← hhd] at hc ho hxv;rw[hxv] at hc;generalize hli:ls[i]=l at *;have hset0:(mkd mkEntries i ls).set i l=mkd mkEntries i ls:=by
    apply List.ext_getElem (by simp)
    intro j h1 h2;rw[List.getElem_set]
    split
    ·subst j;rw[mkd_get mkEntries i ls i _ hlt,if_neg (Nat.lt_irrefl i),hli]
    ·rfl
   generalize hn0:l.length=n at *;have hg1:=hf;have hr1:=hfr;clear hf hfr hsl;have MK:=k_ mk;clear mk;have HG1:=k_ hg1;clear hg1;have HR1:=k_ hr1;clear hr1;have HMS:=k_ hms;clear hms;have HPL:=k_ hpl;clear hpl;have HPZ:=k_ hpz;clear hpz;have HPA:=k_ hpa;clear hpa;have HPP:=k_ hpp;clear hpp;have HO:=k_ ho;clear ho;have HHD:=k_ hhd;clear hhd;have HSET0:=k_ hset0;clear hset0;have HLI:=k_ hli;clear hli;have HN0:=k_ hn0;clear hn0;have HXV:=k_ hxv;clear hxv;go_wp2_with fail;refine(MK.out _).mono ?_;rintro e W ⟨x2,y2,rfl,⟨D2,hs2,hd2⟩,hb⟩;have u0:=below_cell hb r0;have fw:=HG1.out.fr (Fr.of_below hb (fun _=>False)) (fun _ _ h=>h);have rw1:Fr X w W:=HR1.out.trans (Fr.of_below hb (fun _=>False)) (fun _ _ h=>h.elim);have hd2:∀ k,D2 k→w.heap.size≤k:=fun k hk=>by have:=hd2 k hk;have:=HR1.out.size;omega
   clear hb hc r0;have FW:=k_ fw;clear fw;have RW1:=k_ rw1;clear rw1;have HS2:=k_ hs2;clear hs2;have HD2:=k_ hd2;clear hd2;go_wp2_with fail
   go_loopw [4] (fun s4 wk=>∃ k:Nat,k≤n∧s4=.int .i64 k∧Fam entE entsE wk B X (.slice (some ⟨g,0,none⟩) ls.length c) hs ((mkd mkEntries i ls).set i (part mkEntries i k l))∧Fr X W wk) (fun s4 _=>n - (intOf s4).toNat)
   case atStart=>exact⟨0,Nat.zero_le _,rfl,by rw[HPZ.out,HSET0.out];exact FW.out,Fr.refl _ _⟩
   case round =>
    obtain⟨k,hk,rfl,hfk0,hfk⟩:=hrel;have u1:=hfk.cell u0 HP.out
    by_cases hlk:k<n
    ·obtain⟨g',c',he',_,hj',hc',hob⟩:=hfk0.head rfl (fun _=>rfl) i (by rw[List.length_set,mkd_len];exact hlt)
     injection he' with e1 e2 e3
     injection e1 with e1
     injection e1 with e1
     subst e1 e3;rw[List.getElem_set_self,← HHD.out] at hob;rw[← HHD.out] at hc';have hpl:=HPL.out k hk;have hpp:=HPP.out k hlk;obtain⟨gi,ci,hvi,_,_,_⟩:=hob.cells (by rw[hpl];omega);obtain⟨pt,hpt⟩:∃ pt,pt=part mkEntries i k l:=⟨_,rfl⟩;rw[← hpt] at hob hpl hpp hvi;rw[hvi] at hob hc';rw[hpl] at hc';have HFK:=k_ hfk;obtain⟨b2,o2,rfl,hd2,s0,s1⟩:=HS2.out k (by rw[marks_len];exact hlk);have hd3:¬ X b2:=fun h=>by have:b2<w.heap.size:=HX.out _ h;have:=HD2.out _ hd2;omega
     have s0:=HFK.out.cell s0 hd3;have s1:=HFK.out.cell s1 hd3;rw[marks_get,Nat.zero_add] at s0 s1;have h4:k * 2+1<n * 2:=by omega
     obtain⟨⟨d0,t0⟩,z0⟩:=hob.slot (k * 2) (by rw[hpl];show k * 2<n * 2;omega);obtain⟨⟨d1,t1⟩,z1⟩:=hob.slot (k * 2+1) (by rw[hpl];show k * 2+1<n * 2;omega);have hset:=set_ent hob k (by rw[hpl];exact hlk) (mkEntries i k);generalize mkEntries i k=mv at *;obtain⟨m0,m1⟩:=mv
     dsimp only at s0 s1 hset
     clear h4 hd3;have HF0:=k_ hfk0;have HOB:=k_ hob;have HVI:=k_ hvi;have key:∀ wz,Fr (fun q=>q=gi) wr wz→Own entE wz B (.slice (some ⟨gi,0,none⟩) pt.length ci) (part mkEntries i (k+1) l)→Fam entE entsE wz B X (.slice (some ⟨g,0,none⟩) ls.length c) hs ((mkd mkEntries i ls).set i (part mkEntries i (k+1) l)):=fun wz hfz hoz=>by
      have h1:=hfk0.upd i hj' (part mkEntries i (k+1) l) (w':=wz) (by rw[← HHD.out,hvi];exact hfz.mono (fun q h=>by rw[h];rfl)) (by rw[← HHD.out,hvi];exact hoz);rw[List.set_set] at h1;exact h1
     have KEY:=k_ key;clear hfk hfk0 hob hvi hpt key;have HSET:=k_ hset;clear hset;have HPL:=k_ hpl;clear hpl;have HPP:=k_ hpp;clear hpp;go_wp2_with fail
     go_region
     go_wp2_with fail
     go_roundw
     case rel =>
      have hXg:X gi:=(HF0.out.mem i hj' gi (by rw[← HHD.out,HVI.out];rfl)).1;refine⟨k+1,by omega,by go_num,?_,?_⟩
      ·refine KEY.out _ (((Fr.refl (fun q=>q=gi) _).setCell (p:=⟨gi,k*2,none⟩) (fun _=>rfl) _).setCell (p:=⟨gi,k*2+1,none⟩) (fun _=>rfl) _).drew ?_
       rw[← HPP.out];exact HSET.out
      ·exact HFK.out.trans (G:=fun q=>q=gi) (((Fr.refl (fun q=>q=gi) _).setCell (p:=⟨gi,k*2,none⟩) (fun _=>rfl) _).setCell (p:=⟨gi,k*2+1,none⟩) (fun _=>rfl) _).drew (fun q _ h=>by rw[h];exact hXg)
     case measure=>simp[intOf];omega
    ·have hk':k=n:=by omega
     subst hk';rw[HPA.out,HMS.out] at hfk0;have HFK0:=k_ hfk0;clear hfk0;have HFK:=k_ hfk;clear hfk;go_wp2_with fail
     go_roundw
     case rel=>exact⟨i+1,by omega,by go_num,HFK0.out,RW1.out.trans HFK.out (fun _ _ h=>h)⟩
     case measure=>simp[intOf];omega
  ·have hk':i=ls.length:=by omega
   subst hk';have HG:=k_ hf;have HR:=k_ hfr;clear hf hfr;go_wp2_with fail
   go_end0
   exact⟨rfl,HG.out,HR.out⟩
end Go.Proofs.YtlofbhoicbemnaaGreatDoor
namespace Go.Proofs.YtlofbhoicbemnaaGreatDoor
open Go.RowKit
variable {P:Program} {α:Type}
structure GS (E:Elem P α) (w:World) (B:Nat) (h0:Value) (l0:List α) (vl:Value) (l:List α):Prop where
 old:Own E w B h0 l0
 cur:Own E w B vl l
 rel:(∃ g c r,h0=.slice (some ⟨g,0,none⟩) l0.length c∧vl=.slice (some ⟨g,0,none⟩) l.length c∧l=l0 ++ r)∨∀ k,h0.ownBlock=some k→vl.ownBlock≠some k
variable {E:Elem P α} {w w':World} {B:Nat} {h0 vl v':Value} {l0 l m:List α}
theorem GS.init (h:Own E w B h0 l0):GS E w B h0 l0 h0 l0:=by
 refine⟨h,h,?_⟩
 rcases h.2 with⟨rfl,h1⟩ | ⟨g,cap,cur,rfl,_⟩
 ·exact .inr fun k hk=>by simp[Value.ownBlock] at hk
 ·exact .inl ⟨g,cap,[],rfl,rfl,by simp⟩
theorem GS.fr {F:Nat→Prop} (h:GS E w B h0 l0 vl l) (hf:Fr F w w') (h1:∀ k,h0.ownBlock=some k→¬ F k) (h2:∀ k,vl.ownBlock=some k→¬ F k):GS E w' B h0 l0 vl l :=
 ⟨h.old.fr hf h1,h.cur.fr hf h2,h.rel⟩
theorem GS.below (h:GS E w B h0 l0 vl l) (hb:Below w.heap.size w w'):GS E w' B h0 l0 vl l:=h.fr (Fr.of_below hb (fun _=>False)) (fun _ _ h=>h) (fun _ _ h=>h)
theorem own_prefix {g n c:Nat} {r:List α} (h:Own E w B (.slice (some ⟨g,0,none⟩) n c) (l0 ++ r)) (hc:l0.length≤c):Own E w B (.slice (some ⟨g,0,none⟩) l0.length c) l0:=by
 obtain⟨h1,h2⟩:=h;refine⟨E.len l0,?_⟩
 rcases h2 with⟨hc,_⟩ | ⟨g',cap,cur,hv,hbg,hg,hnc,hcm,hcs,htake⟩
 ·cases hc
 ·injection hv with q1 q2 q3
  injection q1 with q1
  injection q1 with q1
  subst q1 q3;refine .inr ⟨g,c,cur,rfl,hbg,hg,hc,hcm,hcs,?_⟩;have h3:(cur.toList.take ((l0 ++ r).length * E.size)).take (l0.length * E.size)=l0.flatMap E.enc:=by
   rw[htake,List.flatMap_append,List.take_append_of_le_length (by rw[E.len l0];exact Nat.le_refl _),List.take_of_length_le (by rw[E.len l0];exact Nat.le_refl _)]
  rw[List.take_take] at h3;rw[← h3]
  congr 1
  rw[Nat.min_eq_left];exact Nat.mul_le_mul_right _ (by simp)
theorem own_cap {g n c:Nat} (h:Own E w B (.slice (some ⟨g,0,none⟩) n c) l):∃ cur:Array Value,w.heap[g]?=some (.cells cur E.e (0,0))∧cur.size=c * E.size∧n=l.length∧l.length≤c:=by
 obtain⟨h1,h2⟩:=h
 rcases h2 with⟨hc,_⟩ | ⟨g',cap,cur,hv,hbg,hg,hnc,hcm,hcs,htake⟩
 ·cases hc
 ·injection hv with q1 q2 q3
  injection q1 with q1
  injection q1 with q1
  subst q1 q3;exact⟨cur,hg,hcs,q2,hnc⟩
theorem GS.step (h:GS E w B h0 l0 vl l) (ho:Own E w' B v' (l ++ m)) (hg:w.grownBy w' vl.ownBlock) (hf:Fresh w vl v') (hk:Own E w' B vl l):GS E w' B h0 l0 v' (l ++ m):=by
 have hlt0:=fun k hk=>h.old.lt (k:=k) hk
 obtain⟨h1,h2,h3⟩:=h
 rcases h3 with⟨g,c,r,rfl,rfl,rfl⟩ | h3
 ·obtain⟨cur,hc1,hc2,_,hc3⟩:=own_cap hk
  refine⟨own_prefix hk (by simp at hc3;omega),ho,?_⟩
  rcases ho.2 with⟨rfl,h4⟩ | ⟨g',cap',cur',rfl,_,hg',_,_,hcs',_⟩
  ·exact .inr fun k hk h=>by simp[Value.ownBlock] at h
  ·rcases hf g' rfl with h5 | h5
   ·have h5:g=g':=by simpa[Value.ownBlock] using h5
    subst h5;rw[hc1] at hg'
    injection hg' with hg'
    injection hg' with hg' _ _
    subst hg';have:c=cap':=by
     have h6:c * E.size=cap' * E.size:=by rw[← hc2,hcs']
     exact Nat.eq_of_mul_eq_mul_right E.hsz h6
    subst this;exact .inl ⟨g,c,r ++ m,rfl,rfl,by rw[List.append_assoc]⟩
   ·exact .inr fun k hk h=>by
     have h6:g=k:=by simpa[Value.ownBlock] using hk
     have h7:g'=k:=by simpa[Value.ownBlock] using h
     have:=(hlt0 g rfl).2
     omega
 ·have hf1:Fr (fun k=>vl.ownBlock=some k) w w':=(Fr.refl _ _).grown hg (fun k hk _=>hk)
  refine⟨h1.fr hf1 h3,ho,.inr fun k hk h=>?_⟩
  rcases hf k h with h5 | h5
  ·exact h3 k hk h5
  ·have:=(hlt0 k hk).2;omega
end Go.Proofs.YtlofbhoicbemnaaGreatDoor
namespace Go.Proofs.YtlofbhoicbemnaaGreatDoor
open Go.ChangeShapes Go.WideShapes Go.ChangeAt Go.RowKit
theorem four_cells {w:World} {q:Nat} {x0 x1 x2 x3:Value} {t:TypeId} (h:w.heap[q]?=some (.cells #[x0,x1,x2,x3] t)) :
  (w.cell? ⟨q,0,none⟩=some x0∧w.cell? ⟨q,1,none⟩=some x1∧w.cell? ⟨q,2,none⟩=some x2∧w.cell? ⟨q,3,none⟩=some x3)∧w.frozen? ⟨q,0,none⟩=false∧w.frozen? ⟨q,1,none⟩=false∧w.frozen? ⟨q,2,none⟩=false∧w.frozen? ⟨q,3,none⟩=false :=
 ⟨⟨(row_cell h 0).1,(row_cell h 1).1,(row_cell h 2).1,(row_cell h 3).1⟩,(row_cell h 0).2,(row_cell h 1).2,(row_cell h 2).2,(row_cell h 3).2⟩
end Go.Proofs.YtlofbhoicbemnaaGreatDoor
