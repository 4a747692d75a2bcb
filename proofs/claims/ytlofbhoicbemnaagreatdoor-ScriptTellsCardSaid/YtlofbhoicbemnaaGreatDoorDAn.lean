/- Walks: slices.Clone, of numbers, of instructions. Rows of rows that one owns whole: shapes, functions, programs; what a write leaves of .. -/
import Derived.Test.YtlofbhoicbemnaaGreatDoorDAh
set_option linter.unusedVariables false
set_option linter.unusedSimpArgs false
set_option maxRecDepth 100000
set_option maxHeartbeats 6400000
namespace Go.Proofs.YtlofbhoicbemnaaGreatDoor
open Go.ChangeShapes Go.WideShapes Go.ChangeAt Go.RowKit
theorem append_own_addr {P:Program} {α:Type} (E:Elem P α) {ops:Array Oper} {rest:List Oper} {o:Oper} {a:Act} {Q:Exit→Act→World→Prop} {w:World} (hgd:o.guard=none) (s x:Operand)
  (ho:o.op=.call { callee:=.builtin .append,args:=#[s,x],argTypes:=#[E.t,E.t] })
  (B:Nat) (l m:List α) (v:Value) (hs:a.eval s=v) (hown:Own E w B v l) (xa:Addr) (c:Nat) (hx:a.eval x=.slice (some xa) m.length c)
  (hm:∀ j u,(m.flatMap E.enc)[j]?=some u→w.cell? (xa.add j)=some u) (hlen:l.length+m.length≤100000000) (hB:B≤w.heap.size)
  (h:∀ v' w',Own E w' B v' (l ++ m)→w.grownBy w' v.ownBlock→wpList P ops Q rest (a.put o.dst v') w'):wpList P ops Q (o :: rest) a w:=by
 obtain⟨i0,hi,hz0,hz1,hz2⟩:=info_parts E.info;refine wpList_append_own _ hgd s x E.t ho B E.e i0 E.zero E.size E.bytes E.ht hi hz0 hz1 hz2 E.hzs E.hsz v l.length (l.flatMap E.enc) hs hown xa m.length c (m.flatMap E.enc) hx (E.len m) hm ?_ ?_ ?_ hB ?_
 ·intro u hu
  obtain⟨y,_,hy⟩:=List.mem_flatMap.1 hu;exact E.hone y u hy
 ·unfold maxLen;omega
 ·have h1:=E.hby
  have h2:(l.length+m.length) * E.bytes≤100000000 * 1000:=Nat.mul_le_mul hlen h1
  omega
 ·intro v' w' ho' hg _
  refine h v' w' ?_ hg;unfold Own;rw[List.length_append,List.flatMap_append];exact ho'
theorem cells_addr {w:World} {b o:Nat} {cs:List Value} (h:CellsAt w b o cs):∀ j u,cs[j]?=some u→w.cell? ((⟨b,o,none⟩:Addr).add j)=some u:=by
 intro j u hj;have:=h j u hj;unfold Addr.add
 by_cases h0:j=0
 ·subst h0;rw[if_pos rfl];exact this
 ·rw[if_neg h0];exact this
theorem sl_addrInts {w:World} {D:Nat→Prop} {xa:Addr} {l:List Int} (h:IntSl w D (some xa) l):∀ j u,(l.flatMap intE.enc)[j]?=some u→w.cell? (xa.add j)=some u:=by
 by_cases h0:1≤l.length
 ·obtain⟨b,o,e,hc⟩:=sl_cellsInts h h0
  injection e with e
  subst e;exact cells_addr hc
 ·have:l=[]:=List.length_eq_zero_iff.1 (by omega)
  subst this;intro j u hj
  simp at hj
theorem sl_addrInstrs {w:World} {D:Nat→Prop} {xa:Addr} {l:List Ins} (h:InsSlD w D (some xa) l):∀ j u,(l.flatMap insE.enc)[j]?=some u→w.cell? (xa.add j)=some u:=by
 by_cases h0:1≤l.length
 ·obtain⟨b,o,e,hc⟩:=sl_cellsInstrs h h0
  injection e with e
  subst e;exact cells_addr hc
 ·have:l=[]:=List.length_eq_zero_iff.1 (by omega)
  subst this;intro j u hj
  simp at hj
theorem alloc_cells {w:World} {xa:Addr} {o:Obj} {v:Value} (h:w.cell? xa=some v):(w.alloc o).cell? xa=some v:=by
 have hp:=plain_addr h;rw[hp] at h ⊢;rw[cell_under _ _ (World.block_lt h)];exact h
theorem eq_nil_run {α:Type} (E:Elem Tryz.prog α) (a:Option Addr) (n c:Nat) (w:World):(binOp .eql E.t (.slice a n c) (.slice none 0 0)).run Tryz.prog w=.ok (.bool a.isNone) w:=by
 have h:(Op.equalIn (9999+1) E.t (.slice a n c) (.slice none 0 0)).run Tryz.prog w=.ok a.isNone w:=by
  unfold Op.equalIn
  cases a <;> simp[run_underlying E.ht]
 have h2:binOp .eql E.t (.slice a n c) (.slice none 0 0)=(do pure (.bool (← Op.equalIn (9999+1) E.t (.slice a n c) (.slice none 0 0)))):=rfl;rw[h2]
 simp[h]
theorem cloneInts_any (w:World) (D:Nat→Prop) (a:Option Addr) (l:List Int) (c:Nat) (hsl:IntSl w D a l) (hn:l.length≤1000000) :
  Calls Tryz.prog 108 #[.slice a l.length c] w fun e w'=>∃ v,e=.returned v∧Own intE w' w.heap.size v l∧Below w.heap.size w w':=by
 cases a with
 | none =>
   have hl:l=[]:=by
    cases l with
    | nil=>rfl
    | cons x l=>obtain⟨b,o,h,_⟩:=hsl 0 (by simp);cases h
   subst hl;have hnil:=fun w=>eq_nil_run intE none 0 c w
   have hnil:∀ w,(binOp .eql 44 (.slice none 0 c) (.slice none 0 0)).run Tryz.prog w=.ok (.bool true) w:=hnil
   go_enter Tryz.func108,Tryz.ntmps108
   go_wp2_with fail
   go_ret
   exact⟨_,rfl,Own.nil _ _ _,Below.refl _ _⟩
 | some xa =>
   have hc:=sl_addrInts hsl;have ho:=own_new intE w [] #[] rfl (by decide);have hb0:=(Below.refl w.heap.size w).alloc (Nat.le_refl _) (.cells #[] intE.e);have hc2:=fun j u hj=>alloc_cells (o:=.cells #[] intE.e) (hc j u hj)
   have hnil:=fun w=>eq_nil_run intE (some xa) l.length c w
   have hnil:∀ w,(binOp .eql 44 (.slice (some xa) l.length c) (.slice none 0 0)).run Tryz.prog w=.ok (.bool false) w:=hnil;clear hsl hc;have HC2:=k_ hc2;clear hc2;have HO:=k_ ho;clear ho;have HB0:=k_ hb0;clear hb0
   go_enter Tryz.func108,Tryz.ntmps108
   go_wp2_with (at_builtin;refine append_own_addr intE rfl (.tmp 5) (.tmp 6) rfl w.heap.size [] l _ rfl HO.out xa c rfl HC2.out ?c1 ?c2 ?_)
   case c1=>simp;omega
   case c2=>simp
   intro v2 w2 hown2 hg2;have hB2:=below_grown HB0.out HO.out hg2 (by simp) (Nat.le_refl _);clear hg2;have HB2:=k_ hB2;clear hB2;have HOWN2:=k_ hown2;clear hown2;go_wp2_with fail
   go_ret
   exact⟨_,rfl,HOWN2.out,HB2.out⟩
theorem cloneInstrs_any (w:World) (D:Nat→Prop) (a:Option Addr) (l:List Ins) (c:Nat) (hsl:InsSlD w D a l) (hn:l.length≤1000000) :
  Calls Tryz.prog 118 #[.slice a l.length c] w fun e w'=>∃ v,e=.returned v∧Own insE w' w.heap.size v l∧Below w.heap.size w w':=by
 cases a with
 | none =>
   have hl:l=[]:=by
    cases l with
    | nil=>rfl
    | cons x l=>obtain⟨b,o,h,_⟩:=hsl 0 (by simp);cases h
   subst hl;have hnil:=fun w=>eq_nil_run insE none 0 c w
   have hnil:∀ w,(binOp .eql 64 (.slice none 0 c) (.slice none 0 0)).run Tryz.prog w=.ok (.bool true) w:=hnil
   go_enter Tryz.func118,Tryz.ntmps118
   go_wp2_with fail
   go_ret
   exact⟨_,rfl,Own.nil _ _ _,Below.refl _ _⟩
 | some xa =>
   have hc:=sl_addrInstrs hsl;have ho:=own_new insE w [] #[] rfl (by decide);have hb0:=(Below.refl w.heap.size w).alloc (Nat.le_refl _) (.cells #[] insE.e);have hc2:=fun j u hj=>alloc_cells (o:=.cells #[] insE.e) (hc j u hj)
   have hnil:=fun w=>eq_nil_run insE (some xa) l.length c w
   have hnil:∀ w,(binOp .eql 64 (.slice (some xa) l.length c) (.slice none 0 0)).run Tryz.prog w=.ok (.bool false) w:=hnil;clear hsl hc;have HC2:=k_ hc2;clear hc2;have HO:=k_ ho;clear ho;have HB0:=k_ hb0;clear hb0
   go_enter Tryz.func118,Tryz.ntmps118
   go_wp2_with (at_builtin;refine append_own_addr insE rfl (.tmp 5) (.tmp 6) rfl w.heap.size [] l _ rfl HO.out xa c rfl HC2.out ?c1 ?c2 ?_)
   case c1=>simp;omega
   case c2=>simp
   intro v2 w2 hown2 hg2;have hB2:=below_grown HB0.out HO.out hg2 (by simp) (Nat.le_refl _);clear hg2;have HB2:=k_ hB2;clear hB2;have HOWN2:=k_ hown2;clear hown2;go_wp2_with fail
   go_ret
   exact⟨_,rfl,HOWN2.out,HB2.out⟩
end Go.Proofs.YtlofbhoicbemnaaGreatDoor
namespace Go.Proofs.YtlofbhoicbemnaaGreatDoor
open Go.RowKit
variable {P:Program} {α β:Type}
theorem Own.typed {E:Elem P α} {w:World} {B:Nat} {v:Value} {l:List α} (h:Own E w B v l) {k:Nat} (hk:v.ownBlock=some k):∃ cs,w.heap[k]?=some (.cells cs E.e):=by
 obtain⟨h1,h2⟩:=h
 rcases h2 with⟨rfl,h0⟩ | ⟨g,cap,cur,rfl,hg,hh,hr⟩
 ·cases hk
 ·have:g=k:=by injection hk
  subst this;exact⟨cur,hh⟩
def TyNe (w:World) (F:Nat→Prop) (e:TypeId):Prop:=∀ k,F k→k<w.heap.size→∃ cs t,w.heap[k]?=some (.cells cs t)∧t≠e
theorem Own.frT {E:Elem P α} {F:Nat→Prop} {w w':World} {B:Nat} {v:Value} {l:List α} (h:Own E w B v l) (hf:Fr F w w') (hF:TyNe w F E.e):Own E w' B v l :=
 h.fr hf (fun k hk hFk=>by
  obtain⟨cs,t,h1,h2⟩:=hF k hFk (h.lt hk).2;obtain⟨cs',h3⟩:=h.typed hk;rw[h1] at h3
  injection h3 with h3
  injection h3 with _ h3
  exact h2 h3)
theorem TyNe.own {E:Elem P α} {w:World} {B:Nat} {v:Value} {l:List α} (h:Own E w B v l) {e:TypeId} (he:E.e≠e):TyNe w (fun k=>v.ownBlock=some k) e:=fun k hk _=>by
 obtain⟨cs,h1⟩:=h.typed hk;exact⟨cs,E.e,h1,he⟩
theorem TyNe.one {w:World} {q:Nat} {cs:Array Value} {t e:TypeId} (h:w.heap[q]?=some (.cells cs t)) (he:t≠e):TyNe w (fun k=>k=q) e:=fun k hk _=>by
 subst hk;exact⟨cs,t,h,he⟩
theorem TyNe.or {w:World} {F G:Nat→Prop} {e:TypeId} (h:TyNe w F e) (h':TyNe w G e):TyNe w (fun k=>F k∨G k) e:=fun k hk hlt=>hk.elim (fun h1=>h k h1 hlt) (fun h1=>h' k h1 hlt)
theorem TyNe.no {w:World} {e:TypeId}:TyNe w (fun _=>False) e:=fun _ h _=>h.elim
theorem Own.off {E:Elem P α} {w:World} {B q:Nat} {v:Value} {l:List α} {cs:Array Value} {t:TypeId} (h:Own E w B v l) (hq:w.heap[q]?=some (.cells cs t)) (hne:E.e≠t):v.ownBlock≠some q:=fun e=>by
 obtain⟨cs',h1⟩:=h.typed e;rw[hq] at h1
 injection h1 with h1
 injection h1 with _ h1
 exact hne h1.symm
def ShRow (w:World) (B:Nat) (v:Value) (hs:List Hd) (ls:List (List Int)):Prop :=
 Own shE w B v hs∧hs.length=ls.length∧∀ j (h:j<hs.length) (h':j<ls.length),hs[j].n=ls[j].length∧Own intE w B hs[j].val ls[j]
def FnOwn (w:World) (B:Nat) (x:FnH) (f:Fun):Prop :=
 x.r=f.result∧x.s=f.slots∧(x.h0.n=f.args.length∧Own intE w B x.h0.val f.args)∧(x.h3.n=f.objects.length∧Own intE w B x.h3.val f.objects)∧(x.h4.n=f.code.length∧Own insE w B x.h4.val f.code)
def FnRow (w:World) (B:Nat) (v:Value) (xs:List FnH) (fs:List Fun):Prop :=
 Own fnE w B v xs∧xs.length=fs.length∧∀ j (h:j<xs.length) (h':j<fs.length),FnOwn w B xs[j] fs[j]
theorem FnOwn.frT {F:Nat→Prop} {w w':World} {B:Nat} {x:FnH} {f:Fun} (h:FnOwn w B x f) (hf:Fr F w w') (h1:TyNe w F intE.e) (h2:TyNe w F insE.e):FnOwn w' B x f :=
 ⟨h.1,h.2.1,⟨h.2.2.1.1,h.2.2.1.2.frT hf h1⟩,⟨h.2.2.2.1.1,h.2.2.2.1.2.frT hf h1⟩,h.2.2.2.2.1,h.2.2.2.2.2.frT hf h2⟩
theorem ShRow.frT {F:Nat→Prop} {w w':World} {B:Nat} {v:Value} {hs:List Hd} {ls:List (List Int)} (h:ShRow w B v hs ls) (hf:Fr F w w') (h0:TyNe w F shE.e) (h1:TyNe w F intE.e):ShRow w' B v hs ls :=
 ⟨h.1.frT hf h0,h.2.1,fun j hj hj'=>⟨(h.2.2 j hj hj').1,(h.2.2 j hj hj').2.frT hf h1⟩⟩
theorem FnRow.frT {F:Nat→Prop} {w w':World} {B:Nat} {v:Value} {xs:List FnH} {fs:List Fun} (h:FnRow w B v xs fs) (hf:Fr F w w') (h0:TyNe w F fnE.e) (h1:TyNe w F intE.e) (h2:TyNe w F insE.e):FnRow w' B v xs fs :=
 ⟨h.1.frT hf h0,h.2.1,fun j hj hj'=>(h.2.2 j hj hj').frT hf h1 h2⟩
theorem ShRow.nil (w:World) (B:Nat):ShRow w B (.slice none 0 0) [] []:=⟨Own.nil _ _ _,rfl,fun j hj=>by cases hj⟩
theorem FnRow.nil (w:World) (B:Nat):FnRow w B (.slice none 0 0) [] []:=⟨Own.nil _ _ _,rfl,fun j hj=>by cases hj⟩
theorem rows_snoc {R:Hd→List Int→Prop} {hs:List Hd} {ls:List (List Int)} (hlen:hs.length=ls.length) (h:∀ j (h:j<hs.length) (h':j<ls.length),R hs[j] ls[j]) {x:Hd} {l:List Int} (hx:R x l):∀ j (h:j<(hs ++ [x]).length) (h':j<(ls ++ [l]).length),R (hs ++ [x])[j] (ls ++ [l])[j]:=by
 intro j hj hj'
 by_cases hlt:j<hs.length
 ·rw[List.getElem_append_left hlt,List.getElem_append_left (by omega)]
  exact h j hlt (by omega)
 ·have:j=hs.length:=by simp at hj;omega
  subst this;have e1:(hs ++ [x])[hs.length]=x:=by simp
  have e2:(ls ++ [l])[hs.length]'hj'=l:=by simp[hlen]
  rw[e1,e2];exact hx
theorem fnrows_snoc {R:FnH→Fun→Prop} {hs:List FnH} {ls:List Fun} (hlen:hs.length=ls.length) (h:∀ j (h:j<hs.length) (h':j<ls.length),R hs[j] ls[j]) {x:FnH} {l:Fun} (hx:R x l):∀ j (h:j<(hs ++ [x]).length) (h':j<(ls ++ [l]).length),R (hs ++ [x])[j] (ls ++ [l])[j]:=by
 intro j hj hj'
 by_cases hlt:j<hs.length
 ·rw[List.getElem_append_left hlt,List.getElem_append_left (by omega)]
  exact h j hlt (by omega)
 ·have:j=hs.length:=by simp at hj;omega
  subst this;have e1:(hs ++ [x])[hs.length]=x:=by simp
  have e2:(ls ++ [l])[hs.length]'hj'=l:=by simp[hlen]
  rw[e1,e2];exact hx
theorem ty_ne:(3:TypeId)≠63∧(3:TypeId)≠82∧(3:TypeId)≠66∧(3:TypeId)≠48 ∧
  (63:TypeId)≠82∧(63:TypeId)≠66∧(63:TypeId)≠48 ∧
  (82:TypeId)≠66∧(82:TypeId)≠48∧(66:TypeId)≠48:=by decide
def PrgOwn (w:World) (B:Nat) (p:Prg) (c0 c1 c2:Value):Prop :=
 Own intE w B c0 p.globals∧(∃ hs,ShRow w B c1 hs p.shapes)∧∃ xs,FnRow w B c2 xs p.funcs
theorem ShRow.inv {w:World} {B:Nat} {v:Value} {hs:List Hd} {ls:List (List Int)} (h:ShRow w B v hs ls):ShInv w (fun k=>B≤k∧k<w.heap.size) hs ls :=
 ⟨h.2.1,fun j hj hj'=>⟨(h.2.2 j hj hj').1,by
  obtain⟨a,c,he,hsl⟩:=own_int (h.2.2 j hj hj').2;have:hs[j].a=a:=by injection he
  rw[this];exact hsl.dom (fun k hk=>(h.2.2 j hj hj').2.lt hk)⟩⟩
theorem FnOwn.ok {w:World} {B:Nat} {x:FnH} {f:Fun} (h:FnOwn w B x f):FnOk w (fun k=>B≤k∧k<w.heap.size) x f:=by
 obtain⟨h1,h2,⟨h3,h4⟩,⟨h5,h6⟩,h7,h8⟩:=h;refine⟨h1,h2,⟨h3,?_⟩,⟨h5,?_⟩,h7,?_⟩
 ·obtain⟨a,c,he,hsl⟩:=own_int h4
  have:x.h0.a=a:=by injection he
  rw[this];exact hsl.dom (fun k hk=>h4.lt hk)
 ·obtain⟨a,c,he,hsl⟩:=own_int h6
  have:x.h3.a=a:=by injection he
  rw[this];exact hsl.dom (fun k hk=>h6.lt hk)
 ·obtain⟨a,c,he,hsl⟩:=own_insD h8
  have:x.h4.a=a:=by injection he
  rw[this];exact hsl.dom (fun k hk=>h8.lt hk)
theorem PrgOwn.val {w:World} {B:Nat} {p:Prg} {c0 c1 c2:Value} (h:PrgOwn w B p c0 c1 c2):PrgVal w (fun k=>B≤k∧k<w.heap.size) p c0 c1 c2:=by
 obtain⟨h1,⟨hs,h2⟩,xs,h3⟩:=h;refine⟨?_,own_sh h2.1 h2.inv (fun _ h=>h) (fun k hk=>h2.1.lt hk),own_fn h3.1 (D:=fun k=>B≤k∧k<w.heap.size) ⟨h3.2.1,fun j hj hj'=>(h3.2.2 j hj hj').ok⟩ (fun _ h=>h) (fun k hk=>h3.1.lt hk)⟩;obtain⟨a,c,he,hsl⟩:=own_int h1;exact⟨a,c,he,hsl.dom (fun k hk=>h1.lt hk)⟩
end Go.Proofs.YtlofbhoicbemnaaGreatDoor
namespace Go.Proofs.YtlofbhoicbemnaaGreatDoor
open Go.ChangeShapes Go.WideShapes Go.ChangeAt Go.RowKit
def CpS (q:Nat) (g:Value) (wr:World) (ls:List (List Int)):Prop :=
 ∃ hs n c a,wr.heap[q]?=some (.cells #[g,.slice a n c,.slice none 0 0] 48)∧ShRow wr q (.slice a n c) hs ls
theorem CpS.step {q:Nat} {g:Value} {wr w3 w4:World} {ls:List (List Int)} {l:List Int} {hs:List Hd} {n c n3 n4 c4:Nat} {a a3 a4:Option Addr}
  (hloc:wr.heap[q]?=some (.cells #[g,.slice a n c,.slice none 0 0] 48)) (hrow:ShRow wr q (.slice a n c) hs ls) (hb3:Below wr.heap.size wr w3)
  (ho3:Own intE w3 wr.heap.size (.slice a3 l.length n3) l) (ob:Obj) (ho4:Own shE w4 q (.slice a4 n4 c4) (hs ++ [⟨a3,l.length,n3⟩])) (hg4:(w3.alloc ob).grownBy w4 (Value.slice a n c).ownBlock)
  (loc4:w4.heap[q]?=some (.cells #[g,.slice a n c,.slice none 0 0] 48)) :
  CpS q g (w4.setCell ⟨q,1,none⟩ (.slice a4 n4 c4)) (ls ++ [l])∧Fr (fun k=>q≤k) wr (w4.setCell ⟨q,1,none⟩ (.slice a4 n4 c4)):=by
 have hq:=heap_lt hloc;obtain⟨t1,t2,t3,t4,t5,t6,t7,t8,t9,t10⟩:=ty_ne;have h34:Fr (fun k=>(Value.slice a n c).ownBlock=some k∨k=q) w3 (w4.setCell ⟨q,1,none⟩ (.slice a4 n4 c4)) :=
  ((((Fr.refl _ _).alloc ob).grown hg4 (fun k hk _=>.inl hk)).setCell (p:=⟨q,1,none⟩) (fun _=>.inr rfl) _)
 have row3:=hrow.frT (Fr.of_below hb3 (fun _=>False)) TyNe.no TyNe.no;have loc3:=(Fr.of_below hb3 (fun _=>False)).heap hloc (fun h=>h);have ty:TyNe w3 (fun k=>(Value.slice a n c).ownBlock=some k∨k=q) intE.e:=(TyNe.own row3.1 (Ne.symm t2)).or (TyNe.one loc3 (Ne.symm t4));refine⟨⟨_,n4,c4,a4,row_set loc4 1 _,ho4.fr (Fr.setAt w4 q 1 _) (fun k hk e=>ho4.off loc4 t9 (by unfold onB at e;rw[← e];exact hk)),by simp[hrow.2.1],?_⟩,?_⟩
 ·exact rows_snoc (R:=fun x l=>x.n=l.length∧Own intE (w4.setCell ⟨q,1,none⟩ (.slice a4 n4 c4)) q x.val l) hrow.2.1 (fun j hj hj'=>⟨(row3.2.2 j hj hj').1,(row3.2.2 j hj hj').2.frT h34 ty⟩) ⟨rfl,(ho3.frT h34 ty).base (fun k hk=>by have:=(ho3.lt hk).1;omega)⟩
 ·exact(Fr.of_below hb3 (fun k=>q≤k)).trans h34 (fun k hk h=>by
   rcases h with h | h
   ·exact(hrow.1.lt h).1
   ·omega)
def CpF (q:Nat) (g sv:Value) (hs:List Hd) (ls:List (List Int)) (wr:World) (fs:List Fun):Prop :=
 ∃ xs n c a,wr.heap[q]?=some (.cells #[g,sv,.slice a n c] 48)∧FnRow wr q (.slice a n c) xs fs∧ShRow wr q sv hs ls
theorem CpF.step {q:Nat} {g sv:Value} {wr w3 w4:World} {hs:List Hd} {ls:List (List Int)} {fs:List Fun} {f:Fun} {xs:List FnH} {n c n4 c4:Nat} {a a4:Option Addr} {x:FnH}
  (hloc:wr.heap[q]?=some (.cells #[g,sv,.slice a n c] 48)) (hrow:FnRow wr q (.slice a n c) xs fs) (hsh:ShRow wr q sv hs ls) (hb3:Below wr.heap.size wr w3)
  (hx:FnOwn w3 wr.heap.size x f) (ob:Obj) (ho4:Own fnE w4 q (.slice a4 n4 c4) (xs ++ [x])) (hg4:(w3.alloc ob).grownBy w4 (Value.slice a n c).ownBlock)
  (loc4:w4.heap[q]?=some (.cells #[g,sv,.slice a n c] 48)) :
  CpF q g sv hs ls (w4.setCell ⟨q,2,none⟩ (.slice a4 n4 c4)) (fs ++ [f])∧Fr (fun k=>q≤k) wr (w4.setCell ⟨q,2,none⟩ (.slice a4 n4 c4)):=by
 have hq:=heap_lt hloc;obtain⟨t1,t2,t3,t4,t5,t6,t7,t8,t9,t10⟩:=ty_ne;have h34:Fr (fun k=>(Value.slice a n c).ownBlock=some k∨k=q) w3 (w4.setCell ⟨q,2,none⟩ (.slice a4 n4 c4)) :=
  ((((Fr.refl _ _).alloc ob).grown hg4 (fun k hk _=>.inl hk)).setCell (p:=⟨q,2,none⟩) (fun _=>.inr rfl) _)
 have row3:=hrow.frT (Fr.of_below hb3 (fun _=>False)) TyNe.no TyNe.no TyNe.no;have sh3:=hsh.frT (Fr.of_below hb3 (fun _=>False)) TyNe.no TyNe.no;have loc3:=(Fr.of_below hb3 (fun _=>False)).heap hloc (fun h=>h);have tyI:TyNe w3 (fun k=>(Value.slice a n c).ownBlock=some k∨k=q) intE.e:=(TyNe.own row3.1 (Ne.symm t3)).or (TyNe.one loc3 (Ne.symm t4));have tyC:TyNe w3 (fun k=>(Value.slice a n c).ownBlock=some k∨k=q) insE.e:=(TyNe.own row3.1 (Ne.symm t6)).or (TyNe.one loc3 (Ne.symm t7));have tyS:TyNe w3 (fun k=>(Value.slice a n c).ownBlock=some k∨k=q) shE.e:=(TyNe.own row3.1 (Ne.symm t8)).or (TyNe.one loc3 (Ne.symm t9));have hx4:=hx.frT h34 tyI tyC;have hbs:∀ {α:Type} {E:Elem Tryz.prog α} {W:World} {v:Value} {l:List α},Own E W wr.heap.size v l→Own E W q v l:=fun h=>h.base (fun k hk=>by have:=(h.lt hk).1;omega)
 refine⟨⟨_,n4,c4,a4,row_set loc4 2 _,⟨ho4.fr (Fr.setAt w4 q 2 _) (fun k hk e=>ho4.off loc4 t10 (by unfold onB at e;rw[← e];exact hk)),by simp[hrow.2.1],?_⟩,sh3.frT h34 tyS tyI⟩,?_⟩
 ·exact fnrows_snoc (R:=fun x f=>FnOwn (w4.setCell ⟨q,2,none⟩ (.slice a4 n4 c4)) q x f) hrow.2.1 (fun j hj hj'=>(row3.2.2 j hj hj').frT h34 tyI tyC) ⟨hx4.1,hx4.2.1,⟨hx4.2.2.1.1,hbs hx4.2.2.1.2⟩,⟨hx4.2.2.2.1.1,hbs hx4.2.2.2.1.2⟩,hx4.2.2.2.2.1,hbs hx4.2.2.2.2.2⟩
 ·exact(Fr.of_below hb3 (fun k=>q≤k)).trans h34 (fun k hk h=>by
   rcases h with h | h
   ·exact(hrow.1.lt h).1
   ·omega)
theorem ShRow.mono {w:World} {B B':Nat} {v:Value} {hs:List Hd} {ls:List (List Int)} (h:ShRow w B v hs ls) (hb:B'≤B):ShRow w B' v hs ls :=
 ⟨h.1.base (fun k hk=>Nat.le_trans hb (h.1.lt hk).1),h.2.1,fun j hj hj'=>⟨(h.2.2 j hj hj').1,(h.2.2 j hj hj').2.base (fun k hk=>Nat.le_trans hb ((h.2.2 j hj hj').2.lt hk).1)⟩⟩
theorem FnOwn.mono {w:World} {B B':Nat} {x:FnH} {f:Fun} (h:FnOwn w B x f) (hb:B'≤B):FnOwn w B' x f :=
 ⟨h.1,h.2.1,⟨h.2.2.1.1,h.2.2.1.2.base (fun k hk=>Nat.le_trans hb (h.2.2.1.2.lt hk).1)⟩,⟨h.2.2.2.1.1,h.2.2.2.1.2.base (fun k hk=>Nat.le_trans hb (h.2.2.2.1.2.lt hk).1)⟩,h.2.2.2.2.1,h.2.2.2.2.2.base (fun k hk=>Nat.le_trans hb (h.2.2.2.2.2.lt hk).1)⟩
theorem FnRow.mono {w:World} {B B':Nat} {v:Value} {xs:List FnH} {fs:List Fun} (h:FnRow w B v xs fs) (hb:B'≤B):FnRow w B' v xs fs :=
 ⟨h.1.base (fun k hk=>Nat.le_trans hb (h.1.lt hk).1),h.2.1,fun j hj hj'=>(h.2.2 j hj hj').mono hb⟩
def CopyPost (p:Prg) (w:World) (e:Ending) (w':World):Prop :=
 ∃ c0 c1 c2,e=.returned (.agg #[c0,c1,c2])∧PrgOwn w' w.heap.size p c0 c1 c2∧Below w.heap.size w w'
theorem copyP_any (w:World) (D:Nat→Prop) (p:Prg) (c0 c1 c2:Value) (hv:PrgVal w D p c0 c1 c2) (hbulk:bulk p≤3000) :
  Calls Tryz.prog 97 #[.agg #[c0,c1,c2]] w (CopyPost p w):=by
 have hP:∀ wr,Below w.heap.size w wr→PrgVal wr D p c0 c1 c2:=fun wr hb=>hv.fr (Fr.of_below hb (fun _=>False)) (fun _ _ h=>h)
 obtain⟨⟨a0,m0,rfl,_⟩,⟨a1,m1,rfl,_⟩,a2,m2,rfl,_⟩:=hv;have hl0:p.globals.length≤3000∧p.shapes.length≤3000∧p.funcs.length≤3000:=by unfold bulk at hbulk;omega
 have hlS:∀ j (hj:j<p.shapes.length),p.shapes[j].length≤3000:=fun j hj=>by
  have:=sum_take shBulk p.shapes j hj;unfold bulk at hbulk;unfold shBulk at this hbulk;omega
 have hlF:∀ j (hj:j<p.funcs.length),fnBulk p.funcs[j]≤3000:=fun j hj=>by
  have:=sum_take fnBulk p.funcs j hj;unfold bulk at hbulk;omega
 have hb0:Below w.heap.size w ((w.alloc (.cells #[.slice a0 p.globals.length m0,.slice a1 p.shapes.length m1,.slice a2 p.funcs.length m2] 48)).alloc (.cells #[.slice none 0 0,.slice none 0 0,.slice none 0 0] 48)):=((Below.refl _ _).alloc (Nat.le_refl _) _).alloc (by simp) _;have hbx:=box2 w #[.slice a0 p.globals.length m0,.slice a1 p.shapes.length m1,.slice a2 p.funcs.length m2] #[.slice none 0 0,.slice none 0 0,.slice none 0 0] 48 48;obtain⟨W0,hW0⟩:∃ W0,W0=(w.alloc (.cells #[.slice a0 p.globals.length m0,.slice a1 p.shapes.length m1,.slice a2 p.funcs.length m2] 48)).alloc (.cells #[.slice none 0 0,.slice none 0 0,.slice none 0 0] 48):=⟨_,rfl⟩;have hres0:W0.heap[w.heap.size+1]?=some (.cells #[.slice none 0 0,.slice none 0 0,.slice none 0 0] 48):=by
  rw[hW0];have:=heap_new (w.alloc (.cells #[.slice a0 p.globals.length m0,.slice a1 p.shapes.length m1,.slice a2 p.funcs.length m2] 48)) (.cells #[.slice none 0 0,.slice none 0 0,.slice none 0 0] 48);rw[show (w.alloc (.cells #[.slice a0 p.globals.length m0,.slice a1 p.shapes.length m1,.slice a2 p.funcs.length m2] 48)).heap.size=w.heap.size+1 from by simp] at this;exact this
 have hz0:W0.heap.size=w.heap.size+2:=by rw[hW0];simp
 rw[← hW0] at hb0 hbx;have hcl:=cloneInts_any W0 D a0 p.globals m0 (by obtain⟨⟨a,c,e,h⟩,_⟩:=hP W0 hb0;injection e with e;rw[e];exact h) (by omega);obtain⟨k0,k1,k2⟩:W0.cell? ⟨w.heap.size,0,none⟩=some (.slice a0 p.globals.length m0)∧W0.cell? ⟨w.heap.size,1,none⟩=some (.slice a1 p.shapes.length m1)∧W0.cell? ⟨w.heap.size,2,none⟩=some (.slice a2 p.funcs.length m2):=by
  have h:=(hbx W0 (by rw[← hz0];exact Below.refl _ _)).1;exact⟨h 0 _ rfl,h 1 _ rfl,h 2 _ rfl⟩
 have HP:=k_ hP;clear hP;have HB0:=k_ hb0;clear hb0;have HBX:=k_ hbx;clear hbx;have HCL:=k_ hcl;clear hcl;have HRES0:=k_ hres0;clear hres0;have HLS:=k_ hlS;clear hlS;have HLF:=k_ hlF;clear hlF;have HZ0:=k_ hz0;clear hz0;have HW0:=k_ hW0
 go_enter Tryz.func97,Tryz.ntmps97
 clear hW0
 go_upto_region 1 with fail
 rw[← HW0.out];go_wp2_with fail;refine HCL.out.mono ?_;rintro e w1 ⟨v0,rfl,ho0,hb1⟩;obtain⟨ga,gc,rfl,_⟩:=own_int ho0;obtain⟨q,hq⟩:∃ q,q=w1.heap.size:=⟨_,rfl⟩;have hloc:=heap_new w1 (.cells #[.slice ga p.globals.length gc,.slice none 0 0,.slice none 0 0] 48);have hbq:=(Below.refl w1.heap.size w1).alloc (Nat.le_refl _) (.cells #[.slice ga p.globals.length gc,.slice none 0 0,.slice none 0 0] 48);obtain⟨W2,hW2⟩:∃ W2,W2=w1.alloc (.cells #[.slice ga p.globals.length gc,.slice none 0 0,.slice none 0 0] 48):=⟨_,rfl⟩;rw[← hW2,← hq] at hloc;rw[← hW2] at hbq;have hz1:w.heap.size+2≤q:=by have:=hb1.size;have:=HZ0.out;omega
 have hz2:q<W2.heap.size:=heap_lt hloc;have hB2:Below w.heap.size w W2:=(HB0.out.trans (hb1.mono (by have:=HZ0.out;omega))).trans (hbq.mono (by omega));have hbx2:=HBX.out W2 (by rw[← HZ0.out];exact hb1.trans (hbq.mono (by have:=HZ0.out;omega)));have hres2:W2.heap[w.heap.size+1]?=some (.cells #[.slice none 0 0,.slice none 0 0,.slice none 0 0] 48):=(Fr.of_below hbq (fun _=>False)).heap ((Fr.of_below hb1 (fun _=>False)).heap HRES0.out (fun h=>h)) (fun h=>h);have ho2:Own intE W2 W0.heap.size (.slice ga p.globals.length gc) p.globals:=ho0.below hbq;have hq0:∀ k,(Value.slice ga p.globals.length gc).ownBlock=some k→k<q:=fun k hk=>by have:=(ho0.lt hk).2;omega
 have d1:=hbx2.1 1 _ rfl;have d2:=hbx2.1 2 _ rfl;have hbel:∀ W,Fr (fun k=>q≤k) W2 W→Below w.heap.size w W:=fun W h=>hB2.trans (h.below (by omega) (fun k hk=>by omega))
 clear hbx2 hb1 hbq ho0 k0 k1 k2;have HW2:=k_ hW2;have HQ:=k_ hq;clear hW2 hq;have HLOC:=k_ hloc;clear hloc;have HB2:=k_ hB2;clear hB2;have HRES2:=k_ hres2;clear hres2;have HO2:=k_ ho2;clear ho2;have HQ0:=k_ hq0;clear hq0;have HBEL:=k_ hbel;clear hbel
 go_upto_region 2 with fail
 rw[← HW2.out,← HQ.out];go_wp2_with fail;clear d1;have HD2:=k_ d2;clear d2
 go_loopw [15] (fun i wr=>∃ k:Nat,k≤p.shapes.length∧i=.int .i64 k∧CpS q (.slice ga p.globals.length gc) wr (p.shapes.take k)∧Fr (fun k=>q≤k) W2 wr) (fun i _=>p.shapes.length - (intOf i).toNat)
 case atStart=>exact⟨0,Nat.zero_le _,rfl,⟨[],0,0,none,HLOC.out,ShRow.nil _ _⟩,Fr.refl _ _⟩
 case round =>
  obtain⟨k,hk,rfl,⟨hs,n,c,a,hlocr,hrow⟩,hf⟩:=hrel
  by_cases hlt:k<p.shapes.length
  ·have hB:=HBEL.out _ hf
   obtain⟨_,⟨_,_,e1,hsl⟩,_⟩:=HP.out wr hB
   injection e1 with e1 e2 e3
   clear e2 e3;subst e1;obtain⟨b,o,rfl,_,a',c',hcell,hin⟩:=hsl k hlt;have hsn:=take_snoc p.shapes k hlt;have hll:=HLS.out k hlt;generalize p.shapes[k]=l at *;have hlen:(p.shapes.take k).length=k:=by rw[List.length_take];omega
   have hsz:hs.length=k:=by rw[hrow.2.1,hlen]
   obtain⟨y,hy⟩:∃ y,y=wr.heap.size:=⟨_,rfl⟩;have hbs:=(Below.refl wr.heap.size wr).alloc (Nat.le_refl _) (.cells #[.slice a' l.length c'] 82);have hly:=heap_new wr (.cells #[.slice a' l.length c'] 82);obtain⟨wS,hwS⟩:∃ wS,wS=wr.alloc (.cells #[.slice a' l.length c'] 82):=⟨_,rfl⟩;rw[← hwS] at hbs;rw[← hwS,← hy] at hly;have hinS:=hin.fr (Fr.of_below hbs (fun _=>False)) (fun _ _ h=>h);have CALL:=cloneInts_any wS.drew _ a' l c' (hinS.fr ((Fr.refl (fun _=>False) wS).drew) (fun _ _ h=>h)) (by omega);have s0:wS.cell? ⟨y,0,none⟩=some (.slice a' l.length c'):=(row_cell hly 0).1;have locS:=(Fr.of_below hbs (fun _=>False)).heap hlocr (fun h=>h);obtain⟨⟨q0,q1,q2⟩,_⟩:=three_cells locS;have hoS:=hrow.1.below hbs;have hzq:q<wr.heap.size:=heap_lt hlocr;have hzS:=hbs.size;have HWS:=k_ hwS;have HY:=k_ hy;clear hwS hy hin hinS hly hsl hB;have HROW:=k_ hrow;clear hrow;have HF:=k_ hf;clear hf;have HSN:=k_ hsn;clear hsn;have HLEN:=k_ hlen;clear hlen;have HBS:=k_ hbs;clear hbs;have LOCS:=k_ locS;clear locS;have HOS:=k_ hoS;clear hoS;have HLOCR:=k_ hlocr;clear hlocr;have CALL':=k_ CALL;clear CALL q0 q2
   go_upto_region 5 with fail
   rw[← HWS.out,← HY.out];clear hcell
   go_region_law (first | (go_simp;go_at_call 108;refine CALL'.out.mono ?_;rintro e w3 ⟨v3,rfl,ho3,hb3⟩;obtain⟨a3,n3,rfl,_⟩:=own_int ho3;have q1':=below_cell hb3 (show wS.drew.cell? _=_ from q1);have s0':=below_cell hb3 (show wS.drew.cell? _=_ from s0);have q1'':q<w3.heap.size:=World.block_lt q1';have s0'':y<w3.heap.size:=World.block_lt s0';have loc3:=(Fr.of_below hb3 (fun _=>False)).heap (show wS.drew.heap[q]?=_ from LOCS.out) (fun h=>h)) | (refine step_append_fresh shE rfl (.tmp 20) (.tmp 25) rfl q hs [⟨a3,l.length,n3⟩] _ rfl ((HOS.out.drew.below hb3).alloc _) w3.heap.size 0 1 rfl (CellsAt.new _ _ _ _) (by simp;omega) (by have:=heap_lt loc3;simp;omega) ?_;intro v4 w4 ho4 hg4 hfr4;have loc4:w4.heap[q]?=some (.cells #[.slice ga p.globals.length gc,.slice a n c,.slice none 0 0] 48):=(by rw[hg4.block _ (by have:=heap_lt loc3;simp;omega) (fun e=>HOS.out.off LOCS.out ty_ne.2.2.2.2.2.2.2.2.1 e.symm),Below.heap_alloc _ _ _ (heap_lt loc3)];exact loc3);obtain⟨⟨j0,j1,j2⟩,f0,f1,f2⟩:=three_cells loc4;obtain⟨a4,n4,c4,rfl⟩:=ho4.slice))
   all_goals
    have hb3':Below wr.heap.size wr w3:=HBS.out.trans ((((Below.refl wS.heap.size wS).drew).trans hb3).mono hzS);have hst:=CpS.step HLOCR.out HROW.out hb3' (ho3.base (fun k hk=>by have:=(ho3.lt hk).1;have:wS.drew.heap.size=wS.heap.size:=rfl;omega)) _ ho4 hg4 loc4;have HST:=k_ hst;clear hst;clear hb3' ho3 hb3 ho4 hg4 hfr4 loc4 loc3;go_wp2_with fail
    go_roundw
    case rel=>exact⟨k+1,by omega,by go_num,by rw[HSN.out];exact HST.out.1,HF.out.trans HST.out.2 (fun _ _ h=>h)⟩
    case measure=>simp[intOf];omega
  ·have hk':k=p.shapes.length:=by omega
   subst hk';rw[List.take_length] at hrow;have d2:wr.cell? ⟨w.heap.size,2,none⟩=some (.slice a2 p.funcs.length m2):=hf.cell HD2.out (by show ¬ q≤w.heap.size;omega);have HROW:=k_ hrow;clear hrow;have HF:=k_ hf;clear hf;have HLOCR:=k_ hlocr;clear hlocr;go_wp2_with fail;clear d2
   go_loopw [32] (fun i wx=>∃ k:Nat,k≤p.funcs.length∧i=.int .i64 k∧CpF q (.slice ga p.globals.length gc) (.slice a n c) hs p.shapes wx (p.funcs.take k)∧Fr (fun k=>q≤k) W2 wx) (fun i _=>p.funcs.length - (intOf i).toNat)
   case atStart=>exact⟨0,Nat.zero_le _,rfl,⟨[],0,0,none,HLOCR.out,FnRow.nil _ _,HROW.out⟩,HF.out⟩
   case round =>
    obtain⟨k,hk,rfl,⟨xs,nf,cf,af,hlocx,hfrow,hsrow⟩,hfx⟩:=hrel
    by_cases hlt:k<p.funcs.length
    ·have hB:=HBEL.out _ hfx
     obtain⟨_,_,_,_,e1,hsl⟩:=HP.out wr hB
     injection e1 with e1 e2 e3
     clear e2 e3;subst e1;obtain⟨b,o,rfl,_,y0,y1,y2,y3,y4,h0,h1,h2,h3,h4,hfv⟩:=hsl k hlt;obtain⟨rfl,rfl,⟨x0,n0,rfl,i0⟩,⟨x3,n3,rfl,i3⟩,x4,n4,rfl,i4⟩:=hfv;have hsn:=take_snoc p.funcs k hlt;have hll:=HLF.out k hlt;generalize p.funcs[k]=f at *;unfold fnBulk at hll;have hlen:(p.funcs.take k).length=k:=by rw[List.length_take];omega
     have hsz:xs.length=k:=by rw[hfrow.2.1,hlen]
     obtain⟨y,hy⟩:∃ y,y=wr.heap.size:=⟨_,rfl⟩;have hbs:=(Below.refl wr.heap.size wr).alloc (Nat.le_refl _) (.cells #[.slice x0 f.args.length n0,.int .i64 f.result,.int .i64 f.slots,.slice x3 f.objects.length n3,.slice x4 f.code.length n4] 66);have hly:=heap_new wr (.cells #[.slice x0 f.args.length n0,.int .i64 f.result,.int .i64 f.slots,.slice x3 f.objects.length n3,.slice x4 f.code.length n4] 66);have hzs:(wr.alloc (.cells #[.slice x0 f.args.length n0,.int .i64 f.result,.int .i64 f.slots,.slice x3 f.objects.length n3,.slice x4 f.code.length n4] 66)).heap.size=y+1:=by rw[hy];simp
     obtain⟨wS,hwS⟩:∃ wS,wS=wr.alloc (.cells #[.slice x0 f.args.length n0,.int .i64 f.result,.int .i64 f.slots,.slice x3 f.objects.length n3,.slice x4 f.code.length n4] 66):=⟨_,rfl⟩;rw[← hwS] at hbs hzs;rw[← hwS,← hy] at hly;have ca:=fun W (h:Below wr.heap.size wr W)=>cloneInts_any W _ x0 f.args n0 (i0.fr (Fr.of_below h (fun _=>False)) (fun _ _ h=>h)) (by omega)
     have cb:=fun W (h:Below wr.heap.size wr W)=>cloneInts_any W _ x3 f.objects n3 (i3.fr (Fr.of_below h (fun _=>False)) (fun _ _ h=>h)) (by omega)
     have cc:=fun W (h:Below wr.heap.size wr W)=>cloneInstrs_any W _ x4 f.code n4 (i4.fr (Fr.of_below h (fun _=>False)) (fun _ _ h=>h)) (by omega)
     obtain⟨⟨t0,t1,t2,t3,t4⟩,_⟩:=five_cells hly;have hzq:q<wr.heap.size:=heap_lt hlocx;have HWS:=k_ hwS;have HY:=k_ hy;clear hwS hy i0 i3 i4 hsl hB;have HFROW:=k_ hfrow;clear hfrow;have HSROW:=k_ hsrow;clear hsrow;have HFX:=k_ hfx;clear hfx;have HSN:=k_ hsn;clear hsn;have HLEN:=k_ hlen;clear hlen;have HBS:=k_ hbs;clear hbs;have HLOCX:=k_ hlocx;clear hlocx;have HLY:=k_ hly;clear hly;have CA:=k_ ca;clear ca;have CB:=k_ cb;clear cb;have CC:=k_ cc;clear cc;have HZS:=k_ hzs;clear hzs
     go_upto_region 10 with fail
     rw[← HWS.out,← HY.out];clear h0 h1 h2 h3 h4
     go_cut [] (fun wq=>∃ u0 u3 u4:Hd,wq.heap[y]?=some (.cells #[u0.val,.int .i64 f.result,.int .i64 f.slots,u3.val,u4.val] 66)∧FnOwn wq wr.heap.size ⟨u0,f.result,f.slots,u3,u4⟩ f∧Below wr.heap.size wr wq)
     case first =>
      have hbd:Below wr.heap.size wr wS.drew:=HBS.out.drew
      go_region_law (first | (go_simp;go_at_call 118;refine(CC.out w4 hc4).mono ?_;rintro e w5 ⟨v5,rfl,oc,hb5⟩;obtain⟨xc,nc,rfl,_⟩:=own_insD oc;have hc5:=hc4.trans (hb5.mono hc4.size);have ly5:=(Fr.of_below hb5 (fun _=>False)).heap ly4 (fun h=>h);obtain⟨⟨c0',c1',c2',c3',c4'⟩,d0',d1',d2',d3',d4'⟩:=five_cells ly5) | (go_simp;go_at_call 108;refine(CB.out w3 hc3).mono ?_;rintro e w4 ⟨v4,rfl,ob,hb4⟩;obtain⟨xb,nb,rfl,_⟩:=own_int ob;have hc4:=hc3.trans (hb4.mono hc3.size);have ly4:=(Fr.of_below hb4 (fun _=>False)).heap ly3 (fun h=>h);obtain⟨⟨b0',b1',b2',b3',b4'⟩,_⟩:=five_cells ly4) | (go_simp;go_at_call 108;refine(CA.out wS.drew hbd).mono ?_;rintro e w3 ⟨v3,rfl,oa,hb3⟩;obtain⟨xa,na,rfl,_⟩:=own_int oa;have hc3:=hbd.trans (hb3.mono hbd.size);have ly3:=(Fr.of_below hb3 (fun _=>False)).heap (show wS.drew.heap[y]?=_ from HLY.out) (fun h=>h);obtain⟨⟨a0',a1',a2',a3',a4'⟩,_⟩:=five_cells ly3))
      all_goals
       go_wp2_with fail
       go_meet
       case rel =>
        have l5:=row_set (row_set (row_set ly5 0 (.slice xa f.args.length na)) 3 (.slice xb f.objects.length nb)) 4 (.slice xc f.code.length nc);have hfr:Fr (onB y) w5 _:=(((Fr.refl (onB y) w5).setCell (p:=⟨y,0,none⟩) (fun _=>rfl) (.slice xa f.args.length na)).setCell (p:=⟨y,3,none⟩) (fun _=>rfl) (.slice xb f.objects.length nb)).setCell (p:=⟨y,4,none⟩) (fun _=>rfl) (.slice xc f.code.length nc);have tyI:TyNe w5 (onB y) intE.e:=TyNe.one ly5 (Ne.symm ty_ne.2.2.1);have tyC:TyNe w5 (onB y) insE.e:=TyNe.one ly5 (Ne.symm ty_ne.2.2.2.2.2.1);have zS:=hbd.size;have z3:=hc3.size;have z4:=hc4.size;refine⟨⟨xa,f.args.length,na⟩,⟨xb,f.objects.length,nb⟩,⟨xc,f.code.length,nc⟩,l5,⟨rfl,rfl,⟨rfl,((((oa.below hb4).below hb5).frT hfr tyI).base (fun k hk=>Nat.le_trans zS (oa.lt hk).1))⟩,⟨rfl,(((ob.below hb5).frT hfr tyI).base (fun k hk=>Nat.le_trans z3 (ob.lt hk).1))⟩,rfl,((oc.frT hfr tyC).base (fun k hk=>Nat.le_trans z4 (oc.lt hk).1))⟩,hc5.trans (hfr.below hc5.size (fun k hk=>by unfold onB at hk;have:=HY.out;omega))⟩
     case rest =>
      obtain⟨u0,u3,u4,hlq,hfo,hbc⟩:=hcut;have locQ:=(Fr.of_below hbc (fun _=>False)).heap HLOCX.out (fun h=>h);clear t0 t1 t2 t3 t4;obtain⟨⟨j0,j1,j2⟩,f0,f1,f2⟩:=three_cells locQ;obtain⟨⟨v0,v1,v2,v3,v4⟩,_⟩:=five_cells hlq;unfold Hd.val at v0 v3 v4;have hoQ:=HFROW.out.1.below hbc;have hzw:=hbc.size;have HLQ:=k_ hlq;clear hlq;have HFO:=k_ hfo;clear hfo;have LOCQ:=k_ locQ;clear locQ;have HOQ:=k_ hoQ;clear hoQ;have HBC:=k_ hbc;clear hbc
      go_wp2_with (at_builtin;refine append_fresh fnE rfl (.tmp 49) (.tmp 51) rfl q xs [⟨u0,f.result,f.slots,u3,u4⟩] _ rfl (HOQ.out.alloc _) wc.heap.size 0 1 rfl (CellsAt.new _ _ _ _) ?c1 ?c2 ?_)
      case c1=>simp;omega
      case c2=>simp;omega
      intro v4' w4 ho4 hg4 hfr4;have loc4:w4.heap[q]?=some (.cells #[.slice ga p.globals.length gc,.slice a n c,.slice af nf cf] 48):=by
       rw[hg4.block _ (by simp;omega) (fun e=>HOQ.out.off LOCQ.out ty_ne.2.2.2.2.2.2.2.2.2 e.symm),Below.heap_alloc _ _ _ (by omega)];exact LOCQ.out
      clear j0 j1 j2 f0 f1 f2 v0 v1 v2 v3 v4;obtain⟨⟨k0,k1,k2⟩,j0,j1,j2⟩:=three_cells loc4;obtain⟨a4,n4,c4,rfl⟩:=ho4.slice;have hst:=CpF.step HLOCX.out HFROW.out HSROW.out HBC.out HFO.out _ ho4 hg4 loc4;have HST:=k_ hst;clear hst;clear ho4 hg4 hfr4 loc4;go_wp2_with fail
      go_roundw
      case rel=>exact⟨k+1,by omega,by go_num,by rw[HSN.out];exact HST.out.1,HFX.out.trans HST.out.2 (fun _ _ h=>h)⟩
      case measure=>simp[intOf];omega
    ·have hk':k=p.funcs.length:=by omega
     subst hk';rw[List.take_length] at hfrow;have hresx:wr.heap[w.heap.size+1]?=some (.cells #[.slice none 0 0,.slice none 0 0,.slice none 0 0] 48):=hfx.heap HRES2.out (by show ¬ q≤w.heap.size+1;omega);have hrx:=row_set (row_set (row_set hresx 0 (.slice ga p.globals.length gc)) 1 (.slice a n c)) 2 (.slice af nf cf);have hfr:Fr (onB (w.heap.size+1)) wr _:=(((Fr.refl (onB (w.heap.size+1)) wr).setCell (p:=⟨w.heap.size+1,0,none⟩) (fun _=>rfl) (.slice ga p.globals.length gc)).setCell (p:=⟨w.heap.size+1,1,none⟩) (fun _=>rfl) (.slice a n c)).setCell (p:=⟨w.heap.size+1,2,none⟩) (fun _=>rfl) (.slice af nf cf);have hB:=HBEL.out _ hfx;have hty:∀ e,(48:TypeId)≠e→TyNe wr (onB (w.heap.size+1)) e:=fun e he=>TyNe.one hresx he
     obtain⟨t1,t2,t3,t4,t5,t6,t7,t8,t9,t10⟩:=ty_ne;have hox:=HO2.out.fr hfx (fun k hk h=>by have:=HQ0.out k hk;omega);have hfin:CopyPost p w (.returned (.agg #[.slice ga p.globals.length gc,.slice a n c,.slice af nf cf])) _:=⟨_,_,_,rfl,⟨(hox.frT hfr (hty _ (Ne.symm t4))).base (fun k hk=>by have:=(hox.lt hk).1;have:=HZ0.out;omega),⟨hs,(hsrow.frT hfr (hty _ (Ne.symm t9)) (hty _ (Ne.symm t4))).mono (by omega)⟩,xs,(hfrow.frT hfr (hty _ (Ne.symm t10)) (hty _ (Ne.symm t4)) (hty _ (Ne.symm t7))).mono (by omega)⟩,hB.trans (hfr.below hB.size (fun k hk=>by unfold onB at hk;omega))⟩;obtain⟨⟨j0,j1,j2⟩,_⟩:=three_cells hlocx;obtain⟨_,f0,f1,f2⟩:=three_cells hresx;clear hox hty hfr hB hfx hsrow hfrow hlocx hresx t1 t2 t3 t4 t5 t6 t7 t8 t9 t10;have HFIN:=k_ hfin;clear hfin;have HRX:=k_ hrx;clear hrx
     go_wp2_with (with_reducible refine bodyPost_ret ?_ rfl HFIN.out;obtain⟨⟨k0,k1,k2⟩,_⟩:=three_cells HRX.out;simp[results,Tryz.results97,go_sem,k0,k1,k2])
end Go.Proofs.YtlofbhoicbemnaaGreatDoor
