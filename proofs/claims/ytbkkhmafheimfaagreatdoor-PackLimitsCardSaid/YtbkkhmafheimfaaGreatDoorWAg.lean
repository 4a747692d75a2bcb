/- Families of lists that one owns, none of which lies in another's memory. Nothing of the program's text stands here. Walks: the book's .. -/
import Derived.Test.YtbkkhmafheimfaaGreatDoorWAe
import Derived.Test.YtbkkhmafheimfaaGreatDoorWAf
import Derived.BigRegion
import Derived.Deep.DeepCutAuto
import Derived.Deep.RegionHeld3
import Derived.Maps.Keyed
import Derived.DeepKeys4
import Derived.Test.YtbkkhmafheimfaaGreatDoorChecked
import Derived.Deep.CutBlock
set_option linter.unusedVariables false
set_option linter.unusedSimpArgs false
set_option maxRecDepth 100000
set_option maxHeartbeats 4000000
namespace Go.Proofs.YtbkkhmafheimfaaGreatDoor
open Go.RowKit
variable {P:Program} {α:Type}
variable {E:Elem P α} {HE:Elem P Hd} {w w':World} {B:Nat} {X:Nat→Prop} {v:Value} {hs:List Hd} {ls:List (List α)}
end Go.Proofs.YtbkkhmafheimfaaGreatDoor
namespace Go.Proofs.YtbkkhmafheimfaaGreatDoor
open Go.ChangeShapes Go.WideShapes Go.ChangeAt Go.RowKit
def marks {α:Type} (mk:Nat→Nat→α) (i f n:Nat):List α:=(List.range n).map fun t=>mk i (f+t)
theorem int_map (l:List Int):l.flatMap intE.enc=l.map (Value.int .i64):=by
 induction l with
 | nil=>rfl
 | cons x l ih=>rw[List.flatMap_cons,ih];rfl
theorem sl_cellsInts {w:World} {D:Nat→Prop} {a:Option Addr} {l:List Int} (h:IntSl w D a l) (hn:1≤l.length):∃ b o,a=some ⟨b,o,none⟩∧CellsAt w b o (l.flatMap intE.enc):=by
 obtain⟨b,o,rfl,_,_⟩:=h 0 (by omega);refine⟨b,o,rfl,fun j u hj=>?_⟩;rw[int_map] at hj
 rcases Nat.lt_or_ge j l.length with hlt | hge
 ·obtain⟨b',o',h1,_,h3⟩:=h j hlt
  injection h1 with h1
  injection h1 with h1 h2 _
  subst h1 h2;rw[List.getElem?_map,List.getElem?_eq_getElem hlt] at hj
  injection hj with hj
  rw[← hj];exact h3
 ·rw[List.getElem?_eq_none (by simpa using hge)] at hj;cases hj
theorem sl_cellsInstrs {w:World} {D:Nat→Prop} {a:Option Addr} {l:List Ins} (h:InsSlD w D a l) (hn:1≤l.length):∃ b o,a=some ⟨b,o,none⟩∧CellsAt w b o (l.flatMap insE.enc):=by
 obtain⟨b,o,rfl,_,_⟩:=h 0 (by omega);refine⟨b,o,rfl,fun j u hj=>?_⟩;have hlen:=insE.len l
 rcases Nat.lt_or_ge (j / 4) l.length with hlt | hge
 ·obtain⟨b',o',h1,_,h3⟩:=h (j / 4) hlt
  injection h1 with h1
  injection h1 with h1 h2 _
  subst h1 h2;have hf:=flat_cells l (j / 4) (j % 4) hlt (by omega);have ej:j / 4 * 4+j % 4=j:=by omega
  rw[ej] at hf;have hj:(l.flatMap Ins.cells)[j]?=some u:=hj;rw[hf] at hj;obtain⟨q0,q1,q2,q3⟩:=h3;have hr:j % 4<4:=by omega
  have eo:o+j=o+j / 4 * 4+j % 4:=by omega
  rw[eo];generalize j % 4=r at *
  match r,hr,hj with
  | 0,_,hj=>injection hj with hj;rw[← hj];exact q0
  | 1,_,hj=>injection hj with hj;rw[← hj];exact q1
  | 2,_,hj=>injection hj with hj;rw[← hj];exact q2
  | 3,_,hj=>injection hj with hj;rw[← hj];exact q3
 ·have:l.length * 4≤j:=by omega
  rw[List.getElem?_eq_none (by rw[hlen];exact this)] at hj;cases hj
def writesS (op:Int):Bool:=decide (op ∈ [1,2,3,4,5,6,7,8,11,12,13,14,16,18,19,21,26])
def safeS (op:Int):Bool:=decide (op ∈ [13,21,9,10,28,22])
theorem writes_out (op:Int) (h:op<0∨29<op):writesS op=false:=by simp[writesS];omega
theorem safe_out (op:Int) (h:op<0∨29<op):safeS op=false:=by simp[safeS];omega
def wrSaid (w:World) (op:Int):Prop:=∀ a b c:Int,Calls Tryz.prog 173 #[.agg #[.int .i64 op,.int .i64 a,.int .i64 b,.int .i64 c]] w fun e w'=>e=.returned (.tuple #[.int .i64 (if writesS op then a else 0),.bool (writesS op)])∧Below w.heap.size w w'
theorem wr_in (w:World):∀ op ∈ opsAll,wrSaid w op:=by
 apply ops_all <;> (unfold wrSaid;intro a b c;go_enter Tryz.func173,Tryz.ntmps173;go_wp2;go_ret2;exact⟨rfl,(Below.refl _ _).alloc (Nat.le_refl _) _⟩)
theorem wr_any (w:World) (op:Int):wrSaid w op:=by
 refine op_cases (wr_in w) (fun op h=>?_) (fun op h=>?_) op
 all_goals
  unfold wrSaid;intro a b c;rw[writes_out op (by omega)]
  go_enter Tryz.func173,Tryz.ntmps173
  go_wp2
  go_ret2
  exact⟨rfl,(Below.refl _ _).alloc (Nat.le_refl _) _⟩
def SafeSaid (w:World) (op:Int):Prop:=Calls Tryz.prog 115 #[.int .i64 op] w fun e w'=>e=.returned (.bool (safeS op))∧w=w'
theorem safe_in (w:World):∀ op ∈ opsAll,SafeSaid w op:=by
 apply ops_all <;> (unfold SafeSaid;go_enter Tryz.func115,Tryz.ntmps115;go_wp2;go_ret;exact⟨rfl,rfl⟩)
theorem safe_any (w:World) (op:Int):SafeSaid w op:=by
 refine op_cases (safe_in w) (fun op h=>?_) (fun op h=>?_) op
 all_goals
  unfold SafeSaid;rw[safe_out op (by omega)]
  go_enter Tryz.func115,Tryz.ntmps115
  go_wp2
  go_ret
  exact⟨rfl,rfl⟩
def IdxPost (l:List Int) (x:Int) (w:World) (e:Ending) (w':World):Prop:=∃ r:Int,e=.returned (.int .i64 r)∧decide (0≤r)=decide (x ∈ l)∧w'=w
theorem idx_any (w:World) (D:Nat→Prop) (a:Option Addr) (l:List Int) (c:Nat) (x:Int) (hl:IntSl w D a l) (hn:l.length≤1000000) :
  Calls Tryz.prog 176 #[.slice a l.length c,.int .i64 x] w (IdxPost l x w):=by
 have HL:=k_ hl;clear hl
 go_enter Tryz.func176,Tryz.ntmps176
 go_wp2_with fail
 go_loopw [8] (fun i wr=>∃ k:Nat,k≤l.length∧i=.int .i64 k∧x ∉ l.take k∧wr=w) (fun i _=>l.length - (intOf i).toNat)
 case atStart=>exact⟨0,Nat.zero_le _,rfl,by simp,rfl⟩
 case round =>
  obtain⟨k,hk,rfl,hno,rfl⟩:=hrel
  by_cases hlt:k<l.length
  ·obtain⟨b,o,rfl,_,hx⟩:=HL.out k hlt
   have hsn:=take_snoc l k hlt;have hmem:=List.getElem_mem hlt;generalize l[k]=y at *
   by_cases hxy:x=y
   ·subst hxy
    have hP:IdxPost l x wr (.returned (.int .i64 k)) wr:=⟨k,rfl,by simp[hmem],rfl⟩;have HP:=k_ hP;clear hsn hmem hno hP;go_wp2_with fail
    go_ret
    exact HP.out
   ·have hb:(x == y)=false:=by simpa using hxy
    have hno2:x ∉ l.take (k+1):=by rw[hsn];simp;exact⟨hno,hxy⟩
    clear hsn hmem hno hxy;have HNO2:=k_ hno2;clear hno2;go_wp2_with fail
    go_roundw
    case rel=>exact⟨k+1,by omega,by go_num,HNO2.out,by first | rfl | trivial⟩
    case measure=>simp[intOf];omega
  ·have hno2:x ∉ l:=by rw[List.take_of_length_le (by omega)] at hno;exact hno
   have hP:IdxPost l x wr (.returned (.int .i64 (-1))) wr:=⟨-1,rfl,by simp[hno2],rfl⟩;have HP:=k_ hP;clear hno hno2 hP;go_wp2_with fail
   go_ret
   exact HP.out
theorem contains_any (w:World) (D:Nat→Prop) (a:Option Addr) (l:List Int) (c:Nat) (x:Int) (hl:IntSl w D a l) (hn:l.length≤1000000) :
  Calls Tryz.prog 108 #[.slice a l.length c,.int .i64 x] w fun e w'=>e=.returned (.bool (decide (x ∈ l)))∧w'=w:=by
 have h:=idx_any w D a l c x hl hn;clear hl;have H:=k_ h;clear h
 go_enter Tryz.func108,Tryz.ntmps108
 go_wp2_with fail;refine H.out.mono ?_;rintro e w1 ⟨r,rfl,hr,rfl⟩;have HR:=k_ hr;clear hr;go_wp2_with fail
 go_ret
 exact⟨by rw[← HR.out];rfl,rfl⟩
def onceL (l:List Int):List Int:=l.foldl (fun out n=>if n ∈ out then out else out ++ [n]) []
theorem onceL_snoc (l:List Int) (x:Int):onceL (l ++ [x])=if x ∈ onceL l then onceL l else onceL l ++ [x]:=by
 unfold onceL;rw[List.foldl_append]
 rfl
theorem onceL_len (l:List Int) (k:Nat):(onceL (l.take k)).length≤k:=by
 induction k with
 | zero=>simp[onceL]
 | succ k ih =>
   by_cases h:k<l.length
   ·rw[take_snoc l k h,onceL_snoc]
    split
    ·omega
    ·simp;omega
   ·rw[List.take_of_length_le (by omega)]
    rw[List.take_of_length_le (by omega)] at ih
    omega
theorem once_any (w:World) (D:Nat→Prop) (a:Option Addr) (l:List Int) (c:Nat) (hl:IntSl w D a l) (hn:l.length≤100000) :
  Calls Tryz.prog 324 #[.slice a l.length c] w fun e w'=>∃ v,e=.returned v∧Own intE w' w.heap.size v (onceL l)∧Below w.heap.size w w':=by
 have HL:=k_ hl;clear hl
 go_enter Tryz.func324,Tryz.ntmps324
 go_wp2_with fail
 go_loopw [3,8] (fun v i wr=>∃ k:Nat,k≤l.length∧i=.int .i64 k∧Own intE wr w.heap.size v (onceL (l.take k))∧Below w.heap.size w wr) (fun _ i _=>l.length - (intOf i).toNat)
 case atStart=>exact⟨0,Nat.zero_le _,rfl,Own.nil _ _ _,Below.refl _ _⟩
 case round =>
  obtain⟨k,hk,rfl,hown,hB⟩:=hrel
  by_cases hlt:k<l.length
  ·obtain⟨b,o,rfl,_,hx⟩:=HL.out k hlt
   have hx:=below_cell hB hx;have hsn:=take_snoc l k hlt;have hos:=onceL_snoc (l.take k) l[k];rw[← hsn] at hos;have hol:=onceL_len l k;generalize l[k]=x at *;generalize onceL (l.take k)=L at *;obtain⟨a1,c1,hv,hsl⟩:∃ a1 c1,_=Value.slice a1 L.length c1∧IntSl wr _ a1 L:=by
    obtain⟨a1,c1,h1,h2⟩:=own_int hown;exact⟨a1,c1,h1,h2⟩
   subst hv;have hc:=contains_any wr _ a1 L c1 x hsl (by omega);clear hsl hsn
   by_cases hm:x ∈ L
   ·rw[if_pos hm] at hos
    rw[decide_eq_true hm] at hc;clear hm;have HC:=k_ hc;clear hc;have HOS:=k_ hos;clear hos;have HOWN:=k_ hown;clear hown;have HB:=k_ hB;clear hB;go_wp2_with fail;refine HC.out.mono ?_;rintro e w1 ⟨rfl,rfl⟩;go_wp2_with fail
    go_roundw
    case rel=>exact⟨k+1,by omega,by go_num,by rw[HOS.out];exact HOWN.out,HB.out⟩
    case measure=>simp[intOf];omega
   ·rw[if_neg hm] at hos
    rw[decide_eq_false hm] at hc;clear hm;have HC:=k_ hc;clear hc;have HOS:=k_ hos;clear hos;have HOWN:=k_ hown;clear hown;have HB:=k_ hB;clear hB;go_wp2_with fail;refine HC.out.mono ?_;rintro e w1 ⟨rfl,rfl⟩
    go_wp2_with (at_builtin;refine append_own intE rfl (.tmp 16) (.tmp 18) rfl w.heap.size L [x] _ rfl (HOWN.out.alloc _) w1.heap.size 0 1 rfl (CellsAt.new _ _ _ _) ?c1 ?c2 ?_)
    case c1=>simp;omega
    case c2=>have:=HB.out.size;simp;omega
    intro v2 w2 hown2 hg2;have hB2:=k_ (below_grown (HB.out.alloc HB.out.size _) (HOWN.out.alloc _) hg2 (by have:=HB.out.size;simp;omega) (Nat.le_refl _));have HO2:=k_ hown2;clear hown2 hg2;go_wp2_with fail
    go_roundw
    case rel=>exact⟨k+1,by omega,by go_num,by rw[HOS.out];exact HO2.out,hB2.out⟩
    case measure=>simp[intOf];omega
  ·have hk':k=l.length:=by omega
   subst hk';rw[List.take_length] at hown;have hP:∀ v,Own intE wr w.heap.size v (onceL l)→∃ v',Ending.returned v=.returned v'∧Own intE wr w.heap.size v' (onceL l)∧Below w.heap.size w wr:=fun v hv=>⟨v,rfl,hv,hB⟩
   have HP:=k_ (hP _ hown);clear hP hown hB;go_wp2_with fail
   go_ret
   exact HP.out
def nArgs (args:Int):Nat:=(min (max args 0) 16).toNat
def argSlots (c:Int) (n:Nat):List Int:=(List.range n).map fun k:Nat=>wrap64 (c+(k:Int))
def readsL (x:Ins) (args:Int):List Int :=
 if x.op ∈ [2,12,14,17,19] then [x.b]
 else if x.op ∈ [3,4,5,6,7,8] then onceL [x.b,x.c]
 else if x.op ∈ [10,29] then [x.a]
 else if x.op ∈ [15,20] then onceL [x.a,x.c]
 else if x.op ∈ [25] then onceL [x.a,x.b]
 else if x.op ∈ [21,23,24] then argSlots x.c (nArgs args)
 else []
theorem argSlots_len (c:Int) (n:Nat):(argSlots c n).length=n:=by simp[argSlots]
theorem nArgs_le (args:Int):nArgs args≤16∧(nArgs args:Int)=min (max args 0) 16:=by unfold nArgs;omega
theorem once_new (w:World) (l:List Int) (hl:l.length≤100) (g:Nat) (hg:g=w.heap.size):Calls Tryz.prog 324 #[.slice (some ⟨g,0,none⟩) l.length l.length] (w.alloc (.cells (l.map (Value.int .i64)).toArray 3)) fun e w'=>∃ v,e=.returned v∧Own intE w' (w.heap.size+1) v (onceL l)∧Below w.heap.size w w':=by
 subst hg;refine(once_any _ _ _ l l.length (int_new w l) (by omega)).mono ?_;rintro e w' ⟨v,rfl,ho,hb⟩;have hs:(w.alloc (.cells (l.map (Value.int .i64)).toArray 3)).heap.size=w.heap.size+1:=by simp
 rw[hs] at ho hb;exact⟨v,rfl,ho,((Below.refl _ _).alloc (Nat.le_refl _) _).trans (hb.mono (by omega))⟩
def ReadsSaid (x:Ins) (args:Int) (w:World) (e:Ending) (w':World):Prop:=∃ v,e=.returned v∧Own intE w' w.heap.size v (readsL x args)∧Below w.heap.size w w'
theorem reads_a (w:World) (op a b c args:Int) (hop:op ∈ [10,29]):Calls Tryz.prog 294 #[.agg #[.int .i64 op,.int .i64 a,.int .i64 b,.int .i64 c],.int .i64 args] w (ReadsSaid ⟨op,a,b,c⟩ args w):=by
 have ho:=fun w g hg=>once_new w [a] (by simp) g hg
 have hm:([a].map (Value.int .i64)).toArray=#[.int .i64 a]:=rfl;rw[hm] at ho;clear hm;have HO:=k_ ho;clear ho;simp only[List.mem_cons,List.not_mem_nil,or_false] at hop;have hfin:readsL ⟨op,a,b,c⟩ args=onceL [a]:=by rcases hop with rfl|rfl <;> rfl
 have hsz:∀ o,(w.alloc o).heap.size=w.heap.size+1:=fun o=>by simp
 have HFIN:=k_ hfin;clear hfin;have HSZ:=k_ hsz;clear hsz
 rcases hop with rfl|rfl
 all_goals
  go_enter Tryz.func294,Tryz.ntmps294
  go_wp2_with fail;refine(HO.out _ _ (by simp)).mono ?_;rintro e w1 ⟨v,rfl,hown,hb⟩;have hP:ReadsSaid ⟨_,a,b,c⟩ args w (.returned v) w1:=⟨v,rfl,by rw[HFIN.out];exact Own.base hown (fun k hk=>by have:=(hown.lt hk).1;rw[HSZ.out] at this;omega),((Below.refl _ _).alloc (Nat.le_refl _) _).trans (hb.mono (by rw[HSZ.out];omega))⟩;have HP:=k_ hP;clear hP hown hb;go_wp2_with fail
  go_ret
  exact HP.out
theorem reads_none (w:World) (op a b c args:Int) (hop:op ∉ [2,12,14,17,19,3,4,5,6,7,8,10,29,15,20,25,21,23,24]):Calls Tryz.prog 294 #[.agg #[.int .i64 op,.int .i64 a,.int .i64 b,.int .i64 c],.int .i64 args] w (ReadsSaid ⟨op,a,b,c⟩ args w):=by
 have hfin:readsL ⟨op,a,b,c⟩ args=[]:=by
  simp at hop
  simp[readsL,hop]
 simp at hop
 obtain⟨e0,e1,e2,e3,e4,e5,e6,e7,e8,e9,e10,e11,e12,e13,e14,e15,e16,e17,e18⟩:=hop;have HFIN:=k_ hfin;clear hfin;have hP:ReadsSaid ⟨op,a,b,c⟩ args w (.returned (.slice none 0 0)) (w.alloc (.cells #[.int .i64 op,.int .i64 a,.int .i64 b,.int .i64 c] 32)):=⟨_,rfl,by rw[HFIN.out];exact Own.nil _ _ _,(Below.refl _ _).alloc (Nat.le_refl _) _⟩;have HP:=k_ hP;clear hP
 go_enter Tryz.func294,Tryz.ntmps294
 go_wp2_with fail
 go_ret
 exact HP.out
end Go.Proofs.YtbkkhmafheimfaaGreatDoor
namespace Go.Proofs.YtbkkhmafheimfaaGreatDoor
def withinB (n m:Int):Bool:=decide (0≤n) && decide (n<m)
def fieldB (kind:Int) (shapes:Nat):Bool:=decide (shapes≤16) && (kind == 1 || (decide (16≤kind) && decide (kind<16+shapes)))
def validB (kind:Int) (shapes:Nat):Bool:=fieldB kind shapes || (decide (shapes≤16) && (decide (64≤kind) && decide (kind<64+shapes)))
def isLocB (kind:Int):Bool:=decide (64≤kind) && decide (kind<80)
def firstAt (f:Nat→Int) (n:Nat):Int × Nat:=match (List.range n).find? fun i=>f i != 0 with | some i=>(f i,i) | none=>(0,0)
theorem firstAt_none {f:Nat→Int} {n:Nat} (h:∀ j,j<n→f j=0):firstAt f n=(0,0):=by
 unfold firstAt;have:(List.range n).find? (fun i=>f i != 0)=none:=by
  rw[List.find?_eq_none];intro x hx
  simp[h x (List.mem_range.1 hx)]
 rw[this]
theorem firstAt_hit {f:Nat→Int} {n k:Nat} (hk:k<n) (h:∀ j,j<k→f j=0) (hh:f k≠0):firstAt f n=(f k,k):=by
 unfold firstAt;have:(List.range n).find? (fun i=>f i != 0)=some k:=by
  rw[List.find?_range_eq_some];exact⟨by simpa using hh,List.mem_range.2 hk,fun j hj=>by simp[h j hj]⟩
 rw[this]
theorem firstAt_zero {f:Nat→Int} {n:Nat}:(firstAt f n).1=0↔∀ j,j<n→f j=0:=by
 constructor
 ·intro h j hj
  by_cases hz:∃ k,k<n∧f k≠0
  ·exfalso
   unfold firstAt at h
   cases hf:(List.range n).find? fun i=>f i != 0 with
   | none =>
     obtain⟨k,hk,hk2⟩:=hz;rw[List.find?_eq_none] at hf;have:=hf k (List.mem_range.2 hk)
     simp at this
     exact hk2 this
   | some k =>
     rw[hf] at h;have:=List.find?_some hf
     simp at this
     exact this h
  ·exact Classical.byContradiction fun hne=>hz ⟨j,hj,hne⟩
 ·intro h
  rw[firstAt_none h]
def shErr (n:Nat) (x:List Int):Int:=if x.length<1∨16<x.length then 1 else if x.all (fieldB · n) then 0 else 3
def shapesErr (l:List (List Int)):Int:=if 16<l.length then 1 else (firstAt (fun i=>shErr l.length (l[i]?.getD [])) l.length).1
def calleeF (p:Prg) (i:Ins):Option Fun:=if (i.op=21∨i.op=23∨i.op=24)∧withinB i.b p.funcs.length=true then p.funcs[i.b.toNat]? else none
def argsN (g:Option Fun):Nat:=match g with | some g=>g.args.length | none=>0
def quietB (p:Prg) (f:Fun) (i:Ins):Bool :=
 (i.op == 22 && f.result == 0) || (i.op == 21 && (match calleeF p i with | some g=>g.result == 0 | none=>false))
def formB (p:Prg) (f:Fun) (i:Ins):Bool:=knownS i.op && mayB i.a ((usesS i.op).1 && !quietB p f i) && mayB i.b (usesS i.op).2.1 && mayB i.c (usesS i.op).2.2
def usedL (p:Prg) (f:Fun) (i:Ins):List Int :=
 readsL i (argsN (calleeF p i)) ++ (if writesS i.op && !quietB p f i then [i.a] else []) ++ (if i.op == 26 then [i.b] else []) ++ (if i.op == 22 && !quietB p f i then [i.a] else [])
def roomB (f:Fun) (c:Int) (n:Nat):Bool:=decide (0≤c) && decide ((n:Int)≤f.slots) && decide (c≤f.slots - n)
def slotsB (p:Prg) (f:Fun) (i:Ins):Bool:=(match calleeF p i with | some g=>roomB f i.c g.args.length | none=>true) && (usedL p f i).all (withinB · f.slots)
def thingsB (p:Prg) (f:Fun) (i:Ins):Bool :=
 if i.op=9∨i.op=10 then withinB i.b f.code.length
 else if i.op=21∨i.op=23∨i.op=24 then withinB i.b p.funcs.length
 else if i.op=13∨i.op=11 then withinB i.b p.shapes.length
 else if i.op=16 then withinB i.b p.globals.length
 else if i.op=17 then withinB i.a p.globals.length
 else if i.op=18 then withinB i.b f.objects.length
 else if i.op=14∨i.op=19 then withinB i.c 16
 else if i.op=15∨i.op=20 then withinB i.b 16
 else true
def kindsB (p:Prg) (i:Ins):Bool :=
 if i.op=23∨i.op=24 then (match calleeF p i with | some g=>g.result == 0 && !g.args.any isLocB | none=>true)
 else if i.op=25∨i.op=26 then decide (0<p.shapes.length)
 else true
def instrS (p:Prg) (f:Fun) (i:Ins):Int:=if formB p f i=false then 2 else if (thingsB p f i && slotsB p f i)=false then 4 else if kindsB p i=false then 3 else 0
open Go.ChangeShapes Go.WideShapes Go.ChangeAt Go.RowKit Go.Maps
def i64B (x:Int):Prop:=-9223372036854775808≤x∧x≤9223372036854775807
theorem i64_wf {x:Int} (h:i64B x):(Lit.int .i64 x).wf=true:=by
 obtain⟨h1,h2⟩:=h
 simp[Lit.wf,IntKind.min,IntKind.max,IntKind.signed,IntKind.bits]
 omega
def intK:KeyTy Tryz.prog Int where
 k:=3
 law:=int_keyed Tryz.underlying3
 key:=.int .i64
 lit:=Lit.int .i64
 wf:=i64B
 hkey:=fun a h=>keyOf_int_mk Tryz.underlying3 (i64_wf h)
 inj:=fun a b h=>by injection h
theorem zero_int (w:World):(zeroValue 3).run Tryz.prog w=.ok (.int .i64 0) w:=by
 kernel_rfl
def kF (n:Nat) (pl:Bool) (x:Int):Option Int:=if x=1∨(16≤x∧x<16+n)∨(pl=true∧64≤x∧x<64+n) then some 1 else none
theorem kF_zero (pl:Bool) (x:Int):upd (fun _=>none) 1 (some 1) x=kF 0 pl x:=by
 unfold upd kF
 by_cases h:x=1
 ·rw[if_pos h,if_pos (.inl h)]
 ·rw[if_neg h,if_neg (by rintro (h1 | h1 | h1) <;> omega)]
theorem kF_false (n:Nat) (x:Int):upd (kF n false) (16+n) (some 1) x=kF (n+1) false x:=by
 unfold upd kF
 by_cases h:x=16+n
 ·rw[if_pos h,if_pos (.inr (.inl (by omega)))]
 ·rw[if_neg h]
  by_cases h1:x=1∨16≤x∧x<16+n
  ·rw[if_pos (by rcases h1 with h1 | h1;exact .inl h1;exact .inr (.inl h1)),if_pos (by rcases h1 with h1 | h1;exact .inl h1;exact .inr (.inl (by omega)))]
  ·rw[if_neg (by rintro (h2 | h2 | h2);exact h1 (.inl h2);exact h1 (.inr h2);exact absurd h2.1 (by decide)),if_neg (by rintro (h2 | h2 | h2);exact h1 (.inl h2);exact h1 (.inr (by omega));exact absurd h2.1 (by decide))]
theorem kF_true (n:Nat) (hn:n<16) (x:Int):upd (upd (kF n true) (16+n) (some 1)) (64+n) (some 1) x=kF (n+1) true x:=by
 unfold upd kF
 by_cases h:x=64+n
 ·rw[if_pos h,if_pos (.inr (.inr ⟨rfl,by omega⟩))]
 ·rw[if_neg h]
  by_cases h2:x=16+n
  ·rw[if_pos h2,if_pos (.inr (.inl (by omega)))]
  ·rw[if_neg h2]
   by_cases h1:x=1∨(16≤x∧x<16+n)∨(64≤x∧x<64+n)
   ·rw[if_pos (by rcases h1 with h1 | h1 | h1;exact .inl h1;exact .inr (.inl h1);exact .inr (.inr ⟨rfl,h1⟩)),if_pos (by rcases h1 with h1 | h1 | h1;exact .inl h1;exact .inr (.inl (by omega));exact .inr (.inr ⟨rfl,by omega⟩))]
   ·rw[if_neg (by rintro (h3 | h3 | h3);exact h1 (.inl h3);exact h1 (.inr (.inl h3));exact h1 (.inr (.inr h3.2))),if_neg (by rintro (h3 | h3 | h3);exact h1 (.inl h3);exact h1 (.inr (.inl (by omega)));exact h1 (.inr (.inr (by omega))))]
def kindsF (n:Nat) (pl:Bool):Int→Option Int:=if n≤16 then kF n pl else fun _=>none
def IntMap (w:World) (b m:Nat) (f:Int→Option Int):Prop:=MapIs intK (Value.int .i64) w b m f
theorem field_kinds (kind:Int) (n:Nat):(kindsF n false kind).isSome=fieldB kind n:=by
 unfold kindsF fieldB
 by_cases h:n≤16
 ·rw[if_pos h]
  unfold kF
  by_cases h1:kind=1
  ·simp[h,h1]
  ·by_cases h2:16≤kind∧kind<16+n
   ·rw[if_pos (.inr (.inl h2))];simp[h,h2]
   ·rw[if_neg (by rintro (h3 | h3 | h3);exact h1 h3;exact h2 h3;exact absurd h3.1 (by decide))]
    have:¬ (16≤kind∧kind<16+(n:Int)):=h2
    simp[h1]
    omega
 ·rw[if_neg h];simp[h]
theorem valid_kinds (kind:Int) (n:Nat):(kindsF n true kind).isSome=validB kind n:=by
 unfold kindsF validB fieldB
 by_cases h:n≤16
 ·rw[if_pos h]
  unfold kF
  by_cases h1:kind=1
  ·simp[h,h1]
  ·by_cases h2:16≤kind∧kind<16+n
   ·rw[if_pos (.inr (.inl h2))];simp[h,h2]
   ·by_cases h4:64≤kind∧kind<64+n
    ·rw[if_pos (.inr (.inr ⟨rfl,h4⟩))];simp[h,h4]
    ·rw[if_neg (by rintro (h3 | h3 | h3);exact h1 h3;exact h2 h3;exact h4 h3.2)]
     simp[h1]
     omega
 ·rw[if_neg h];simp[h]
theorem within_any (w:World) (n m:Int) :
  Calls Tryz.prog 167 #[.int .i64 n,.int .i64 m] w fun e w'=>e=.returned (.bool (withinB n m))∧w=w':=by
 unfold withinB
 by_cases h:0≤n
 ·by_cases h2:n<m
  ·rw[decide_eq_true h,decide_eq_true h2]
   go_enter Tryz.func167,Tryz.ntmps167
   go_wp2_with fail
   go_ret
   exact⟨rfl,rfl⟩
  ·rw[decide_eq_true h,decide_eq_false h2]
   go_enter Tryz.func167,Tryz.ntmps167
   go_wp2_with fail
   go_ret
   exact⟨rfl,rfl⟩
 ·have h0:decide (0≤n)=false:=by simpa using h
  rw[h0,Bool.false_and]
  go_enter Tryz.func167,Tryz.ntmps167
  go_wp2_with fail
  go_ret
  exact⟨rfl,rfl⟩
theorem kinds_any (w:World) (n:Nat) (pl:Bool) (hn:n≤100000) :
  Calls Tryz.prog 110 #[.int .i64 n,.bool pl] w fun e w'=>∃ b m,e=.returned (.map (some b))∧IntMap w' b m (kindsF n pl)∧w.heap.size≤b∧Below w.heap.size w w':=by
 have hmk:IntMap (w.alloc (.map #[] 0)) w.heap.size 0 (fun _=>none):=MapIs.made intK _ w;have hb0:=(Below.refl w.heap.size w).alloc (Nat.le_refl _) (.map #[] 0);have hmake:∀ w,(Instr.makeMap 207 none).run Tryz.prog w=.ok (.map (some w.heap.size)) (w.alloc (.map #[] 0)):=fun w=>run_makeMap _ w
 by_cases h16:n≤16
 case neg =>
  have h16':(16:Int)<n:=by omega
  have hk:kindsF n pl=fun _=>none:=by unfold kindsF;rw[if_neg h16]
  rw[hk];clear hk;have HMK:=k_ hmk;clear hmk;have HB0:=k_ hb0;clear hb0
  go_enter Tryz.func110,Tryz.ntmps110
  go_wp2_with fail
  go_ret
  exact⟨_,0,rfl,HMK.out,Nat.le_refl _,HB0.out⟩
 have h16':¬ (16:Int)<n:=by omega
 have hk:kindsF n pl=kF n pl:=by unfold kindsF;rw[if_pos h16]
 rw[hk];clear hk;have ht:Tryz.prog.underlying 207=some (.map intK.k 3):=Tryz.underlying207;have HMK:=k_ hmk;clear hmk;have HB0:=k_ hb0;clear hb0;have HT:=k_ ht;clear ht
 go_enter Tryz.func110,Tryz.ntmps110
 go_upto_region 4 with fail
 have HLM:=k_ (show (0:Nat)<100 by omega)
 go_wp2_with (first | (refine look_none rfl (.tmp 15) (.const (.int .i64 1)) 207 3 rfl HMK.out HT.out (zero_int _) (1) ⟨by omega,by omega⟩ rfl rfl rfl ?_) | (refine put_map rfl (.tmp 15) (.const (.int .i64 1)) (.tmp 17) 207 3 rfl HMK.out HT.out (by have:=HLM.out;unfold maxLen;omega) (1) ⟨by omega,by omega⟩ 1 rfl rfl rfl ?_;intro w1 hm1 ht1))
 have hm2:IntMap w1 w.heap.size 1 (kF 0 pl):=hm1.congr (fun a _=>kF_zero pl a);have hb1:Below w.heap.size w w1:=HB0.out.trans ((turned_fr ht1).below (by simp) (fun k hk=>by omega));clear hm1 ht1 HLM;have HM2:=k_ hm2;clear hm2;have HB1:=k_ hb1;clear hb1;go_wp2_with fail
 go_loopw [19] (fun i wr=>∃ j m:Nat,j≤n∧i=.int .i64 j∧IntMap wr w.heap.size m (kF j pl)∧m≤1+2 * j∧Below w.heap.size w wr) (fun i _=>n - (intOf i).toNat)
 case atStart=>exact⟨0,1,Nat.zero_le _,rfl,HM2.out,by omega,HB1.out⟩
 case round =>
  obtain⟨j,m,hj,rfl,hm,hmj,hB⟩:=hrel
  by_cases hlt:j<n
  ·have i1:IntKind.i64.wrap (16+(j:Int))=16+(j:Int):=IntWalk.i64_in _ (by omega)
   have i2:IntKind.i64.wrap (64+(j:Int))=64+(j:Int):=IntWalk.i64_in _ (by omega);have n1:kF j pl (16+(j:Int))=none:=by unfold kF;rw[if_neg (by rintro (h | h | h) <;> omega)]
   have HLM:=k_ (show m<100 by omega);have hz:=hB.size
   cases pl
   ·have HN1:=k_ n1
    clear n1;have HM:=k_ hm;clear hm;have HB:=k_ hB;clear hB
    go_upto_region 8 with fail
    go_wp2_with (first | (refine look_none rfl (.tmp 22) (.tmp 24) 207 3 rfl HM.out HT.out (zero_int _) (16+(j:Int)) ⟨by omega,by omega⟩ rfl rfl HN1.out ?_) | (refine put_map rfl (.tmp 22) (.tmp 24) (.tmp 26) 207 3 rfl HM.out HT.out (by have:=HLM.out;unfold maxLen;omega) (16+(j:Int)) ⟨by omega,by omega⟩ 1 rfl rfl rfl ?_;intro w1 hm1 ht1))
    have hm3:IntMap w1 w.heap.size _ (kF (j+1) false):=hm1.congr (fun a _=>kF_false j a);have hn3:(if (kF j false (16+(j:Int))).isSome then m else m+1)≤1+2 * (j+1):=by split <;> omega
    have hb3:Below w.heap.size w w1:=HB.out.trans ((turned_fr ht1).below hz (fun k hk=>by omega));clear hm1 ht1;have HM3:=k_ hm3;clear hm3;have HB3:=k_ hb3;clear hb3;have HN3:=k_ hn3;clear hn3;go_wp2_with fail
    go_roundw
    case rel=>exact⟨j+1,_,by omega,by go_num,HM3.out,HN3.out,HB3.out⟩
    case measure=>simp[intOf];omega
   ·have HN1:=k_ n1
    clear n1;have HM:=k_ hm;clear hm;have HB:=k_ hB;clear hB
    go_upto_region 8 with fail
    go_upto_region 10 with (first | (refine look_none rfl (.tmp 22) (.tmp 24) 207 3 rfl HM.out HT.out (zero_int _) (16+(j:Int)) ⟨by omega,by omega⟩ rfl rfl HN1.out ?_) | (refine put_map rfl (.tmp 22) (.tmp 24) (.tmp 26) 207 3 rfl HM.out HT.out (by have:=HLM.out;unfold maxLen;omega) (16+(j:Int)) ⟨by omega,by omega⟩ 1 rfl rfl rfl ?_;intro w1 hm1 ht1))
    have hn3:(if (kF j true (16+(j:Int))).isSome then m else m+1)≤m+1:=by split <;> omega
    generalize (if (kF j true (16+(j:Int))).isSome then m else m+1)=m1 at *;have hb3:Below w.heap.size w w1:=HB.out.trans ((turned_fr ht1).below hz (fun k hk=>by omega));have n2:upd (kF j true) (16+(j:Int)) (some 1) (64+(j:Int))=none:=by
     unfold upd;rw[if_neg (by omega)];unfold kF;rw[if_neg (by rintro (h | h | h) <;> omega)]
    have hz3:=hb3.size;have HN2:=k_ n2;have HM4:=k_ hm1;have HLN:=k_ (show m1<100 by omega);clear hm1 ht1 n2;have HB3:=k_ hb3;clear hb3
    go_wp2_with (first | (refine look_none rfl (.tmp 28) (.tmp 30) 207 3 rfl HM4.out HT.out (zero_int _) (64+(j:Int)) ⟨by omega,by omega⟩ rfl rfl HN2.out ?_) | (refine put_map rfl (.tmp 28) (.tmp 30) (.tmp 32) 207 3 rfl HM4.out HT.out (by have:=HLN.out;unfold maxLen;omega) (64+(j:Int)) ⟨by omega,by omega⟩ 1 rfl rfl rfl ?_;intro w2 hm2' ht2))
    have hm3:IntMap w2 w.heap.size _ (kF (j+1) true):=hm2'.congr (fun a _=>kF_true j (by omega) a);have hn4:(if (upd (kF j true) (16+(j:Int)) (some 1) (64+(j:Int))).isSome then m1 else m1+1)≤1+2 * (j+1):=by split <;> omega
    have hb4:Below w.heap.size w w2:=HB3.out.trans ((turned_fr ht2).below hz3 (fun k hk=>by omega));clear hm2' ht2;have HM3:=k_ hm3;clear hm3;have HB4:=k_ hb4;clear hb4;have HN4:=k_ hn4;clear hn4;go_wp2_with fail
    go_roundw
    case rel=>exact⟨j+1,_,by omega,by go_num,HM3.out,HN4.out,HB4.out⟩
    case measure=>simp[intOf];omega
  ·have hk':j=n:=by omega
   subst hk';have HM:=k_ hm;clear hm;have HB:=k_ hB;clear hB;go_wp2_with fail
   go_ret
   exact⟨_,_,rfl,HM.out,Nat.le_refl _,HB.out⟩
theorem kinds_one {n:Nat} {pl:Bool} {kind x:Int} (h:kindsF n pl kind=some x):x=1:=by
 unfold kindsF at h
 by_cases hn:n≤16
 ·rw[if_pos hn] at h
  unfold kF at h
  split at h
  ·injection h with h;exact h.symm
  ·cases h
 ·rw[if_neg hn] at h;cases h
theorem field_any (w:World) (kind:Int) (n:Nat) (hn:n≤100000) (hkd:i64B kind) :
  Calls Tryz.prog 166 #[.int .i64 kind,.int .i64 n] w fun e w'=>e=.returned (.bool (fieldB kind n))∧Below w.heap.size w w':=by
 have kn:=kinds_any w n false hn;have ht:Tryz.prog.underlying 207=some (.map intK.k 3):=Tryz.underlying207;rw[← field_kinds];have KN:=k_ kn;clear kn;have HT:=k_ ht;clear ht
 go_enter Tryz.func166,Tryz.ntmps166
 go_wp2_with fail;refine KN.out.mono ?_;rintro e w1 ⟨b,m,rfl,hm,hb,hB⟩;have HM:=k_ hm;clear hm;have HB:=k_ hB;clear hB
 cases hk:kindsF n false kind with
 | none =>
   have HK:=k_ hk;clear hk
   go_wp2_with (refine look_none rfl (.tmp 6) (.tmp 7) 207 3 rfl HM.out HT.out (zero_int _) kind hkd rfl rfl HK.out ?_)
   go_ret
   exact⟨by rw[HK.out];rfl,HB.out⟩
 | some x =>
   have hx:=kinds_one hk;subst hx;have HK:=k_ hk;clear hk
   go_wp2_with (refine look_some rfl (.tmp 6) (.tmp 7) 207 3 rfl HM.out HT.out (zero_int _) kind hkd rfl rfl 1 HK.out ?_)
   go_ret
   exact⟨by rw[HK.out];rfl,HB.out⟩
theorem valid_any (w:World) (kind:Int) (n:Nat) (hn:n≤100000) (hkd:i64B kind) :
  Calls Tryz.prog 235 #[.int .i64 kind,.int .i64 n] w fun e w'=>e=.returned (.bool (validB kind n))∧Below w.heap.size w w':=by
 have kn:=kinds_any w n true hn;have ht:Tryz.prog.underlying 207=some (.map intK.k 3):=Tryz.underlying207;rw[← valid_kinds];have KN:=k_ kn;clear kn;have HT:=k_ ht;clear ht
 go_enter Tryz.func235,Tryz.ntmps235
 go_wp2_with fail;refine KN.out.mono ?_;rintro e w1 ⟨b,m,rfl,hm,hb,hB⟩;have HM:=k_ hm;clear hm;have HB:=k_ hB;clear hB
 cases hk:kindsF n true kind with
 | none =>
   have HK:=k_ hk;clear hk
   go_wp2_with (refine look_none rfl (.tmp 6) (.tmp 7) 207 3 rfl HM.out HT.out (zero_int _) kind hkd rfl rfl HK.out ?_)
   go_ret
   exact⟨by rw[HK.out];rfl,HB.out⟩
 | some x =>
   have hx:=kinds_one hk;subst hx;have HK:=k_ hk;clear hk
   go_wp2_with (refine look_some rfl (.tmp 6) (.tmp 7) 207 3 rfl HM.out HT.out (zero_int _) kind hkd rfl rfl 1 HK.out ?_)
   go_ret
   exact⟨by rw[HK.out];rfl,HB.out⟩
theorem plaidOut:laidOutB Tryz.prog=true:=by kernel_rfl
theorem prow:(81:TypeId)<Tryz.prog.types.size:=of_decide_eq_true (by kernel_rfl)
theorem pwide:(match Tryz.prog.underlying 81 with | some (.array _ _) | some (.struct _)=>true | _=>false)=true:=by kernel_rfl
theorem pkeyed:Keyed Tryz.prog 81:=Keyed.of_law (deep_law_laid plaidOut (m:=2) (by omega) prow (by kernel_rfl) pwide)
theorem pkey (a b:Int) (ha:i64B a) (hb:i64B b):∃ l,keyOf Tryz.prog 81 (.agg #[.int .i64 a,.int .i64 b])=some l:=by
 have hc:Tryz.prog.cellsOf 81=2:=by kernel_rfl
 have hk:Tryz.prog.keyType 81=true:=by kernel_rfl
 have hf:(Value.agg #[.int .i64 a,.int .i64 b]).formed Tryz.prog 81=true:=by simp[Value.formed,Tryz.underlying81,hc]
 have h1:∀ d x,i64B x→Tryz.prog.keyLits (d+1) 3 [.int .i64 x]=some [.int .i64 x]:=fun d x hx=>by
  unfold Program.keyLits
  simp[Tryz.underlying3,i64_wf hx]
 have hci:Tryz.prog.cellsOf 3=1:=by kernel_rfl
 have h2:∀ d,Tryz.prog.keyLits (d+2) 81 [.int .i64 a,.int .i64 b]=some [.int .i64 a,.int .i64 b]:=fun d=>by
  unfold Program.keyLits
  simp[Tryz.underlying81,hc,hci,h1 d a ha,h1 d b hb]
 obtain⟨n,hn⟩:∃ n,Tryz.prog.types.size+1=n+2:=⟨Tryz.prog.types.size - 1,by have:0<Tryz.prog.types.size:=Nat.lt_of_le_of_lt (Nat.zero_le _) prow;omega⟩;unfold keyOf;rw[Tryz.underlying81];simp only[hk,hf,Bool.and_self,if_true];refine⟨.string (keyBytes [.int .i64 a,.int .i64 b]),?_⟩;rw[hn]
 show Option.map (fun ls=>Lit.string (keyBytes ls)) (Tryz.prog.keyLits (n+2) 81 [.int .i64 a,.int .i64 b])=_
 rw[h2]
 rfl
noncomputable def plK:KeyTy Tryz.prog { x:Int × Int // i64B x.1∧i64B x.2 } where
 k:=81
 law:=pkeyed
 key:=fun x=>.agg #[.int .i64 x.1.1,.int .i64 x.1.2]
 lit:=fun x=>(keyOf Tryz.prog 81 (.agg #[.int .i64 x.1.1,.int .i64 x.1.2])).getD (.bool true)
 wf:=fun _=>True
 hkey:=fun x _=>by
  obtain⟨l,h⟩:=pkey x.1.1 x.1.2 x.2.1 x.2.2;rw[h];rfl
 inj:=fun x y h=>by
  obtain⟨l,h1⟩:=pkey x.1.1 x.1.2 x.2.1 x.2.2;obtain⟨m,h2⟩:=pkey y.1.1 y.1.2 y.2.1 y.2.2;rw[h1,h2] at h;have e:l=m:=h;subst e;have h3:=pkeyed.inj h1 h2;obtain⟨⟨x1,x2⟩,_⟩:=x;obtain⟨⟨y1,y2⟩,_⟩:=y
  simp at h3
  obtain⟨rfl,rfl⟩:=h3
  rfl
end Go.Proofs.YtbkkhmafheimfaaGreatDoor
namespace Go.Proofs.YtbkkhmafheimfaaGreatDoor.Tk
open Go.ChangeShapes Go.WideShapes Go.ChangeAt Go.RowKit Go.Maps
theorem prrow:(314:TypeId)<Tryz.prog.types.size:=of_decide_eq_true (by kernel_rfl)
theorem prwide:(match Tryz.prog.underlying 314 with | some (.array _ _) | some (.struct _)=>true | _=>false)=true:=by kernel_rfl
theorem prkeyed:Keyed Tryz.prog 314:=Keyed.of_law (deep_law_laid plaidOut (m:=2) (by omega) prrow (by kernel_rfl) prwide)
theorem acrow:(115:TypeId)<Tryz.prog.types.size:=of_decide_eq_true (by kernel_rfl)
theorem acwide:(match Tryz.prog.underlying 115 with | some (.array _ _) | some (.struct _)=>true | _=>false)=true:=by kernel_rfl
theorem ackeyed:Keyed Tryz.prog 115:=Keyed.of_law (deep_law_laid plaidOut (m:=2) (by omega) acrow (by kernel_rfl) acwide)
theorem prkey (a b:Int) (ha:i64B a) (hb:i64B b):∃ l,keyOf Tryz.prog 314 (.agg #[.int .i64 a,.int .i64 b])=some l:=by
 have hc:Tryz.prog.cellsOf 314=2:=by kernel_rfl
 have hk:Tryz.prog.keyType 314=true:=by kernel_rfl
 have hf:(Value.agg #[.int .i64 a,.int .i64 b]).formed Tryz.prog 314=true:=by simp[Value.formed,Tryz.underlying314,hc]
 have h1:∀ d x,i64B x→Tryz.prog.keyLits (d+1) 3 [.int .i64 x]=some [.int .i64 x]:=fun d x hx=>by
  unfold Program.keyLits
  simp[Tryz.underlying3,i64_wf hx]
 have hci:Tryz.prog.cellsOf 3=1:=by kernel_rfl
 have h2:∀ d,Tryz.prog.keyLits (d+2) 314 [.int .i64 a,.int .i64 b]=some [.int .i64 a,.int .i64 b]:=fun d=>by
  unfold Program.keyLits
  simp[Tryz.underlying314,hc,hci,h1 d a ha,h1 d b hb,List.range_succ]
 obtain⟨n,hn⟩:∃ n,Tryz.prog.types.size+1=n+2:=⟨Tryz.prog.types.size - 1,by have:0<Tryz.prog.types.size:=Nat.lt_of_le_of_lt (Nat.zero_le _) prrow;omega⟩;unfold keyOf;rw[Tryz.underlying314];simp only[hk,hf,Bool.and_self,if_true];refine⟨.string (keyBytes [.int .i64 a,.int .i64 b]),?_⟩;rw[hn]
 show Option.map (fun ls=>Lit.string (keyBytes ls)) (Tryz.prog.keyLits (n+2) 314 [.int .i64 a,.int .i64 b])=_
 rw[h2]
 rfl
noncomputable def prK:KeyTy Tryz.prog { x:Int × Int // i64B x.1∧i64B x.2 } where
 k:=314
 law:=prkeyed
 key:=fun x=>.agg #[.int .i64 x.1.1,.int .i64 x.1.2]
 lit:=fun x=>(keyOf Tryz.prog 314 (.agg #[.int .i64 x.1.1,.int .i64 x.1.2])).getD (.bool true)
 wf:=fun _=>True
 hkey:=fun x _=>by
  obtain⟨l,h⟩:=prkey x.1.1 x.1.2 x.2.1 x.2.2;rw[h];rfl
 inj:=fun x y h=>by
  obtain⟨l,h1⟩:=prkey x.1.1 x.1.2 x.2.1 x.2.2;obtain⟨m,h2⟩:=prkey y.1.1 y.1.2 y.2.1 y.2.2;rw[h1,h2] at h;have e:l=m:=h;subst e;have h3:=prkeyed.inj h1 h2;obtain⟨⟨x1,x2⟩,_⟩:=x;obtain⟨⟨y1,y2⟩,_⟩:=y
  simp at h3
  obtain⟨rfl,rfl⟩:=h3
  rfl
theorem ackey (a:Int) (ha:i64B a):∃ l,keyOf Tryz.prog 115 (.agg #[.int .i64 a])=some l:=by
 have hc:Tryz.prog.cellsOf 115=1:=by kernel_rfl
 have hk:Tryz.prog.keyType 115=true:=by kernel_rfl
 have hf:(Value.agg #[.int .i64 a]).formed Tryz.prog 115=true:=by simp[Value.formed,Tryz.underlying115,hc]
 have h1:∀ d x,i64B x→Tryz.prog.keyLits (d+1) 3 [.int .i64 x]=some [.int .i64 x]:=fun d x hx=>by
  unfold Program.keyLits
  simp[Tryz.underlying3,i64_wf hx]
 have hci:Tryz.prog.cellsOf 3=1:=by kernel_rfl
 have h2:∀ d,Tryz.prog.keyLits (d+2) 115 [.int .i64 a]=some [.int .i64 a]:=fun d=>by
  unfold Program.keyLits
  simp[Tryz.underlying115,hc,hci,h1 d a ha,List.range_succ]
 obtain⟨n,hn⟩:∃ n,Tryz.prog.types.size+1=n+2:=⟨Tryz.prog.types.size - 1,by have:0<Tryz.prog.types.size:=Nat.lt_of_le_of_lt (Nat.zero_le _) acrow;omega⟩;unfold keyOf;rw[Tryz.underlying115];simp only[hk,hf,Bool.and_self,if_true];refine⟨.string (keyBytes [.int .i64 a]),?_⟩;rw[hn]
 show Option.map (fun ls=>Lit.string (keyBytes ls)) (Tryz.prog.keyLits (n+2) 115 [.int .i64 a])=_
 rw[h2]
 rfl
noncomputable def acK:KeyTy Tryz.prog { x:Int // i64B x } where
 k:=115
 law:=ackeyed
 key:=fun x=>.agg #[.int .i64 x.1]
 lit:=fun x=>(keyOf Tryz.prog 115 (.agg #[.int .i64 x.1])).getD (.bool true)
 wf:=fun _=>True
 hkey:=fun x _=>by
  obtain⟨l,h⟩:=ackey x.1 x.2;rw[h];rfl
 inj:=fun x y h=>by
  obtain⟨l,h1⟩:=ackey x.1 x.2;obtain⟨m,h2⟩:=ackey y.1 y.2;rw[h1,h2] at h;have e:l=m:=h;subst e;have h3:=ackeyed.inj h1 h2;obtain⟨x1,_⟩:=x;obtain⟨y1,_⟩:=y
  simp at h3
  subst h3
  rfl
end Go.Proofs.YtbkkhmafheimfaaGreatDoor.Tk
namespace Go.Proofs.YtbkkhmafheimfaaGreatDoor
open Go.ChangeShapes Go.WideShapes Go.ChangeAt Go.RowKit
theorem four_cells {w:World} {q:Nat} {x0 x1 x2 x3:Value} {t:TypeId} (h:w.heap[q]?=some (.cells #[x0,x1,x2,x3] t)) :
  (w.cell? ⟨q,0,none⟩=some x0∧w.cell? ⟨q,1,none⟩=some x1∧w.cell? ⟨q,2,none⟩=some x2∧w.cell? ⟨q,3,none⟩=some x3)∧w.frozen? ⟨q,0,none⟩=false∧w.frozen? ⟨q,1,none⟩=false∧w.frozen? ⟨q,2,none⟩=false∧w.frozen? ⟨q,3,none⟩=false :=
 ⟨⟨(row_cell h 0).1,(row_cell h 1).1,(row_cell h 2).1,(row_cell h 3).1⟩,(row_cell h 0).2,(row_cell h 1).2,(row_cell h 2).2,(row_cell h 3).2⟩
def FunB (f:Fun):Prop:=(∀ x ∈ f.args,i64B x)∧i64B f.result∧i64B f.slots∧(∀ x ∈ f.objects,i64B x)∧∀ i ∈ f.code,i.wf
def PrgB (p:Prg):Prop:=(∀ x ∈ p.globals,i64B x)∧(∀ s ∈ p.shapes,∀ x ∈ s,i64B x)∧∀ f ∈ p.funcs,FunB f
variable {H:Type} {enc:TypeId × Value→H}
end Go.Proofs.YtbkkhmafheimfaaGreatDoor
