/- Walks: which slot an instruction sets; safe points; numbers, each once. Walk: which slots an instruction reads. What may be: kinds, .. -/
import Derived.Test.YtlofbhoicbemnaaGreatDoorDAi
set_option linter.unusedVariables false
set_option linter.unusedSimpArgs false
set_option maxRecDepth 100000
set_option maxHeartbeats 4000000
namespace Go.Proofs.YtlofbhoicbemnaaGreatDoor
open Go.ChangeShapes Go.WideShapes Go.ChangeAt Go.RowKit
def writesS (op:Int):Bool:=decide (op ∈ [1,2,3,4,5,6,7,8,11,12,13,14,16,18,19,21,26])
def safeS (op:Int):Bool:=decide (op ∈ [13,21,9,10,28,22])
theorem writes_out (op:Int) (h:op<0∨29<op):writesS op=false:=by simp[writesS];omega
theorem safe_out (op:Int) (h:op<0∨29<op):safeS op=false:=by simp[safeS];omega
def wrSaid (w:World) (op:Int):Prop:=∀ a b c:Int,Calls Tryz.prog 228 #[.agg #[.int .i64 op,.int .i64 a,.int .i64 b,.int .i64 c]] w fun e w'=>e=.returned (.tuple #[.int .i64 (if writesS op then a else 0),.bool (writesS op)])∧Below w.heap.size w w'
theorem wr_in (w:World):∀ op ∈ opsAll,wrSaid w op:=by
 apply ops_all <;> (unfold wrSaid;intro a b c;go_enter Tryz.func228,Tryz.ntmps228;go_wp2;go_ret2;exact⟨rfl,(Below.refl _ _).alloc (Nat.le_refl _) _⟩)
theorem wr_any (w:World) (op:Int):wrSaid w op:=by
 refine op_cases (wr_in w) (fun op h=>?_) (fun op h=>?_) op
 all_goals
  unfold wrSaid;intro a b c;rw[writes_out op (by omega)]
  go_enter Tryz.func228,Tryz.ntmps228
  go_wp2
  go_ret2
  exact⟨rfl,(Below.refl _ _).alloc (Nat.le_refl _) _⟩
def SafeSaid (w:World) (op:Int):Prop:=Calls Tryz.prog 170 #[.int .i64 op] w fun e w'=>e=.returned (.bool (safeS op))∧w=w'
theorem safe_in (w:World):∀ op ∈ opsAll,SafeSaid w op:=by
 apply ops_all <;> (unfold SafeSaid;go_enter Tryz.func170,Tryz.ntmps170;go_wp2;go_ret;exact⟨rfl,rfl⟩)
theorem safe_any (w:World) (op:Int):SafeSaid w op:=by
 refine op_cases (safe_in w) (fun op h=>?_) (fun op h=>?_) op
 all_goals
  unfold SafeSaid;rw[safe_out op (by omega)]
  go_enter Tryz.func170,Tryz.ntmps170
  go_wp2
  go_ret
  exact⟨rfl,rfl⟩
def IdxPost (l:List Int) (x:Int) (w:World) (e:Ending) (w':World):Prop:=∃ r:Int,e=.returned (.int .i64 r)∧decide (0≤r)=decide (x ∈ l)∧w'=w
theorem idx_any (w:World) (D:Nat→Prop) (a:Option Addr) (l:List Int) (c:Nat) (x:Int) (hl:IntSl w D a l) (hn:l.length≤1000000) :
  Calls Tryz.prog 231 #[.slice a l.length c,.int .i64 x] w (IdxPost l x w):=by
 have HL:=k_ hl;clear hl
 go_enter Tryz.func231,Tryz.ntmps231
 go_wp2_with fail
 go_loopw [8] (fun i wr=>∃ k:Nat,k≤l.length∧i=.int .i64 k∧x ∉ l.take k∧wr=w) (fun i _=>l.length - (intOf i).toNat)
 case atStart=>exact⟨0,Nat.zero_le _,rfl,by simp,rfl⟩
 case round =>
  obtain⟨k,hk,rfl,hno,rfl⟩:=hrel
  by_cases hlt:k<l.length
  ·obtain⟨b,o,rfl,_,hx⟩:=HL.out k hlt
   have hsn:=take_snoc l k hlt;have hmem:=List.getElem_mem hlt;generalize l[k]=y at *
   by_cases hxy:x=y
   ·subst hxy
    have hP:IdxPost l x wr (.returned (.int .i64 k)) wr:=⟨k,rfl,by simp[hmem],rfl⟩;have HP:=k_ hP;clear hsn hmem hno hP;go_wp2_with fail
    go_ret
    exact HP.out
   ·have hb:(x == y)=false:=by simpa using hxy
    have hno2:x ∉ l.take (k+1):=by rw[hsn];simp;exact⟨hno,hxy⟩
    clear hsn hmem hno hxy;have HNO2:=k_ hno2;clear hno2;go_wp2_with fail
    go_roundw
    case rel=>exact⟨k+1,by omega,by go_num,HNO2.out,by first | rfl | trivial⟩
    case measure=>simp[intOf];omega
  ·have hno2:x ∉ l:=by rw[List.take_of_length_le (by omega)] at hno;exact hno
   have hP:IdxPost l x wr (.returned (.int .i64 (-1))) wr:=⟨-1,rfl,by simp[hno2],rfl⟩;have HP:=k_ hP;clear hno hno2 hP;go_wp2_with fail
   go_ret
   exact HP.out
theorem contains_any (w:World) (D:Nat→Prop) (a:Option Addr) (l:List Int) (c:Nat) (x:Int) (hl:IntSl w D a l) (hn:l.length≤1000000) :
  Calls Tryz.prog 163 #[.slice a l.length c,.int .i64 x] w fun e w'=>e=.returned (.bool (decide (x ∈ l)))∧w'=w:=by
 have h:=idx_any w D a l c x hl hn;clear hl;have H:=k_ h;clear h
 go_enter Tryz.func163,Tryz.ntmps163
 go_wp2_with fail;refine H.out.mono ?_;rintro e w1 ⟨r,rfl,hr,rfl⟩;have HR:=k_ hr;clear hr;go_wp2_with fail
 go_ret
 exact⟨by rw[← HR.out];rfl,rfl⟩
def onceL (l:List Int):List Int:=l.foldl (fun out n=>if n ∈ out then out else out ++ [n]) []
theorem onceL_snoc (l:List Int) (x:Int):onceL (l ++ [x])=if x ∈ onceL l then onceL l else onceL l ++ [x]:=by
 unfold onceL;rw[List.foldl_append]
 rfl
theorem onceL_len (l:List Int) (k:Nat):(onceL (l.take k)).length≤k:=by
 induction k with
 | zero=>simp[onceL]
 | succ k ih =>
   by_cases h:k<l.length
   ·rw[take_snoc l k h,onceL_snoc]
    split
    ·omega
    ·simp;omega
   ·rw[List.take_of_length_le (by omega)]
    rw[List.take_of_length_le (by omega)] at ih
    omega
theorem once_any (w:World) (D:Nat→Prop) (a:Option Addr) (l:List Int) (c:Nat) (hl:IntSl w D a l) (hn:l.length≤100000) :
  Calls Tryz.prog 379 #[.slice a l.length c] w fun e w'=>∃ v,e=.returned v∧Own intE w' w.heap.size v (onceL l)∧Below w.heap.size w w':=by
 have HL:=k_ hl;clear hl
 go_enter Tryz.func379,Tryz.ntmps379
 go_wp2_with fail
 go_loopw [3,8] (fun v i wr=>∃ k:Nat,k≤l.length∧i=.int .i64 k∧Own intE wr w.heap.size v (onceL (l.take k))∧Below w.heap.size w wr) (fun _ i _=>l.length - (intOf i).toNat)
 case atStart=>exact⟨0,Nat.zero_le _,rfl,Own.nil _ _ _,Below.refl _ _⟩
 case round =>
  obtain⟨k,hk,rfl,hown,hB⟩:=hrel
  by_cases hlt:k<l.length
  ·obtain⟨b,o,rfl,_,hx⟩:=HL.out k hlt
   have hx:=below_cell hB hx;have hsn:=take_snoc l k hlt;have hos:=onceL_snoc (l.take k) l[k];rw[← hsn] at hos;have hol:=onceL_len l k;generalize l[k]=x at *;generalize onceL (l.take k)=L at *;obtain⟨a1,c1,hv,hsl⟩:∃ a1 c1,_=Value.slice a1 L.length c1∧IntSl wr _ a1 L:=by
    obtain⟨a1,c1,h1,h2⟩:=own_int hown;exact⟨a1,c1,h1,h2⟩
   subst hv;have hc:=contains_any wr _ a1 L c1 x hsl (by omega);clear hsl hsn
   by_cases hm:x ∈ L
   ·rw[if_pos hm] at hos
    rw[decide_eq_true hm] at hc;clear hm;have HC:=k_ hc;clear hc;have HOS:=k_ hos;clear hos;have HOWN:=k_ hown;clear hown;have HB:=k_ hB;clear hB;go_wp2_with fail;refine HC.out.mono ?_;rintro e w1 ⟨rfl,rfl⟩;go_wp2_with fail
    go_roundw
    case rel=>exact⟨k+1,by omega,by go_num,by rw[HOS.out];exact HOWN.out,HB.out⟩
    case measure=>simp[intOf];omega
   ·rw[if_neg hm] at hos
    rw[decide_eq_false hm] at hc;clear hm;have HC:=k_ hc;clear hc;have HOS:=k_ hos;clear hos;have HOWN:=k_ hown;clear hown;have HB:=k_ hB;clear hB;go_wp2_with fail;refine HC.out.mono ?_;rintro e w1 ⟨rfl,rfl⟩
    go_wp2_with (at_builtin;refine append_own intE rfl (.tmp 16) (.tmp 18) rfl w.heap.size L [x] _ rfl (HOWN.out.alloc _) w1.heap.size 0 1 rfl (CellsAt.new _ _ _ _) ?c1 ?c2 ?_)
    case c1=>simp;omega
    case c2=>have:=HB.out.size;simp;omega
    intro v2 w2 hown2 hg2;have hB2:=k_ (below_grown (HB.out.alloc HB.out.size _) (HOWN.out.alloc _) hg2 (by have:=HB.out.size;simp;omega) (Nat.le_refl _));have HO2:=k_ hown2;clear hown2 hg2;go_wp2_with fail
    go_roundw
    case rel=>exact⟨k+1,by omega,by go_num,by rw[HOS.out];exact HO2.out,hB2.out⟩
    case measure=>simp[intOf];omega
  ·have hk':k=l.length:=by omega
   subst hk';rw[List.take_length] at hown;have hP:∀ v,Own intE wr w.heap.size v (onceL l)→∃ v',Ending.returned v=.returned v'∧Own intE wr w.heap.size v' (onceL l)∧Below w.heap.size w wr:=fun v hv=>⟨v,rfl,hv,hB⟩
   have HP:=k_ (hP _ hown);clear hP hown hB;go_wp2_with fail
   go_ret
   exact HP.out
def nArgs (args:Int):Nat:=(min (max args 0) 16).toNat
def argSlots (c:Int) (n:Nat):List Int:=(List.range n).map fun k:Nat=>wrap64 (c+(k:Int))
def readsL (x:Ins) (args:Int):List Int :=
 if x.op ∈ [2,12,14,17,19] then [x.b]
 else if x.op ∈ [3,4,5,6,7,8] then onceL [x.b,x.c]
 else if x.op ∈ [10,29] then [x.a]
 else if x.op ∈ [15,20] then onceL [x.a,x.c]
 else if x.op ∈ [25] then onceL [x.a,x.b]
 else if x.op ∈ [21,23,24] then argSlots x.c (nArgs args)
 else []
theorem argSlots_len (c:Int) (n:Nat):(argSlots c n).length=n:=by simp[argSlots]
theorem nArgs_le (args:Int):nArgs args≤16∧(nArgs args:Int)=min (max args 0) 16:=by unfold nArgs;omega
theorem once_new (w:World) (l:List Int) (hl:l.length≤100) (g:Nat) (hg:g=w.heap.size):Calls Tryz.prog 379 #[.slice (some ⟨g,0,none⟩) l.length l.length] (w.alloc (.cells (l.map (Value.int .i64)).toArray 3)) fun e w'=>∃ v,e=.returned v∧Own intE w' (w.heap.size+1) v (onceL l)∧Below w.heap.size w w':=by
 subst hg;refine(once_any _ _ _ l l.length (int_new w l) (by omega)).mono ?_;rintro e w' ⟨v,rfl,ho,hb⟩;have hs:(w.alloc (.cells (l.map (Value.int .i64)).toArray 3)).heap.size=w.heap.size+1:=by simp
 rw[hs] at ho hb;exact⟨v,rfl,ho,((Below.refl _ _).alloc (Nat.le_refl _) _).trans (hb.mono (by omega))⟩
def ReadsSaid (x:Ins) (args:Int) (w:World) (e:Ending) (w':World):Prop:=∃ v,e=.returned v∧Own intE w' w.heap.size v (readsL x args)∧Below w.heap.size w w'
theorem reads_a (w:World) (op a b c args:Int) (hop:op ∈ [10,29]):Calls Tryz.prog 349 #[.agg #[.int .i64 op,.int .i64 a,.int .i64 b,.int .i64 c],.int .i64 args] w (ReadsSaid ⟨op,a,b,c⟩ args w):=by
 have ho:=fun w g hg=>once_new w [a] (by simp) g hg
 have hm:([a].map (Value.int .i64)).toArray=#[.int .i64 a]:=rfl;rw[hm] at ho;clear hm;have HO:=k_ ho;clear ho;simp only[List.mem_cons,List.not_mem_nil,or_false] at hop;have hfin:readsL ⟨op,a,b,c⟩ args=onceL [a]:=by rcases hop with rfl|rfl <;> rfl
 have hsz:∀ o,(w.alloc o).heap.size=w.heap.size+1:=fun o=>by simp
 have HFIN:=k_ hfin;clear hfin;have HSZ:=k_ hsz;clear hsz
 rcases hop with rfl|rfl
 all_goals
  go_enter Tryz.func349,Tryz.ntmps349
  go_wp2_with fail;refine(HO.out _ _ (by simp)).mono ?_;rintro e w1 ⟨v,rfl,hown,hb⟩;have hP:ReadsSaid ⟨_,a,b,c⟩ args w (.returned v) w1:=⟨v,rfl,by rw[HFIN.out];exact Own.base hown (fun k hk=>by have:=(hown.lt hk).1;rw[HSZ.out] at this;omega),((Below.refl _ _).alloc (Nat.le_refl _) _).trans (hb.mono (by rw[HSZ.out];omega))⟩;have HP:=k_ hP;clear hP hown hb;go_wp2_with fail
  go_ret
  exact HP.out
theorem reads_none (w:World) (op a b c args:Int) (hop:op ∉ [2,12,14,17,19,3,4,5,6,7,8,10,29,15,20,25,21,23,24]):Calls Tryz.prog 349 #[.agg #[.int .i64 op,.int .i64 a,.int .i64 b,.int .i64 c],.int .i64 args] w (ReadsSaid ⟨op,a,b,c⟩ args w):=by
 have hfin:readsL ⟨op,a,b,c⟩ args=[]:=by
  simp at hop
  simp[readsL,hop]
 simp at hop
 obtain⟨e0,e1,e2,e3,e4,e5,e6,e7,e8,e9,e10,e11,e12,e13,e14,e15,e16,e17,e18⟩:=hop;have HFIN:=k_ hfin;clear hfin;have hP:ReadsSaid ⟨op,a,b,c⟩ args w (.returned (.slice none 0 0)) (w.alloc (.cells #[.int .i64 op,.int .i64 a,.int .i64 b,.int .i64 c] 63)):=⟨_,rfl,by rw[HFIN.out];exact Own.nil _ _ _,(Below.refl _ _).alloc (Nat.le_refl _) _⟩;have HP:=k_ hP;clear hP
 go_enter Tryz.func349,Tryz.ntmps349
 go_wp2_with fail
 go_ret
 exact HP.out
end Go.Proofs.YtlofbhoicbemnaaGreatDoor
namespace Go.Proofs.YtlofbhoicbemnaaGreatDoor
def withinB (n m:Int):Bool:=decide (0≤n) && decide (n<m)
def fieldB (kind:Int) (shapes:Nat):Bool:=decide (shapes≤16) && (kind == 1 || (decide (16≤kind) && decide (kind<16+shapes)))
def validB (kind:Int) (shapes:Nat):Bool:=fieldB kind shapes || (decide (shapes≤16) && (decide (64≤kind) && decide (kind<64+shapes)))
def isLocB (kind:Int):Bool:=decide (64≤kind) && decide (kind<80)
def firstAt (f:Nat→Int) (n:Nat):Int × Nat:=match (List.range n).find? fun i=>f i != 0 with | some i=>(f i,i) | none=>(0,0)
theorem firstAt_none {f:Nat→Int} {n:Nat} (h:∀ j,j<n→f j=0):firstAt f n=(0,0):=by
 unfold firstAt;have:(List.range n).find? (fun i=>f i != 0)=none:=by
  rw[List.find?_eq_none];intro x hx
  simp[h x (List.mem_range.1 hx)]
 rw[this]
theorem firstAt_hit {f:Nat→Int} {n k:Nat} (hk:k<n) (h:∀ j,j<k→f j=0) (hh:f k≠0):firstAt f n=(f k,k):=by
 unfold firstAt;have:(List.range n).find? (fun i=>f i != 0)=some k:=by
  rw[List.find?_range_eq_some];exact⟨by simpa using hh,List.mem_range.2 hk,fun j hj=>by simp[h j hj]⟩
 rw[this]
theorem firstAt_zero {f:Nat→Int} {n:Nat}:(firstAt f n).1=0↔∀ j,j<n→f j=0:=by
 constructor
 ·intro h j hj
  by_cases hz:∃ k,k<n∧f k≠0
  ·exfalso
   unfold firstAt at h
   cases hf:(List.range n).find? fun i=>f i != 0 with
   | none =>
     obtain⟨k,hk,hk2⟩:=hz;rw[List.find?_eq_none] at hf;have:=hf k (List.mem_range.2 hk)
     simp at this
     exact hk2 this
   | some k =>
     rw[hf] at h;have:=List.find?_some hf
     simp at this
     exact this h
  ·exact Classical.byContradiction fun hne=>hz ⟨j,hj,hne⟩
 ·intro h
  rw[firstAt_none h]
def shErr (n:Nat) (x:List Int):Int:=if x.length<1∨16<x.length then 1 else if x.all (fieldB · n) then 0 else 3
def shapesErr (l:List (List Int)):Int:=if 16<l.length then 1 else (firstAt (fun i=>shErr l.length (l[i]?.getD [])) l.length).1
def calleeF (p:Prg) (i:Ins):Option Fun:=if (i.op=21∨i.op=23∨i.op=24)∧withinB i.b p.funcs.length=true then p.funcs[i.b.toNat]? else none
def argsN (g:Option Fun):Nat:=match g with | some g=>g.args.length | none=>0
def quietB (p:Prg) (f:Fun) (i:Ins):Bool :=
 (i.op == 22 && f.result == 0) || (i.op == 21 && (match calleeF p i with | some g=>g.result == 0 | none=>false))
def formB (p:Prg) (f:Fun) (i:Ins):Bool:=knownS i.op && mayB i.a ((usesS i.op).1 && !quietB p f i) && mayB i.b (usesS i.op).2.1 && mayB i.c (usesS i.op).2.2
def usedL (p:Prg) (f:Fun) (i:Ins):List Int :=
 readsL i (argsN (calleeF p i)) ++ (if writesS i.op && !quietB p f i then [i.a] else []) ++ (if i.op == 26 then [i.b] else []) ++ (if i.op == 22 && !quietB p f i then [i.a] else [])
def roomB (f:Fun) (c:Int) (n:Nat):Bool:=decide (0≤c) && decide ((n:Int)≤f.slots) && decide (c≤f.slots - n)
def slotsB (p:Prg) (f:Fun) (i:Ins):Bool:=(match calleeF p i with | some g=>roomB f i.c g.args.length | none=>true) && (usedL p f i).all (withinB · f.slots)
def thingsB (p:Prg) (f:Fun) (i:Ins):Bool :=
 if i.op=9∨i.op=10 then withinB i.b f.code.length
 else if i.op=21∨i.op=23∨i.op=24 then withinB i.b p.funcs.length
 else if i.op=13∨i.op=11 then withinB i.b p.shapes.length
 else if i.op=16 then withinB i.b p.globals.length
 else if i.op=17 then withinB i.a p.globals.length
 else if i.op=18 then withinB i.b f.objects.length
 else if i.op=14∨i.op=19 then withinB i.c 16
 else if i.op=15∨i.op=20 then withinB i.b 16
 else true
def kindsB (p:Prg) (i:Ins):Bool :=
 if i.op=23∨i.op=24 then (match calleeF p i with | some g=>g.result == 0 && !g.args.any isLocB | none=>true)
 else if i.op=25∨i.op=26 then decide (0<p.shapes.length)
 else true
def instrS (p:Prg) (f:Fun) (i:Ins):Int:=if formB p f i=false then 2 else if (thingsB p f i && slotsB p f i)=false then 4 else if kindsB p i=false then 3 else 0
end Go.Proofs.YtlofbhoicbemnaaGreatDoor
