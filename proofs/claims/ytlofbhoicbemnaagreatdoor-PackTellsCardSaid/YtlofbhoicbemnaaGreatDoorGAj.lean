/- Walks: the book's lists: copies, marks; are they still what they were? Walks: the book's lists are marked, and grown. Walks: the book's .. -/
import Derived.Test.YtlofbhoicbemnaaGreatDoorGAh
import Derived.Test.YtlofbhoicbemnaaGreatDoorGAi
set_option linter.unusedVariables false
set_option linter.unusedSimpArgs false
set_option maxRecDepth 100000
set_option maxHeartbeats 4000000
namespace Go.Proofs.YtlofbhoicbemnaaGreatDoor
open Go.ChangeShapes Go.WideShapes Go.ChangeAt Go.RowKit
def marks {α:Type} (mk:Nat→Nat→α) (i f n:Nat):List α:=(List.range n).map fun t=>mk i (f+t)
theorem IE (l:List Int):l.flatMap aG.enc=l.map (Value.int .i64):=by
 induction l with
 | nil=>rfl
 | cons x l ih=>rw[List.flatMap_cons,ih];rfl
theorem wH {w:World} {D:Nat→Prop} {a:Option Addr} {l:List Int} (h:aQ w D a l) (hn:1≤l.length):∃ b o,a=some ⟨b,o,none⟩∧aA w b o (l.flatMap aG.enc):=by
 obtain⟨b,o,rfl,_,_⟩:=h 0 (by omega);refine⟨b,o,rfl,fun j u hj=>?_⟩;rw[IE] at hj
 rcases Nat.lt_or_ge j l.length with hlt | hge
 ·obtain⟨b',o',h1,_,h3⟩:=h j hlt
  injection h1 with h1
  injection h1 with h1 h2 _
  subst h1 h2;rw[List.getElem?_map,List.getElem?_eq_getElem hlt] at hj
  injection hj with hj
  rw[← hj];exact h3
 ·rw[List.getElem?_eq_none (by simpa using hge)] at hj;cases hj
theorem tY {w:World} {D:Nat→Prop} {a:Option Addr} {l:List Ins} (h:eH w D a l) (hn:1≤l.length):∃ b o,a=some ⟨b,o,none⟩∧aA w b o (l.flatMap ig.enc):=by
 obtain⟨b,o,rfl,_,_⟩:=h 0 (by omega);refine⟨b,o,rfl,fun j u hj=>?_⟩;have hlen:=ig.len l
 rcases Nat.lt_or_ge (j / 4) l.length with hlt | hge
 ·obtain⟨b',o',h1,_,h3⟩:=h (j / 4) hlt
  injection h1 with h1
  injection h1 with h1 h2 _
  subst h1 h2;have hf:=sG l (j / 4) (j % 4) hlt (by omega);have ej:j / 4 * 4+j % 4=j:=by omega
  rw[ej] at hf;have hj:(l.flatMap Ins.cells)[j]?=some u:=hj;rw[hf] at hj;obtain⟨q0,q1,q2,q3⟩:=h3;have hr:j % 4<4:=by omega
  have eo:o+j=o+j / 4 * 4+j % 4:=by omega
  rw[eo];generalize j % 4=r at *
  match r,hr,hj with
  | 0,_,hj=>injection hj with hj;rw[← hj];exact q0
  | 1,_,hj=>injection hj with hj;rw[← hj];exact q1
  | 2,_,hj=>injection hj with hj;rw[← hj];exact q2
  | 3,_,hj=>injection hj with hj;rw[← hj];exact q3
 ·have:l.length * 4≤j:=by omega
  rw[List.getElem?_eq_none (by rw[hlen];exact this)] at hj;cases hj
def part {α:Type} (mk:Nat→Nat→α) (i k:Nat) (l:List α):List α:=marks mk i 0 k ++ l.drop k
theorem Own.slot {P:Program} {α:Type} {E:Elem P α} {w:World} {B g n c:Nat} {l:List α} (h:Own E w B (.slice (some ⟨g,0,none⟩) n c) l) (m:Nat) (hm:m<l.length * E.size):(∃ u,w.cell? ⟨g,m,none⟩=some u)∧w.frozen? ⟨g,m,none⟩=false:=by
 obtain⟨h1,h2⟩:=h
 rcases h2 with⟨hc,_⟩ | ⟨g',cap,cur,hv,hbg,hg,hnc,hcm,hcs,htake⟩
 ·cases hc
 ·injection hv with q1 q2 q3
  injection q1 with q1
  injection q1 with q1
  subst q1;have h3:=aa hg m;refine⟨?_,h3.2⟩;have hlt:m<cur.size:=by
   rw[hcs];exact Nat.lt_of_lt_of_le hm (Nat.mul_le_mul_right _ hnc)
  exact⟨cur[m],by rw[h3.1,Array.getElem?_eq_getElem hlt]⟩
def dF (op:Int):Bool:=decide (op ∈ [1,2,3,4,5,6,7,8,11,12,13,14,16,18,19,21,26])
def uE (op:Int):Bool:=decide (op ∈ [13,21,9,10,28,22])
theorem zq (op:Int) (h:op<0∨29<op):dF op=false:=by simp[dF];omega
theorem EG (op:Int) (h:op<0∨29<op):uE op=false:=by simp[uE];omega
def vX (w:World) (op:Int):Prop:=∀ a b c:Int,Calls Tryz.prog 228 #[.agg #[.int .i64 op,.int .i64 a,.int .i64 b,.int .i64 c]] w fun e w'=>e=.returned (.tuple #[.int .i64 (if dF op then a else 0),.bool (dF op)])∧Below w.heap.size w w'
theorem JY (w:World):∀ op ∈ jE,vX w op:=by
 apply mW <;> (unfold vX;intro a b c;go_enter Tryz.func228,Tryz.ntmps228;go_wp2;go_ret2;exact⟨rfl,(Below.refl _ _).alloc (Nat.le_refl _) _⟩)
theorem FN (w:World) (op:Int):vX w op:=by
 refine mo (JY w) (fun op h=>?_) (fun op h=>?_) op
 all_goals
  unfold vX;intro a b c;rw[zq op (by omega)]
  go_enter Tryz.func228,Tryz.ntmps228
  go_wp2
  go_ret2
  exact⟨rfl,(Below.refl _ _).alloc (Nat.le_refl _) _⟩
def lI (w:World) (op:Int):Prop:=Calls Tryz.prog 170 #[.int .i64 op] w fun e w'=>e=.returned (.bool (uE op))∧w=w'
theorem Iq (w:World):∀ op ∈ jE,lI w op:=by
 apply mW <;> (unfold lI;go_enter Tryz.func170,Tryz.ntmps170;go_wp2;go_ret;exact⟨rfl,rfl⟩)
theorem Fv (w:World) (op:Int):lI w op:=by
 refine mo (Iq w) (fun op h=>?_) (fun op h=>?_) op
 all_goals
  unfold lI;rw[EG op (by omega)]
  go_enter Tryz.func170,Tryz.ntmps170
  go_wp2
  go_ret
  exact⟨rfl,rfl⟩
def wO (l:List Int) (x:Int) (w:World) (e:Ending) (w':World):Prop:=∃ r:Int,e=.returned (.int .i64 r)∧decide (0≤r)=decide (x ∈ l)∧w'=w
theorem Ib (w:World) (D:Nat→Prop) (a:Option Addr) (l:List Int) (c:Nat) (x:Int) (hl:aQ w D a l) (hn:l.length≤1000000) :
  Calls Tryz.prog 231 #[.slice a l.length c,.int .i64 x] w (wO l x w):=by
 have HL:=k_ hl;clear hl
 go_enter Tryz.func231,Tryz.ntmps231
 go_wp2_with fail
 go_loopw [8] (fun i wr=>∃ k:Nat,k≤l.length∧i=.int .i64 k∧x ∉ l.take k∧wr=w) (fun i _=>l.length - (intOf i).toNat)
 case atStart=>exact⟨0,Nat.zero_le _,rfl,by simp,rfl⟩
 case round =>
  obtain⟨k,hk,rfl,hno,rfl⟩:=hrel
  by_cases hlt:k<l.length
  ·obtain⟨b,o,rfl,_,hx⟩:=HL.out k hlt
   have hsn:=aK l k hlt;have hmem:=List.getElem_mem hlt;generalize l[k]=y at *
   by_cases hxy:x=y
   ·subst hxy
    have hP:wO l x wr (.returned (.int .i64 k)) wr:=⟨k,rfl,by simp[hmem],rfl⟩;have HP:=k_ hP;clear hsn hmem hno hP;go_wp2_with fail
    go_ret
    exact HP.out
   ·have hb:(x == y)=false:=by simpa using hxy
    have hno2:x ∉ l.take (k+1):=by rw[hsn];simp;exact⟨hno,hxy⟩
    clear hsn hmem hno hxy;have HNO2:=k_ hno2;clear hno2;go_wp2_with fail
    go_roundw
    case rel=>exact⟨k+1,by omega,by go_num,HNO2.out,by first | rfl | trivial⟩
    case measure=>simp[intOf];omega
  ·have hno2:x ∉ l:=by rw[List.take_of_length_le (by omega)] at hno;exact hno
   have hP:wO l x wr (.returned (.int .i64 (-1))) wr:=⟨-1,rfl,by simp[hno2],rfl⟩;have HP:=k_ hP;clear hno hno2 hP;go_wp2_with fail
   go_ret
   exact HP.out
theorem oh (w:World) (D:Nat→Prop) (a:Option Addr) (l:List Int) (c:Nat) (x:Int) (hl:aQ w D a l) (hn:l.length≤1000000) :
  Calls Tryz.prog 163 #[.slice a l.length c,.int .i64 x] w fun e w'=>e=.returned (.bool (decide (x ∈ l)))∧w'=w:=by
 have h:=Ib w D a l c x hl hn;clear hl;have H:=k_ h;clear h
 go_enter Tryz.func163,Tryz.ntmps163
 go_wp2_with fail;refine H.out.mono ?_;rintro e w1 ⟨r,rfl,hr,rfl⟩;have HR:=k_ hr;clear hr;go_wp2_with fail
 go_ret
 exact⟨by rw[← HR.out];rfl,rfl⟩
def gQ (l:List Int):List Int:=l.foldl (fun out n=>if n ∈ out then out else out ++ [n]) []
theorem sU (l:List Int) (x:Int):gQ (l ++ [x])=if x ∈ gQ l then gQ l else gQ l ++ [x]:=by
 unfold gQ;rw[List.foldl_append]
 rfl
theorem uz (l:List Int) (k:Nat):(gQ (l.take k)).length≤k:=by
 induction k with
 | zero=>simp[gQ]
 | succ k ih =>
   by_cases h:k<l.length
   ·rw[aK l k h,sU]
    split
    ·omega
    ·simp;omega
   ·rw[List.take_of_length_le (by omega)]
    rw[List.take_of_length_le (by omega)] at ih
    omega
theorem DU (w:World) (D:Nat→Prop) (a:Option Addr) (l:List Int) (c:Nat) (hl:aQ w D a l) (hn:l.length≤100000) :
  Calls Tryz.prog 379 #[.slice a l.length c] w fun e w'=>∃ v,e=.returned v∧Own aG w' w.heap.size v (gQ l)∧Below w.heap.size w w':=by
 have HL:=k_ hl;clear hl
 go_enter Tryz.func379,Tryz.ntmps379
 go_wp2_with fail
 go_loopw [3,8] (fun v i wr=>∃ k:Nat,k≤l.length∧i=.int .i64 k∧Own aG wr w.heap.size v (gQ (l.take k))∧Below w.heap.size w wr) (fun _ i _=>l.length - (intOf i).toNat)
 case atStart=>exact⟨0,Nat.zero_le _,rfl,Own.nil _ _ _,Below.refl _ _⟩
 case round =>
  obtain⟨k,hk,rfl,hown,hB⟩:=hrel
  by_cases hlt:k<l.length
  ·obtain⟨b,o,rfl,_,hx⟩:=HL.out k hlt
   have hx:=ae hB hx;have hsn:=aK l k hlt;have hos:=sU (l.take k) l[k];rw[← hsn] at hos;have hol:=uz l k;generalize l[k]=x at *;generalize gQ (l.take k)=L at *;obtain⟨a1,c1,hv,hsl⟩:∃ a1 c1,_=Value.slice a1 L.length c1∧aQ wr _ a1 L:=by
    obtain⟨a1,c1,h1,h2⟩:=bI hown;exact⟨a1,c1,h1,h2⟩
   subst hv;have hc:=oh wr _ a1 L c1 x hsl (by omega);clear hsl hsn
   by_cases hm:x ∈ L
   ·rw[if_pos hm] at hos
    rw[decide_eq_true hm] at hc;clear hm;have HC:=k_ hc;clear hc;have HOS:=k_ hos;clear hos;have HOWN:=k_ hown;clear hown;have HB:=k_ hB;clear hB;go_wp2_with fail;refine HC.out.mono ?_;rintro e w1 ⟨rfl,rfl⟩;go_wp2_with fail
    go_roundw
    case rel=>exact⟨k+1,by omega,by go_num,by rw[HOS.out];exact HOWN.out,HB.out⟩
    case measure=>simp[intOf];omega
   ·rw[if_neg hm] at hos
    rw[decide_eq_false hm] at hc;clear hm;have HC:=k_ hc;clear hc;have HOS:=k_ hos;clear hos;have HOWN:=k_ hown;clear hown;have HB:=k_ hB;clear hB;go_wp2_with fail;refine HC.out.mono ?_;rintro e w1 ⟨rfl,rfl⟩
    go_wp2_with (at_builtin;refine bJ aG rfl (.tmp 16) (.tmp 18) rfl w.heap.size L [x] _ rfl (HOWN.out.alloc _) w1.heap.size 0 1 rfl (aA.new _ _ _ _) ?c1 ?c2 ?_)
    case c1=>simp;omega
    case c2=>have:=HB.out.size;simp;omega
    intro v2 w2 hown2 hg2;have hB2:=k_ (below_grown (HB.out.alloc HB.out.size _) (HOWN.out.alloc _) hg2 (by have:=HB.out.size;simp;omega) (Nat.le_refl _));have HO2:=k_ hown2;clear hown2 hg2;go_wp2_with fail
    go_roundw
    case rel=>exact⟨k+1,by omega,by go_num,by rw[HOS.out];exact HO2.out,hB2.out⟩
    case measure=>simp[intOf];omega
  ·have hk':k=l.length:=by omega
   subst hk';rw[List.take_length] at hown;have hP:∀ v,Own aG wr w.heap.size v (gQ l)→∃ v',Ending.returned v=.returned v'∧Own aG wr w.heap.size v' (gQ l)∧Below w.heap.size w wr:=fun v hv=>⟨v,rfl,hv,hB⟩
   have HP:=k_ (hP _ hown);clear hP hown hB;go_wp2_with fail
   go_ret
   exact HP.out
def yI (args:Int):Nat:=(min (max args 0) 16).toNat
def tL (c:Int) (n:Nat):List Int:=(List.range n).map fun k:Nat=>wrap64 (c+(k:Int))
def jJ (x:Ins) (args:Int):List Int :=
 if x.op ∈ [2,12,14,17,19] then [x.b]
 else if x.op ∈ [3,4,5,6,7,8] then gQ [x.b,x.c]
 else if x.op ∈ [10,29] then [x.a]
 else if x.op ∈ [15,20] then gQ [x.a,x.c]
 else if x.op ∈ [25] then gQ [x.a,x.b]
 else if x.op ∈ [21,23,24] then tL x.c (yI args)
 else []
theorem ww (c:Int) (n:Nat):(tL c n).length=n:=by simp[tL]
theorem ET (args:Int):yI args≤16∧(yI args:Int)=min (max args 0) 16:=by unfold yI;omega
theorem FK (w:World) (l:List Int) (hl:l.length≤100) (g:Nat) (hg:g=w.heap.size):Calls Tryz.prog 379 #[.slice (some ⟨g,0,none⟩) l.length l.length] (w.alloc (.cells (l.map (Value.int .i64)).toArray 3)) fun e w'=>∃ v,e=.returned v∧Own aG w' (w.heap.size+1) v (gQ l)∧Below w.heap.size w w':=by
 subst hg;refine(DU _ _ _ l l.length (wL w l) (by omega)).mono ?_;rintro e w' ⟨v,rfl,ho,hb⟩;have hs:(w.alloc (.cells (l.map (Value.int .i64)).toArray 3)).heap.size=w.heap.size+1:=by simp
 rw[hs] at ho hb;exact⟨v,rfl,ho,((Below.refl _ _).alloc (Nat.le_refl _) _).trans (hb.mono (by omega))⟩
def ji (x:Ins) (args:Int) (w:World) (e:Ending) (w':World):Prop:=∃ v,e=.returned v∧Own aG w' w.heap.size v (jJ x args)∧Below w.heap.size w w'
theorem Ia (w:World) (op a b c args:Int) (hop:op ∈ [10,29]):Calls Tryz.prog 349 #[.agg #[.int .i64 op,.int .i64 a,.int .i64 b,.int .i64 c],.int .i64 args] w (ji ⟨op,a,b,c⟩ args w):=by
 have ho:=fun w g hg=>FK w [a] (by simp) g hg
 have hm:([a].map (Value.int .i64)).toArray=#[.int .i64 a]:=rfl;rw[hm] at ho;clear hm;have HO:=k_ ho;clear ho;simp only[List.mem_cons,List.not_mem_nil,or_false] at hop;have hfin:jJ ⟨op,a,b,c⟩ args=gQ [a]:=by rcases hop with rfl|rfl <;> rfl
 have hsz:∀ o,(w.alloc o).heap.size=w.heap.size+1:=fun o=>by simp
 have HFIN:=k_ hfin;clear hfin;have HSZ:=k_ hsz;clear hsz
 rcases hop with rfl|rfl
 all_goals
  go_enter Tryz.func349,Tryz.ntmps349
  go_wp2_with fail;refine(HO.out _ _ (by simp)).mono ?_;rintro e w1 ⟨v,rfl,hown,hb⟩;have hP:ji ⟨_,a,b,c⟩ args w (.returned v) w1:=⟨v,rfl,by rw[HFIN.out];exact Own.base hown (fun k hk=>by have:=(hown.lt hk).1;rw[HSZ.out] at this;omega),((Below.refl _ _).alloc (Nat.le_refl _) _).trans (hb.mono (by rw[HSZ.out];omega))⟩;have HP:=k_ hP;clear hP hown hb;go_wp2_with fail
  go_ret
  exact HP.out
theorem rC (w:World) (op a b c args:Int) (hop:op ∉ [2,12,14,17,19,3,4,5,6,7,8,10,29,15,20,25,21,23,24]):Calls Tryz.prog 349 #[.agg #[.int .i64 op,.int .i64 a,.int .i64 b,.int .i64 c],.int .i64 args] w (ji ⟨op,a,b,c⟩ args w):=by
 have hfin:jJ ⟨op,a,b,c⟩ args=[]:=by
  simp at hop
  simp[jJ,hop]
 simp at hop
 obtain⟨e0,e1,e2,e3,e4,e5,e6,e7,e8,e9,e10,e11,e12,e13,e14,e15,e16,e17,e18⟩:=hop;have HFIN:=k_ hfin;clear hfin;have hP:ji ⟨op,a,b,c⟩ args w (.returned (.slice none 0 0)) (w.alloc (.cells #[.int .i64 op,.int .i64 a,.int .i64 b,.int .i64 c] 63)):=⟨_,rfl,by rw[HFIN.out];exact Own.nil _ _ _,(Below.refl _ _).alloc (Nat.le_refl _) _⟩;have HP:=k_ hP;clear hP
 go_enter Tryz.func349,Tryz.ntmps349
 go_wp2_with fail
 go_ret
 exact HP.out
theorem ed {P:Program} {α:Type} (E:Elem P α) {ops:Array Oper} {rest:List Oper} {o:Oper} {a:Act} {Q:Exit→Act→World→Prop} {w:World} (hgd:o.guard=none) (s x:Operand)
  (ho:o.op=.call { callee:=.builtin .append,args:=#[s,x],argTypes:=#[E.t,E.t] })
  (B:Nat) (l m:List α) (v:Value) (hs:a.eval s=v) (hown:Own E w B v l) (xa:Addr) (c:Nat) (hx:a.eval x=.slice (some xa) m.length c)
  (hm:∀ j u,(m.flatMap E.enc)[j]?=some u→w.cell? (xa.add j)=some u) (hlen:l.length+m.length≤100000000) (hB:B≤w.heap.size)
  (h:∀ v' w',Own E w' B v' (l ++ m)→w.grownBy w' v.ownBlock→wpList P ops Q rest (a.put o.dst v') w'):wpList P ops Q (o :: rest) a w:=by
 obtain⟨i0,hi,hz0,hz1,hz2⟩:=info_parts E.info;refine wpList_append_own _ hgd s x E.t ho B E.e i0 E.zero E.size E.bytes E.ht hi hz0 hz1 hz2 E.hzs E.hsz v l.length (l.flatMap E.enc) hs hown xa m.length c (m.flatMap E.enc) hx (E.len m) hm ?_ ?_ ?_ hB ?_
 ·intro u hu
  obtain⟨y,_,hy⟩:=List.mem_flatMap.1 hu;exact E.hone y u hy
 ·unfold maxLen;omega
 ·have h1:=E.hby
  have h2:(l.length+m.length) * E.bytes≤100000000 * 1000:=Nat.mul_le_mul hlen h1
  omega
 ·intro v' w' ho' hg _
  refine h v' w' ?_ hg;unfold Own;rw[List.length_append,List.flatMap_append];exact ho'
theorem rJ {w:World} {b o:Nat} {cs:List Value} (h:aA w b o cs):∀ j u,cs[j]?=some u→w.cell? ((⟨b,o,none⟩:Addr).add j)=some u:=by
 intro j u hj;have:=h j u hj;unfold Addr.add
 by_cases h0:j=0
 ·subst h0;rw[if_pos rfl];exact this
 ·rw[if_neg h0];exact this
theorem xh {w:World} {D:Nat→Prop} {xa:Addr} {l:List Int} (h:aQ w D (some xa) l):∀ j u,(l.flatMap aG.enc)[j]?=some u→w.cell? (xa.add j)=some u:=by
 by_cases h0:1≤l.length
 ·obtain⟨b,o,e,hc⟩:=wH h h0
  injection e with e
  subst e;exact rJ hc
 ·have:l=[]:=List.length_eq_zero_iff.1 (by omega)
  subst this;intro j u hj
  simp at hj
theorem ui {w:World} {D:Nat→Prop} {xa:Addr} {l:List Ins} (h:eH w D (some xa) l):∀ j u,(l.flatMap ig.enc)[j]?=some u→w.cell? (xa.add j)=some u:=by
 by_cases h0:1≤l.length
 ·obtain⟨b,o,e,hc⟩:=tY h h0
  injection e with e
  subst e;exact rJ hc
 ·have:l=[]:=List.length_eq_zero_iff.1 (by omega)
  subst this;intro j u hj
  simp at hj
theorem qD {w:World} {xa:Addr} {o:Obj} {v:Value} (h:w.cell? xa=some v):(w.alloc o).cell? xa=some v:=by
 have hp:=lg h;rw[hp] at h ⊢;rw[aY _ _ (World.block_lt h)];exact h
theorem dY {α:Type} (E:Elem Tryz.prog α) (a:Option Addr) (n c:Nat) (w:World):(binOp .eql E.t (.slice a n c) (.slice none 0 0)).run Tryz.prog w=.ok (.bool a.isNone) w:=by
 have h:(Op.equalIn (9999+1) E.t (.slice a n c) (.slice none 0 0)).run Tryz.prog w=.ok a.isNone w:=by
  unfold Op.equalIn
  cases a <;> simp[run_underlying E.ht]
 have h2:binOp .eql E.t (.slice a n c) (.slice none 0 0)=(do pure (.bool (← Op.equalIn (9999+1) E.t (.slice a n c) (.slice none 0 0)))):=rfl;rw[h2]
 simp[h]
theorem bX (w:World) (D:Nat→Prop) (a:Option Addr) (l:List Int) (c:Nat) (hsl:aQ w D a l) (hn:l.length≤1000000) :
  Calls Tryz.prog 108 #[.slice a l.length c] w fun e w'=>∃ v,e=.returned v∧Own aG w' w.heap.size v l∧Below w.heap.size w w':=by
 cases a with
 | none =>
   have hl:l=[]:=by
    cases l with
    | nil=>rfl
    | cons x l=>obtain⟨b,o,h,_⟩:=hsl 0 (by simp);cases h
   subst hl;have hnil:=fun w=>dY aG none 0 c w
   have hnil:∀ w,(binOp .eql 44 (.slice none 0 c) (.slice none 0 0)).run Tryz.prog w=.ok (.bool true) w:=hnil
   go_enter Tryz.func108,Tryz.ntmps108
   go_wp2_with fail
   go_ret
   exact⟨_,rfl,Own.nil _ _ _,Below.refl _ _⟩
 | some xa =>
   have hc:=xh hsl;have ho:=kH aG w [] #[] rfl (by decide);have hb0:=(Below.refl w.heap.size w).alloc (Nat.le_refl _) (.cells #[] aG.e);have hc2:=fun j u hj=>qD (o:=.cells #[] aG.e) (hc j u hj)
   have hnil:=fun w=>dY aG (some xa) l.length c w
   have hnil:∀ w,(binOp .eql 44 (.slice (some xa) l.length c) (.slice none 0 0)).run Tryz.prog w=.ok (.bool false) w:=hnil;clear hsl hc;have HC2:=k_ hc2;clear hc2;have HO:=k_ ho;clear ho;have HB0:=k_ hb0;clear hb0
   go_enter Tryz.func108,Tryz.ntmps108
   go_wp2_with (at_builtin;refine ed aG rfl (.tmp 5) (.tmp 6) rfl w.heap.size [] l _ rfl HO.out xa c rfl HC2.out ?c1 ?c2 ?_)
   case c1=>simp;omega
   case c2=>simp
   intro v2 w2 hown2 hg2;have hB2:=below_grown HB0.out HO.out hg2 (by simp) (Nat.le_refl _);clear hg2;have HB2:=k_ hB2;clear hB2;have HOWN2:=k_ hown2;clear hown2;go_wp2_with fail
   go_ret
   exact⟨_,rfl,HOWN2.out,HB2.out⟩
theorem qM (w:World) (D:Nat→Prop) (a:Option Addr) (l:List Ins) (c:Nat) (hsl:eH w D a l) (hn:l.length≤1000000) :
  Calls Tryz.prog 118 #[.slice a l.length c] w fun e w'=>∃ v,e=.returned v∧Own ig w' w.heap.size v l∧Below w.heap.size w w':=by
 cases a with
 | none =>
   have hl:l=[]:=by
    cases l with
    | nil=>rfl
    | cons x l=>obtain⟨b,o,h,_⟩:=hsl 0 (by simp);cases h
   subst hl;have hnil:=fun w=>dY ig none 0 c w
   have hnil:∀ w,(binOp .eql 64 (.slice none 0 c) (.slice none 0 0)).run Tryz.prog w=.ok (.bool true) w:=hnil
   go_enter Tryz.func118,Tryz.ntmps118
   go_wp2_with fail
   go_ret
   exact⟨_,rfl,Own.nil _ _ _,Below.refl _ _⟩
 | some xa =>
   have hc:=ui hsl;have ho:=kH ig w [] #[] rfl (by decide);have hb0:=(Below.refl w.heap.size w).alloc (Nat.le_refl _) (.cells #[] ig.e);have hc2:=fun j u hj=>qD (o:=.cells #[] ig.e) (hc j u hj)
   have hnil:=fun w=>dY ig (some xa) l.length c w
   have hnil:∀ w,(binOp .eql 64 (.slice (some xa) l.length c) (.slice none 0 0)).run Tryz.prog w=.ok (.bool false) w:=hnil;clear hsl hc;have HC2:=k_ hc2;clear hc2;have HO:=k_ ho;clear ho;have HB0:=k_ hb0;clear hb0
   go_enter Tryz.func118,Tryz.ntmps118
   go_wp2_with (at_builtin;refine ed ig rfl (.tmp 5) (.tmp 6) rfl w.heap.size [] l _ rfl HO.out xa c rfl HC2.out ?c1 ?c2 ?_)
   case c1=>simp;omega
   case c2=>simp
   intro v2 w2 hown2 hg2;have hB2:=below_grown HB0.out HO.out hg2 (by simp) (Nat.le_refl _);clear hg2;have HB2:=k_ hB2;clear hB2;have HOWN2:=k_ hown2;clear hown2;go_wp2_with fail
   go_ret
   exact⟨_,rfl,HOWN2.out,HB2.out⟩
end Go.Proofs.YtlofbhoicbemnaaGreatDoor
namespace Go.Proofs.YtlofbhoicbemnaaGreatDoor
open Go.RowKit
variable {P:Program} {α β:Type}
theorem Own.typed {E:Elem P α} {w:World} {B:Nat} {v:Value} {l:List α} (h:Own E w B v l) {k:Nat} (hk:v.ownBlock=some k):∃ cs,w.heap[k]?=some (.cells cs E.e):=by
 obtain⟨h1,h2⟩:=h
 rcases h2 with⟨rfl,h0⟩ | ⟨g,cap,cur,rfl,hg,hh,hr⟩
 ·cases hk
 ·have:g=k:=by injection hk
  subst this;exact⟨cur,hh⟩
def dI (w:World) (F:Nat→Prop) (e:TypeId):Prop:=∀ k,F k→k<w.heap.size→∃ cs t,w.heap[k]?=some (.cells cs t)∧t≠e
theorem Own.frT {E:Elem P α} {F:Nat→Prop} {w w':World} {B:Nat} {v:Value} {l:List α} (h:Own E w B v l) (hf:Fr F w w') (hF:dI w F E.e):Own E w' B v l :=
 h.fr hf (fun k hk hFk=>by
  obtain⟨cs,t,h1,h2⟩:=hF k hFk (h.lt hk).2;obtain⟨cs',h3⟩:=h.typed hk;rw[h1] at h3
  injection h3 with h3
  injection h3 with _ h3
  exact h2 h3)
theorem dI.own {E:Elem P α} {w:World} {B:Nat} {v:Value} {l:List α} (h:Own E w B v l) {e:TypeId} (he:E.e≠e):dI w (fun k=>v.ownBlock=some k) e:=fun k hk _=>by
 obtain⟨cs,h1⟩:=h.typed hk;exact⟨cs,E.e,h1,he⟩
theorem dI.one {w:World} {q:Nat} {cs:Array Value} {t e:TypeId} (h:w.heap[q]?=some (.cells cs t)) (he:t≠e):dI w (fun k=>k=q) e:=fun k hk _=>by
 subst hk;exact⟨cs,t,h,he⟩
theorem dI.or {w:World} {F G:Nat→Prop} {e:TypeId} (h:dI w F e) (h':dI w G e):dI w (fun k=>F k∨G k) e:=fun k hk hlt=>hk.elim (fun h1=>h k h1 hlt) (fun h1=>h' k h1 hlt)
theorem dI.no {w:World} {e:TypeId}:dI w (fun _=>False) e:=fun _ h _=>h.elim
theorem Own.off {E:Elem P α} {w:World} {B q:Nat} {v:Value} {l:List α} {cs:Array Value} {t:TypeId} (h:Own E w B v l) (hq:w.heap[q]?=some (.cells cs t)) (hne:E.e≠t):v.ownBlock≠some q:=fun e=>by
 obtain⟨cs',h1⟩:=h.typed e;rw[hq] at h1
 injection h1 with h1
 injection h1 with _ h1
 exact hne h1.symm
def iY (w:World) (B:Nat) (v:Value) (hs:List Hd) (ls:List (List Int)):Prop :=
 Own shE w B v hs∧hs.length=ls.length∧∀ j (h:j<hs.length) (h':j<ls.length),hs[j].n=ls[j].length∧Own aG w B hs[j].val ls[j]
def lw (w:World) (B:Nat) (x:FnH) (f:Fun):Prop :=
 x.r=f.result∧x.s=f.slots∧(x.h0.n=f.args.length∧Own aG w B x.h0.val f.args)∧(x.h3.n=f.objects.length∧Own aG w B x.h3.val f.objects)∧(x.h4.n=f.code.length∧Own ig w B x.h4.val f.code)
def lC (w:World) (B:Nat) (v:Value) (xs:List FnH) (fs:List Fun):Prop :=
 Own fnE w B v xs∧xs.length=fs.length∧∀ j (h:j<xs.length) (h':j<fs.length),lw w B xs[j] fs[j]
theorem lw.frT {F:Nat→Prop} {w w':World} {B:Nat} {x:FnH} {f:Fun} (h:lw w B x f) (hf:Fr F w w') (h1:dI w F aG.e) (h2:dI w F ig.e):lw w' B x f :=
 ⟨h.1,h.2.1,⟨h.2.2.1.1,h.2.2.1.2.frT hf h1⟩,⟨h.2.2.2.1.1,h.2.2.2.1.2.frT hf h1⟩,h.2.2.2.2.1,h.2.2.2.2.2.frT hf h2⟩
theorem iY.frT {F:Nat→Prop} {w w':World} {B:Nat} {v:Value} {hs:List Hd} {ls:List (List Int)} (h:iY w B v hs ls) (hf:Fr F w w') (h0:dI w F shE.e) (h1:dI w F aG.e):iY w' B v hs ls :=
 ⟨h.1.frT hf h0,h.2.1,fun j hj hj'=>⟨(h.2.2 j hj hj').1,(h.2.2 j hj hj').2.frT hf h1⟩⟩
theorem lC.frT {F:Nat→Prop} {w w':World} {B:Nat} {v:Value} {xs:List FnH} {fs:List Fun} (h:lC w B v xs fs) (hf:Fr F w w') (h0:dI w F fnE.e) (h1:dI w F aG.e) (h2:dI w F ig.e):lC w' B v xs fs :=
 ⟨h.1.frT hf h0,h.2.1,fun j hj hj'=>(h.2.2 j hj hj').frT hf h1 h2⟩
theorem iY.nil (w:World) (B:Nat):iY w B (.slice none 0 0) [] []:=⟨Own.nil _ _ _,rfl,fun j hj=>by cases hj⟩
theorem lC.nil (w:World) (B:Nat):lC w B (.slice none 0 0) [] []:=⟨Own.nil _ _ _,rfl,fun j hj=>by cases hj⟩
theorem Dl {R:Hd→List Int→Prop} {hs:List Hd} {ls:List (List Int)} (hlen:hs.length=ls.length) (h:∀ j (h:j<hs.length) (h':j<ls.length),R hs[j] ls[j]) {x:Hd} {l:List Int} (hx:R x l):∀ j (h:j<(hs ++ [x]).length) (h':j<(ls ++ [l]).length),R (hs ++ [x])[j] (ls ++ [l])[j]:=by
 intro j hj hj'
 by_cases hlt:j<hs.length
 ·rw[List.getElem_append_left hlt,List.getElem_append_left (by omega)]
  exact h j hlt (by omega)
 ·have:j=hs.length:=by simp at hj;omega
  subst this;have e1:(hs ++ [x])[hs.length]=x:=by simp
  have e2:(ls ++ [l])[hs.length]'hj'=l:=by simp[hlen]
  rw[e1,e2];exact hx
theorem yh {R:FnH→Fun→Prop} {hs:List FnH} {ls:List Fun} (hlen:hs.length=ls.length) (h:∀ j (h:j<hs.length) (h':j<ls.length),R hs[j] ls[j]) {x:FnH} {l:Fun} (hx:R x l):∀ j (h:j<(hs ++ [x]).length) (h':j<(ls ++ [l]).length),R (hs ++ [x])[j] (ls ++ [l])[j]:=by
 intro j hj hj'
 by_cases hlt:j<hs.length
 ·rw[List.getElem_append_left hlt,List.getElem_append_left (by omega)]
  exact h j hlt (by omega)
 ·have:j=hs.length:=by simp at hj;omega
  subst this;have e1:(hs ++ [x])[hs.length]=x:=by simp
  have e2:(ls ++ [l])[hs.length]'hj'=l:=by simp[hlen]
  rw[e1,e2];exact hx
theorem sJ:(3:TypeId)≠63∧(3:TypeId)≠82∧(3:TypeId)≠66∧(3:TypeId)≠48 ∧
  (63:TypeId)≠82∧(63:TypeId)≠66∧(63:TypeId)≠48 ∧
  (82:TypeId)≠66∧(82:TypeId)≠48∧(66:TypeId)≠48:=by decide
def AU (w:World) (B:Nat) (p:Prg) (c0 c1 c2:Value):Prop :=
 Own aG w B c0 p.globals∧(∃ hs,iY w B c1 hs p.shapes)∧∃ xs,lC w B c2 xs p.funcs
theorem iY.inv {w:World} {B:Nat} {v:Value} {hs:List Hd} {ls:List (List Int)} (h:iY w B v hs ls):ik w (fun k=>B≤k∧k<w.heap.size) hs ls :=
 ⟨h.2.1,fun j hj hj'=>⟨(h.2.2 j hj hj').1,by
  obtain⟨a,c,he,hsl⟩:=bI (h.2.2 j hj hj').2;have:hs[j].a=a:=by injection he
  rw[this];exact hsl.dom (fun k hk=>(h.2.2 j hj hj').2.lt hk)⟩⟩
theorem lw.ok {w:World} {B:Nat} {x:FnH} {f:Fun} (h:lw w B x f):um w (fun k=>B≤k∧k<w.heap.size) x f:=by
 obtain⟨h1,h2,⟨h3,h4⟩,⟨h5,h6⟩,h7,h8⟩:=h;refine⟨h1,h2,⟨h3,?_⟩,⟨h5,?_⟩,h7,?_⟩
 ·obtain⟨a,c,he,hsl⟩:=bI h4
  have:x.h0.a=a:=by injection he
  rw[this];exact hsl.dom (fun k hk=>h4.lt hk)
 ·obtain⟨a,c,he,hsl⟩:=bI h6
  have:x.h3.a=a:=by injection he
  rw[this];exact hsl.dom (fun k hk=>h6.lt hk)
 ·obtain⟨a,c,he,hsl⟩:=pI h8
  have:x.h4.a=a:=by injection he
  rw[this];exact hsl.dom (fun k hk=>h8.lt hk)
theorem AU.val {w:World} {B:Nat} {p:Prg} {c0 c1 c2:Value} (h:AU w B p c0 c1 c2):aD w (fun k=>B≤k∧k<w.heap.size) p c0 c1 c2:=by
 obtain⟨h1,⟨hs,h2⟩,xs,h3⟩:=h;refine⟨?_,zL h2.1 h2.inv (fun _ h=>h) (fun k hk=>h2.1.lt hk),zJ h3.1 (D:=fun k=>B≤k∧k<w.heap.size) ⟨h3.2.1,fun j hj hj'=>(h3.2.2 j hj hj').ok⟩ (fun _ h=>h) (fun k hk=>h3.1.lt hk)⟩;obtain⟨a,c,he,hsl⟩:=bI h1;exact⟨a,c,he,hsl.dom (fun k hk=>h1.lt hk)⟩
end Go.Proofs.YtlofbhoicbemnaaGreatDoor
