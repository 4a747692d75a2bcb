/- Flow, plainly: the kinds behind an instruction, where it goes on, and what is less known. Nothing of the program's text stands here. .. -/
import Derived.Test.YtlofbhoicbemnaaGreatDoorDBb
set_option linter.unusedVariables false
set_option linter.unusedSimpArgs false
set_option maxRecDepth 100000
set_option maxHeartbeats 1600000
namespace Go.Proofs.YtlofbhoicbemnaaGreatDoor
def kindA (K:List Int) (k:Int):Int:=if 0≤k∧k<K.length then (K[k.toNat]?).getD 0 else 0
def fieldA (p:Prg) (of k:Int):Int:=if of<p.shapes.length∧0≤k∧k<((p.shapes[of.toNat]?).getD []).length then (((p.shapes[of.toNat]?).getD [])[k.toNat]?).getD 0 else 0
def isPtrB (x:Int):Bool:=decide (16≤x) && decide (x<32)
def leadA (loc:Bool) (x:Int):Option Int:=if loc then (if isLocB x then some (x - 64) else none) else if isPtrB x then some (x - 16) else none
def thrV (p:Prg) (o:Option Int) (fld:Int):Int:=match o with | none=>0 | some of=>fieldA p of fld
def throughA (p:Prg) (op:Int) (K:List Int) (slot fld:Int):Int:=thrV p (leadA (decide (op=19∨op=20)) (kindA K slot)) fld
def calleeR (p:Prg) (b:Int):Fun:=(p.funcs[b.toNat]?).getD fun0
def argsOk (K:List Int) (c:Int) (l:List Int) (n:Nat):Bool:=(List.range n).all fun k=>kindA K (c+(k:Int)) == (l[k]?).getD 0
def globA (p:Prg) (k:Int):Int:=(p.globals[k.toNat]?).getD 0
def readsK (p:Prg) (r:Int) (i:Ins) (K:List Int):Bool :=
 if 3≤i.op∧i.op≤8 then kindA K i.b == 1 && kindA K i.c == 1
 else if i.op=2 then kindA K i.b != 0
 else if i.op=10∨i.op=29 then kindA K i.a == 1
 else if i.op=12 then isPtrB (kindA K i.b)
 else if i.op=14∨i.op=19 then throughA p i.op K i.b i.c != 0
 else if i.op=15∨i.op=20 then throughA p i.op K i.a i.b != 0 && kindA K i.c == throughA p i.op K i.a i.b
 else if i.op=17 then kindA K i.b == globA p i.a
 else if i.op=21∨i.op=23∨i.op=24 then argsOk K i.c (calleeR p i.b).args (calleeR p i.b).args.length
 else if i.op=22 then r == 0 || kindA K i.a == r
 else if i.op=25 then kindA K i.a == 1 && kindA K i.b == 16
 else true
def setsK (p:Prg) (f:Fun) (i:Ins) (K:List Int):Int :=
 if i.op=2 then kindA K i.b
 else if i.op=11∨i.op=13 then 16+i.b
 else if i.op=14∨i.op=19 then throughA p i.op K i.b i.c
 else if i.op=16 then globA p i.b
 else if i.op=18 then 64+(f.objects[i.b.toNat]?).getD 0
 else if i.op=21 then (calleeR p i.b).result
 else 1
def writesK (p:Prg) (i:Ins):Bool:=writesS i.op && (i.op != 21 || (calleeR p i.b).result != 0)
def outK (p:Prg) (f:Fun) (i:Ins) (K:List Int):List Int :=
 if i.op=26 then (if writesK p i then K.set i.a.toNat (if readsK p f.result i K then setsK p f i K else 0) else K).set i.b.toNat 16
 else (if writesK p i then K.set i.a.toNat (if readsK p f.result i K then setsK p f i K else 0) else K)
def nextK (i:Ins) (pc:Int):List Int :=
 if i.op=22∨i.op=25∨i.op=27 then [] else if i.op=9 then [i.b] else if i.op=10∧i.b≠pc+1 then [pc+1,i.b] else [pc+1]
def joinL (a b:List Int):List Int:=List.zipWith (fun x y=>if x=y then x else 0) a b
theorem outK_len (p:Prg) (f:Fun) (i:Ins) (K:List Int):(outK p f i K).length=K.length:=by
 unfold outK
 split <;> split <;> simp
def Le (K L:List Int):Prop:=K.length=L.length∧∀ j:Nat,(K[j]?).getD 0=0∨(K[j]?).getD 0=(L[j]?).getD 0
theorem Le.refl (K:List Int):Le K K:=⟨rfl,fun _=>.inr rfl⟩
theorem Le.trans {K L M:List Int} (h:Le K L) (h2:Le L M):Le K M:=⟨h.1.trans h2.1,fun j=>by
 rcases h.2 j with e | e
 ·exact .inl e
 ·rcases h2.2 j with e2 | e2
  ·exact .inl (e.trans e2)
  ·exact .inr (e.trans e2)⟩
theorem joinL_len (a b:List Int):(joinL a b).length=min a.length b.length:=by simp[joinL]
theorem joinL_get (a b:List Int) (j:Nat) (h:a.length=b.length):((joinL a b)[j]?).getD 0=if (a[j]?).getD 0=(b[j]?).getD 0 then (a[j]?).getD 0 else 0:=by
 unfold joinL;rw[List.getElem?_zipWith]
 by_cases hj:j<a.length
 ·rw[List.getElem?_eq_getElem hj,List.getElem?_eq_getElem (show j<b.length by omega)]
  simp
 ·rw[List.getElem?_eq_none (by omega),List.getElem?_eq_none (show b.length≤j by omega)]
  simp
theorem joinL_left {a b:List Int} (h:a.length=b.length):Le (joinL a b) a:=⟨by rw[joinL_len];omega,fun j=>by
 rw[joinL_get a b j h]
 split
 ·exact .inr rfl
 ·exact .inl rfl⟩
theorem joinL_right {a b:List Int} (h:a.length=b.length):Le (joinL a b) b:=⟨by rw[joinL_len];omega,fun j=>by
 rw[joinL_get a b j h]
 split
 next e=>exact .inr e
 next=>exact .inl rfl⟩
theorem le_joinL {a b c:List Int} (h:Le c a) (h2:Le c b):Le c (joinL a b):=⟨by have:=h.1;have:=h2.1;rw[joinL_len];omega,fun j=>by
 rw[joinL_get a b j (by have:=h.1;have:=h2.1;omega)]
 rcases h.2 j with e | e
 ·exact .inl e
 ·rcases h2.2 j with e2 | e2
  ·exact .inl e2
  ·rw[if_pos (e.symm.trans e2)]
   exact .inr e⟩
theorem kindA_get (K:List Int) (k:Int) (h:0≤k):kindA K k=(K[k.toNat]?).getD 0:=by
 unfold kindA
 split
 ·rfl
 ·rw[List.getElem?_eq_none (by omega)]
  rfl
theorem kindA_le {K L:List Int} (h:Le K L) (k:Int):kindA K k=0∨kindA K k=kindA L k:=by
 by_cases hk:0≤k
 ·rw[kindA_get K k hk,kindA_get L k hk]
  exact h.2 _
 ·left
  unfold kindA;rw[if_neg (by omega)]
theorem leadA_zero (b:Bool):leadA b 0=none:=by cases b <;> rfl
theorem through_le {K L:List Int} (h:Le K L) (p:Prg) (op s x:Int):throughA p op K s x=0∨throughA p op K s x=throughA p op L s x:=by
 unfold throughA
 rcases kindA_le h s with e | e
 ·rw[e,leadA_zero]
  exact .inl rfl
 ·rw[e]
  exact .inr rfl
def InsOk (p:Prg) (i:Ins):Prop :=
 (i.op=17→globA p i.a≠0)∧(∀ k,k<(calleeR p i.b).args.length→(i.op=21∨i.op=23∨i.op=24)→((calleeR p i.b).args[k]?).getD 0≠0)
theorem readsK_le {K L:List Int} (h:Le K L) (p:Prg) (r:Int) (i:Ins) (ho:InsOk p i) (hr:readsK p r i K=true):readsK p r i L=true:=by
 have ha:=kindA_le h i.a;have hb:=kindA_le h i.b;have hc:=kindA_le h i.c;have t1:=through_le h p i.op i.b i.c;have t2:=through_le h p i.op i.a i.b;unfold readsK at hr ⊢
 by_cases c1:3≤i.op∧i.op≤8
 ·rw[if_pos c1] at hr ⊢
  simp only[Bool.and_eq_true,beq_iff_eq] at hr ⊢
  omega
 rw[if_neg c1] at hr ⊢
 by_cases c2:i.op=2
 ·rw[if_pos c2] at hr ⊢
  simp only[bne_iff_ne,ne_eq] at hr ⊢
  omega
 rw[if_neg c2] at hr ⊢
 by_cases c3:i.op=10∨i.op=29
 ·rw[if_pos c3] at hr ⊢
  simp only[beq_iff_eq] at hr ⊢
  omega
 rw[if_neg c3] at hr ⊢
 by_cases c4:i.op=12
 ·rw[if_pos c4] at hr ⊢
  rcases hb with e | e
  ·rw[e] at hr;cases hr
  ·rw[← e];exact hr
 rw[if_neg c4] at hr ⊢
 by_cases c5:i.op=14∨i.op=19
 ·rw[if_pos c5] at hr ⊢
  simp only[bne_iff_ne,ne_eq] at hr ⊢
  omega
 rw[if_neg c5] at hr ⊢
 by_cases c6:i.op=15∨i.op=20
 ·rw[if_pos c6] at hr ⊢
  simp only[Bool.and_eq_true,bne_iff_ne,ne_eq,beq_iff_eq] at hr ⊢
  omega
 rw[if_neg c6] at hr ⊢
 by_cases c7:i.op=17
 ·rw[if_pos c7] at hr ⊢
  have:=ho.1 c7;simp only[beq_iff_eq] at hr ⊢
  omega
 rw[if_neg c7] at hr ⊢
 by_cases c8:i.op=21∨i.op=23∨i.op=24
 ·rw[if_pos c8] at hr ⊢
  unfold argsOk at hr ⊢;rw[List.all_eq_true] at hr ⊢;intro k hk;have h1:=hr k hk;have h2:=ho.2 k (List.mem_range.1 hk) c8;have h3:=kindA_le h (i.c+(k:Int));simp only[beq_iff_eq] at h1 ⊢
  omega
 rw[if_neg c8] at hr ⊢
 by_cases c9:i.op=22
 ·rw[if_pos c9] at hr ⊢
  simp only[Bool.or_eq_true,beq_iff_eq] at hr ⊢
  omega
 rw[if_neg c9] at hr ⊢
 by_cases c10:i.op=25
 ·rw[if_pos c10] at hr ⊢
  simp only[Bool.and_eq_true,beq_iff_eq] at hr ⊢
  omega
 rw[if_neg c10]
theorem setsK_le {K L:List Int} (h:Le K L) (p:Prg) (f:Fun) (i:Ins):setsK p f i K=0∨setsK p f i K=setsK p f i L:=by
 have hb:=kindA_le h i.b;have t1:=through_le h p i.op i.b i.c;unfold setsK
 repeat' split
 all_goals first | exact hb | exact t1 | exact .inr rfl
theorem Le.set {K L:List Int} (h:Le K L) (n:Nat) {x y:Int} (hx:x=0∨x=y):Le (K.set n x) (L.set n y):=⟨by simpa using h.1,fun j=>by
 rw[List.getElem?_set,List.getElem?_set]
 by_cases e:n=j
 ·subst e
  rw[if_pos rfl,if_pos rfl]
  by_cases hn:n<K.length
  ·rw[if_pos hn,if_pos (by have:=h.1;omega)]
   simpa using hx
  ·rw[if_neg hn]
   exact .inl rfl
 ·rw[if_neg e,if_neg e]
  exact h.2 j⟩
theorem outK_le {K L:List Int} (h:Le K L) (p:Prg) (f:Fun) (i:Ins) (ho:InsOk p i):Le (outK p f i K) (outK p f i L):=by
 have hv:(if readsK p f.result i K=true then setsK p f i K else 0)=0∨(if readsK p f.result i K=true then setsK p f i K else 0)=(if readsK p f.result i L=true then setsK p f i L else 0):=by
  by_cases hr:readsK p f.result i K=true
  ·rw[if_pos hr,if_pos (readsK_le h p _ i ho hr)]
   exact setsK_le h p f i
  ·rw[if_neg hr]
   exact .inl rfl
 unfold outK
 by_cases hw:writesK p i=true
 ·rw[if_pos hw,if_pos hw]
  split
  ·exact(h.set _ hv).set _ (.inr rfl)
  ·exact h.set _ hv
 ·rw[if_neg hw,if_neg hw]
  split
  ·exact h.set _ (.inr rfl)
  ·exact h
abbrev Flo:=Nat→Option (List Int)
def firstK (f:Fun):List Int:=f.args ++ List.replicate (f.slots.toNat - f.args.length) 0
structure Sol (p:Prg) (f:Fun) (S:Flo):Prop where
 first:∃ K,S 0=some K∧Le K (firstK f)
 len:∀ q K,S q=some K→q<f.code.length∧K.length=f.slots.toNat
 step:∀ q K i,S q=some K→f.code[q]?=some i→∀ m:Nat,(m:Int) ∈ nextK i q→m<f.code.length→∃ L,S m=some L∧Le L (outK p f i K)
def IsFlow (p:Prg) (f:Fun) (M:Flo):Prop:=Sol p f M∧∀ S,Sol p f S→∀ q K,M q=some K→∃ L,S q=some L∧Le L K
def comeM (M:Flo) (n:Nat) (K:List Int):Flo:=fun q=>if q=n then some (match M n with | none=>K | some was=>joinL was K) else M q
def changes (M:Flo) (n:Nat) (K:List Int):Prop:=∀ was,M n=some was→joinL was K≠was
theorem comeM_same {M:Flo} {n:Nat} {K:List Int} (h:¬ changes M n K):comeM M n K=M:=by
 unfold changes at h;have⟨was,hw,he⟩:∃ was,M n=some was∧joinL was K=was:=by
  refine Classical.byContradiction fun hne=>h fun was hw he=>hne ⟨was,hw,he⟩
 funext q
 unfold comeM
 by_cases hq:q=n
 ·subst hq
  rw[if_pos rfl,hw]
  simp[he]
 ·rw[if_neg hq]
theorem comeM_other {M:Flo} {n q:Nat} {K:List Int} (h:q≠n):comeM M n K q=M q:=if_neg h
theorem comeM_none {M:Flo} {n:Nat} {K:List Int} (h:M n=none):comeM M n K n=some K:=by unfold comeM;rw[if_pos rfl,h]
theorem comeM_some {M:Flo} {n:Nat} {K was:List Int} (h:M n=some was):comeM M n K n=some (joinL was K):=by unfold comeM;rw[if_pos rfl,h]
structure FInv (p:Prg) (f:Fun) (M:Flo) (P:Nat→Int→Prop):Prop where
 low:∀ S,Sol p f S→∀ q K,M q=some K→∃ L,S q=some L∧Le L K
 first:∃ K,M 0=some K∧Le K (firstK f)
 len:∀ q K,M q=some K→q<f.code.length∧K.length=f.slots.toNat
 step:∀ q K i,M q=some K→f.code[q]?=some i→∀ m:Nat,(m:Int) ∈ nextK i q→m<f.code.length→¬ P q m→∃ L,M m=some L∧Le L (outK p f i K)
theorem FInv.weaken {p:Prg} {f:Fun} {M:Flo} {P Q:Nat→Int→Prop} (h:FInv p f M P) (hq:∀ q m,P q m→Q q m):FInv p f M Q :=
 ⟨h.low,h.first,h.len,fun q K i h1 h2 m h3 h4 h5=>h.step q K i h1 h2 m h3 h4 (fun hp=>h5 (hq _ _ hp))⟩
theorem FInv.done {p:Prg} {f:Fun} {M:Flo} {P:Nat→Int→Prop} (h:FInv p f M P) (hp:∀ q m,¬ P q m):IsFlow p f M :=
 ⟨⟨h.first,h.len,fun q K i h1 h2 m h3 h4=>h.step q K i h1 h2 m h3 h4 (hp _ _)⟩,h.low⟩
theorem firstK_len {f:Fun} (h:(f.args.length:Int)≤f.slots):(firstK f).length=f.slots.toNat:=by
 unfold firstK;rw[List.length_append,List.length_replicate]
 omega
theorem FInv.start {p:Prg} {f:Fun} (h0:0<f.code.length) (h:(f.args.length:Int)≤f.slots):FInv p f (comeM (fun _=>none) 0 (firstK f)) (fun q _=>q=0):=by
 have hne:∀ q K,comeM (fun _=>none) 0 (firstK f) q=some K→q=0∧K=firstK f:=fun q K hq=>by
  by_cases e:q=0
  ·subst e
   rw[comeM_none rfl] at hq
   injection hq with hq
   exact⟨rfl,hq.symm⟩
  ·rw[comeM_other e] at hq
   cases hq
 refine⟨fun S hS q K hq=>?_,⟨_,comeM_none rfl,Le.refl _⟩,fun q K hq=>?_,fun q K i hq h2 m h3 h4 h5=>absurd (hne q K hq).1 h5⟩
 ·obtain⟨rfl,rfl⟩:=hne q K hq
  exact hS.first
 ·obtain⟨rfl,rfl⟩:=hne q K hq
  exact⟨h0,firstK_len h⟩
theorem FInv.come {p:Prg} {f:Fun} {M:Flo} {P:Nat→Int→Prop} (h:FInv p f M P) (n:Nat) (K:List Int) (hn:n<f.code.length) (hK:K.length=f.slots.toNat) (hlow:∀ S,Sol p f S→∃ L,S n=some L∧Le L K) :
  FInv p f (comeM M n K) (fun q m=>P q m∨(q=n∧changes M n K))∧∃ L,comeM M n K n=some L∧Le L K:=by
 have hat:∃ L,comeM M n K n=some L∧Le L K∧L.length=f.slots.toNat∧(∀ was,M n=some was→Le L was)∧∀ S,Sol p f S→∃ L',S n=some L'∧Le L' L:=by
  cases hm:M n with
  | none=>exact⟨K,comeM_none hm,Le.refl _,hK,(fun _ h=>by cases h),hlow⟩
  | some was =>
    have hl:=(h.len n was hm).2;have hl2:was.length=K.length:=hl.trans hK.symm;refine⟨joinL was K,comeM_some hm,joinL_right hl2,by rw[joinL_len];omega,fun w hw=>by injection hw with e;subst e;exact joinL_left hl2,fun S hS=>?_⟩;obtain⟨L,hL,hle⟩:=hlow S hS;obtain⟨L2,hL2,hle2⟩:=h.low S hS n was hm;rw[hL] at hL2
    injection hL2 with e
    subst e;exact⟨L,hL,le_joinL hle2 hle⟩
 obtain⟨L,hL,hLK,hLl,hLw,hLS⟩:=hat;refine⟨⟨fun S hS q K' hq=>?_,?_,fun q K' hq=>?_,fun q K' i hq h2 m h3 h4 h5=>?_⟩,L,hL,hLK⟩
 ·by_cases e:q=n
  ·subst e
   rw[hL] at hq
   injection hq with hq
   subst hq;exact hLS S hS
  ·rw[comeM_other e] at hq
   exact h.low S hS q K' hq
 ·obtain⟨K0,h0,hle⟩:=h.first
  by_cases e:0=n
  ·subst e
   exact⟨L,hL,(hLw _ h0).trans hle⟩
  ·exact⟨K0,by rw[comeM_other e];exact h0,hle⟩
 ·by_cases e:q=n
  ·subst e
   rw[hL] at hq
   injection hq with hq
   subst hq;exact⟨hn,hLl⟩
  ·rw[comeM_other e] at hq
   exact h.len q K' hq
 ·have hq':M q=some K':=by
   by_cases e:q=n
   ·have hnc:¬ changes M n K:=fun hc=>h5 (.inr ⟨e,hc⟩)
    rw[comeM_same hnc] at hq;exact hq
   ·rw[comeM_other e] at hq
    exact hq
  obtain⟨L2,hL2,hle2⟩:=h.step q K' i hq' h2 m h3 h4 (fun hp=>h5 (.inl hp))
  by_cases e:m=n
  ·subst e
   exact⟨L,hL,(hLw _ hL2).trans hle2⟩
  ·exact⟨L2,by rw[comeM_other e];exact hL2,hle2⟩
theorem FInv.out {p:Prg} {f:Fun} {M:Flo} {P:Nat→Int→Prop} (h:FInv p f M P) {q:Nat} {K:List Int} {i:Ins} (hq:M q=some K) (hi:f.code[q]?=some i) (ho:InsOk p i) {m:Nat} (hm:(m:Int) ∈ nextK i q) (hml:m<f.code.length) :
  ∀ S,Sol p f S→∃ L,S m=some L∧Le L (outK p f i K):=fun S hS=>by
 obtain⟨L,hL,hle⟩:=h.low S hS q K hq;obtain⟨L2,hL2,hle2⟩:=hS.step q L i hL hi m hm hml;exact⟨L2,hL2,hle2.trans (outK_le hle p f i ho)⟩
def cnt (K:List Int):Nat:=K.countP (· != 0)
def potO (s:Nat) (o:Option (List Int)):Nat:=match o with | none=>s+1 | some K=>cnt K
def pot (s:Nat) (M:Flo):Nat→Nat | 0=>0 | n+1=>pot s M n+potO s (M n)
theorem cnt_le (K:List Int):cnt K≤K.length:=List.countP_le_length
theorem cnt_join:∀ a b:List Int,a.length=b.length→cnt (joinL a b)≤cnt a∧(joinL a b≠a→cnt (joinL a b)<cnt a)
 | [],b,_=>by simp[joinL,cnt]
 | x :: a,[],h=>by simp at h
 | x :: a,y :: b,h=>by
   have ih:=cnt_join a b (by simpa using h);have e:joinL (x :: a) (y :: b)=(if x=y then x else 0) :: joinL a b:=rfl;have e2:cnt (x :: a)=cnt a+if (x != 0)=true then 1 else 0:=List.countP_cons;have e3:cnt ((if x=y then x else 0) :: joinL a b)=cnt (joinL a b)+if ((if x=y then x else 0) != 0)=true then 1 else 0:=List.countP_cons;rw[e,e2,e3]
   by_cases hxy:x=y
   ·rw[if_pos hxy]
    refine⟨by omega,fun hne=>?_⟩;have:=ih.2 (fun e=>hne (by rw[e]))
    omega
   ·rw[if_neg hxy]
    by_cases hx:x=0
    ·subst hx
     refine⟨by omega,fun hne=>?_⟩;have:=ih.2 (fun e=>hne (by rw[e]))
     omega
    ·have h1:(if ((0:Int) != 0)=true then 1 else 0)=0:=by simp
     have h2:(if (x != 0)=true then 1 else 0)=1:=by simp[hx]
     rw[h1,h2];exact⟨by omega,fun _=>by omega⟩
theorem pot_congr (s:Nat) {M N:Flo} {n:Nat} (h:∀ q,q<n→M q=N q):pot s M n=pot s N n:=by
 induction n with
 | zero=>rfl
 | succ n ih =>
   show pot s M n+potO s (M n)=pot s N n+potO s (N n)
   rw[ih (fun q hq=>h q (by omega)),h n (by omega)]
theorem pot_one (s:Nat) {M N:Flo} {m:Nat}:∀ {n:Nat},m<n→(∀ q,q≠m→M q=N q)→pot s M n+potO s (N m)=pot s N n+potO s (M m)
 | n+1,hm,h=>by
   show pot s M n+potO s (M n)+potO s (N m)=pot s N n+potO s (N n)+potO s (M m)
   by_cases e:m=n
   ·subst e
    have:=pot_congr s (M:=M) (N:=N) (n:=m) (fun q hq=>h q (by omega))
    omega
   ·have:=pot_one s (M:=M) (N:=N) (m:=m) (n:=n) (by omega) h
    rw[h n (by omega)]
    omega
theorem pot_come {M:Flo} {s n m:Nat} {K:List Int} (hm:m<n) (hK:K.length=s) (hM:∀ was,M m=some was→was.length=s) :
  pot s (comeM M m K) n≤pot s M n∧(changes M m K→pot s (comeM M m K) n<pot s M n):=by
 have h:=pot_one s (M:=comeM M m K) (N:=M) hm (fun q hq=>comeM_other hq);have hp:potO s (comeM M m K m)≤potO s (M m)∧(changes M m K→potO s (comeM M m K m)<potO s (M m)):=by
  cases hw:M m with
  | none =>
    rw[comeM_none hw];have:=cnt_le K;exact⟨by show cnt K≤s+1;omega,fun _=>by show cnt K<s+1;omega⟩
  | some was =>
    rw[comeM_some hw];have:=cnt_join was K ((hM was hw).trans hK.symm);exact⟨this.1,fun hc=>this.2 (hc was hw)⟩
 exact⟨by omega,fun hc=>by have:=hp.2 hc;omega⟩
structure FunFit (p:Prg) (f:Fun):Prop where
 args:(f.args.length:Int)≤f.slots
 slots:f.slots≤16
 code1:1≤f.code.length
 code2:f.code.length≤64
 objs:∀ x ∈ f.objects,withinB x p.shapes.length=true
 kinds:∀ x ∈ f.args,validB x p.shapes.length=true
 ins:∀ (q:Nat) (i:Ins),f.code[q]?=some i→instrS p f i=0
structure PrgFit (p:Prg):Prop where
 funcs1:1≤p.funcs.length
 funcs2:p.funcs.length≤16
 shapes:p.shapes.length≤16
 globals:∀ x ∈ p.globals,fieldB x p.shapes.length=true
 fn:∀ f ∈ p.funcs,FunFit p f
theorem shapesErr_len {l:List (List Int)} (h:shapesErr l=0):l.length≤16:=by
 unfold shapesErr at h
 split at h
 ·omega
 ·omega
theorem prgFit {p:Prg} (h:(progS p).1=0):PrgFit p:=by
 obtain⟨hw,hf⟩:=(progS_zero p).1 h;unfold wholeS at hw
 by_cases h1:shapesErr p.shapes≠0
 ·rw[if_pos h1] at hw;exact absurd hw h1
 rw[if_neg h1] at hw;have h1:shapesErr p.shapes=0:=by simpa using h1
 by_cases h2:16<p.globals.length∨p.funcs.length<1∨16<p.funcs.length
 ·rw[if_pos h2] at hw;cases hw
 rw[if_neg h2] at hw
 by_cases h3:p.globals.all (fieldB · p.shapes.length)=false
 ·rw[if_pos h3] at hw;cases hw
 have h3:p.globals.all (fieldB · p.shapes.length)=true:=by simpa using h3
 rw[List.all_eq_true] at h3;refine⟨by omega,by omega,shapesErr_len h1,h3,fun f hfm=>?_⟩;obtain⟨k,hk,rfl⟩:=List.getElem_of_mem hfm;have h4:=hf k hk;rw[funcS_at k hk] at h4;have h5:=funF_zero h4;have h6:frontS p p.funcs[k]=0:=Classical.byContradiction fun hne=>hne (by rw[funF_front hne] at h4;exact h4)
 have h7:∀ (q:Nat) (i:Ins),p.funcs[k].code[q]?=some i→instrS p p.funcs[k] i=0:=fun q i hi=>by
  have hq:q<p.funcs[k].code.length:=by
   rcases Nat.lt_or_ge q p.funcs[k].code.length with h | h
   ·exact h
   ·rw[List.getElem?_eq_none h] at hi;cases hi
  have hx:=h5 q hq;have hin:withinB (k:Int) p.funcs.length=true:=by simp[withinB];omega
  have hc:codeOf p (k:Int)=p.funcs[k].code:=by unfold codeOf;rw[if_pos hin];simp[hk]
  have hat:iAt p (k:Int) (q:Int)=some i:=by
   unfold iAt;rw[hc,if_pos ⟨by omega,by omega⟩]
   simpa using hi
  rw[instrE_some hat] at hx
  simpa[hk] using hx
 generalize p.funcs[k]=f at h6 h7;unfold frontS at h6
 by_cases g1:f.slots<f.args.length∨16<f.slots∨8<f.objects.length∨f.code.length<1∨64<f.code.length
 ·rw[if_pos g1] at h6;cases h6
 rw[if_neg g1] at h6
 by_cases g2:f.args.all (validB · p.shapes.length)=false
 ·rw[if_pos g2] at h6;cases h6
 rw[if_neg g2] at h6;have g2:f.args.all (validB · p.shapes.length)=true:=by simpa using g2
 by_cases g3:f.result≠0∧fieldB f.result p.shapes.length=false
 ·rw[if_pos g3] at h6;cases h6
 rw[if_neg g3] at h6
 by_cases g4:f.objects.all (withinB · p.shapes.length)=false
 ·rw[if_pos g4] at h6;cases h6
 have g4:f.objects.all (withinB · p.shapes.length)=true:=by simpa using g4
 rw[List.all_eq_true] at g2 g4;exact⟨by omega,by omega,by omega,by omega,g4,g2,h7⟩
theorem fieldB_ne {x:Int} {n:Nat} (h:fieldB x n=true):x≠0∧1≤x∧x<16+n:=by
 unfold fieldB at h
 simp at h
 omega
theorem validB_ne {x:Int} {n:Nat} (h:validB x n=true):x≠0:=by
 unfold validB fieldB at h
 simp at h
 omega
theorem withinB_of {x y:Int} (h:withinB x y=true):0≤x∧x<y:=by
 unfold withinB at h
 simpa using h
structure StepOk (p:Prg) (f:Fun) (i:Ins) (n:Nat):Prop where
 call:i.op=21∨i.op=23∨i.op=24→(0≤i.b∧i.b<p.funcs.length)∧0≤i.c∧i.c+((calleeR p i.b).args.length:Int)≤n
 gload:i.op=16→0≤i.b∧i.b<p.globals.length
 gstore:i.op=17→0≤i.a∧i.a<p.globals.length
 addr:i.op=18→0≤i.b∧i.b<f.objects.length
 news:i.op=11∨i.op=13→0≤i.b∧i.b<16
 jump:i.op=9∨i.op=10→0≤i.b∧i.b<f.code.length
 sets:writesK p i=true→0≤i.a∧i.a<n
 recov:i.op=26→0≤i.b∧i.b<n
 used:∀ x ∈ readsL i (argsN (calleeF p i)),0≤x∧x<n
 ret:i.op=22→f.result≠0→0≤i.a∧i.a<n
theorem calleeR_of {p:Prg} {i:Ins} (h:i.op=21∨i.op=23∨i.op=24) (hb:withinB i.b p.funcs.length=true):calleeF p i=some (calleeR p i.b):=by
 obtain⟨h1,h2⟩:=withinB_of hb;unfold calleeF calleeR;rw[if_pos ⟨h,hb⟩,List.getElem?_eq_getElem (by omega)]
 rfl
theorem calleeR_mem {p:Prg} {b:Int} (h:0≤b∧b<p.funcs.length):calleeR p b ∈ p.funcs:=by
 unfold calleeR;rw[List.getElem?_eq_getElem (by omega)];exact List.getElem_mem _
theorem instrS_parts {p:Prg} {f:Fun} {i:Ins} (h:instrS p f i=0):formB p f i=true∧thingsB p f i=true∧slotsB p f i=true∧kindsB p i=true:=by
 unfold instrS at h
 by_cases h1:formB p f i=false
 ·rw[if_pos h1] at h;cases h
 rw[if_neg h1] at h
 by_cases h2:(thingsB p f i && slotsB p f i)=false
 ·rw[if_pos h2] at h;cases h
 rw[if_neg h2] at h
 by_cases h3:kindsB p i=false
 ·rw[if_pos h3] at h;cases h
 simp at h1 h2 h3
 exact⟨h1,h2.1,h2.2,h3⟩
theorem stepOk {p:Prg} {f:Fun} {i:Ins} (hp:PrgFit p) (h:instrS p f i=0) (h0:0≤f.slots):StepOk p f i f.slots.toNat:=by
 obtain⟨_,ht,hs,_⟩:=instrS_parts h;unfold slotsB at hs;simp only[Bool.and_eq_true] at hs;obtain⟨hr,hu⟩:=hs;rw[List.all_eq_true] at hu;have hsh:=hp.shapes;have hcall:i.op=21∨i.op=23∨i.op=24→withinB i.b p.funcs.length=true:=fun ho=>by
  unfold thingsB at ht;rw[if_neg (by omega),if_pos ho] at ht;exact ht
 have hw:∀ x,x ∈ usedL p f i→0≤x∧x<(f.slots.toNat:Int):=fun x hx=>by
  have:=withinB_of (hu x hx)
  omega
 refine⟨fun ho=>?_,fun ho=>?_,fun ho=>?_,fun ho=>?_,fun ho=>?_,fun ho=>?_,fun hk=>?_,fun ho=>?_,fun x hx=>?_,fun ho hne=>?_⟩
 ·have hb:=hcall ho
  rw[calleeR_of ho hb] at hr;have hr:roomB f i.c (calleeR p i.b).args.length=true:=hr;unfold roomB at hr
  simp at hr
  exact⟨withinB_of hb,by omega,by omega⟩
 ·unfold thingsB at ht
  rw[if_neg (by omega),if_neg (by omega),if_neg (by omega),if_pos ho] at ht;exact withinB_of ht
 ·unfold thingsB at ht
  rw[if_neg (by omega),if_neg (by omega),if_neg (by omega),if_neg (by omega),if_pos ho] at ht;exact withinB_of ht
 ·unfold thingsB at ht
  rw[if_neg (by omega),if_neg (by omega),if_neg (by omega),if_neg (by omega),if_neg (by omega),if_pos ho] at ht;exact withinB_of ht
 ·unfold thingsB at ht
  rw[if_neg (by omega),if_neg (by omega),if_pos (by omega)] at ht;have:=withinB_of ht
  omega
 ·unfold thingsB at ht
  rw[if_pos ho] at ht;exact withinB_of ht
 ·unfold writesK at hk
  simp only[Bool.and_eq_true] at hk;refine hw _ ?_;unfold usedL;have hq:quietB p f i=false:=by
   unfold quietB;have h22:i.op≠22:=fun e=>by rw[e] at hk;exact absurd hk.1 (by decide)
   by_cases h21:i.op=21
   ·rw[calleeR_of (.inl h21) (hcall (.inl h21))]
    have h3:=hk.2
    simp[h21] at h3
    simp[h21,h3]
   ·simp[h22,h21]
  rw[hq,hk.1]
  simp
 ·refine hw _ ?_
  unfold usedL
  simp[ho]
 ·refine hw _ ?_
  unfold usedL;exact List.mem_append_left _ (List.mem_append_left _ (List.mem_append_left _ hx))
 ·refine hw _ ?_
  unfold usedL;have hq:quietB p f i=false:=by
   unfold quietB
   simp[ho,hne]
  rw[hq]
  simp[ho]
theorem insOk {p:Prg} {f:Fun} {i:Ins} {n:Nat} (hp:PrgFit p) (h:StepOk p f i n):InsOk p i:=by
 refine⟨fun ho=>?_,fun k hk ho=>?_⟩
 ·have:=h.gstore ho
  unfold globA;rw[List.getElem?_eq_getElem (by omega)];exact(fieldB_ne (hp.globals _ (List.getElem_mem _))).1
 ·have hm:=calleeR_mem (h.call ho).1
  have hf:=hp.fn _ hm;rw[List.getElem?_eq_getElem hk];exact validB_ne (hf.kinds _ (List.getElem_mem _))
theorem nextK_in {p:Prg} {f:Fun} {i:Ins} {n:Nat} (h:StepOk p f i n) {q:Nat} (hq:q<f.code.length) {m:Int} (hm:m ∈ nextK i q):0≤m∧m≤f.code.length:=by
 unfold nextK at hm
 split at hm
 ·cases hm
 ·split at hm
  next ho =>
   simp at hm
   have:=h.jump (.inl ho)
   omega
  ·split at hm
   next ho =>
    simp at hm
    have:=h.jump (.inr ho.1)
    omega
   ·simp at hm
    omega
def ins0:Ins:=⟨0,0,0,0⟩
def insAt (f:Fun) (q:Nat):Ins:=(f.code[q]?).getD ins0
def outsAt (f:Fun) (M:Flo) (q:Nat):Bool:=(M q).isSome && (nextK (insAt f q) q).any (fun m=>m == (f.code.length:Int))
def wrongAt (p:Prg) (f:Fun) (M:Flo) (q:Nat):Bool:=match M q with | some K=>!readsK p f.result (insAt f q) K | none=>false
def flowE (p:Prg) (f:Fun) (M:Flo):Int × Nat :=
 if (firstAt (fun q=>if outsAt f M q then 7 else 0) f.code.length).1≠0 then firstAt (fun q=>if outsAt f M q then 7 else 0) f.code.length
 else firstAt (fun q=>if wrongAt p f M q then 3 else 0) f.code.length
def fnAt (p:Prg) (k:Nat):Fun:=(p.funcs[k]?).getD fun0
open Go.ChangeShapes Go.WideShapes Go.ChangeAt Go.RowKit
def stepC (c0 c1 c2 d0 d3 d4 kv:Value) (r s:Int) (i:Ins):Array Value:=#[c0,c1,c2,d0,.int .i64 r,.int .i64 s,d3,d4,.int .i64 i.op,.int .i64 i.a,.int .i64 i.b,.int .i64 i.c,kv]
structure StepV (w:World) (D:Nat→Prop) (p:Prg) (f:Fun) (K:List Int) (c0 c1 c2 d0 d3 d4 kv:Value):Prop where
 prg:PrgVal w D p c0 c1 c2
 fn:FunVal w D f d0 (.int .i64 f.result) (.int .i64 f.slots) d3 d4
 ks:∃ a c,kv=.slice a K.length c∧IntSl w D a K
 dom:∀ k,D k→k<w.heap.size
theorem StepV.below {w w':World} {D:Nat→Prop} {p:Prg} {f:Fun} {K:List Int} {c0 c1 c2 d0 d3 d4 kv:Value} (h:StepV w D p f K c0 c1 c2 d0 d3 d4 kv) (hb:Below w.heap.size w w'):StepV w' D p f K c0 c1 c2 d0 d3 d4 kv:=by
 obtain⟨h1,h2,⟨a,c,h3,h4⟩,h5⟩:=h;have hf:=Fr.of_below hb (fun _=>False);exact⟨h1.fr hf (fun _ _ h=>h),h2.fr hf (fun _ _ h=>h),⟨a,c,h3,h4.fr hf (fun _ _ h=>h)⟩,fun k hk=>Nat.lt_of_lt_of_le (h5 k hk) hb.size⟩
theorem StepV.one {w:World} {D:Nat→Prop} {p:Prg} {f:Fun} {K:List Int} {c0 c1 c2 d0 d3 d4 kv:Value} (h:StepV w D p f K c0 c1 c2 d0 d3 d4 kv):c0.oneCell'=true∧c1.oneCell'=true∧c2.oneCell'=true∧d0.oneCell'=true∧d3.oneCell'=true∧d4.oneCell'=true∧kv.oneCell'=true:=by
 obtain⟨⟨⟨_,_,rfl,_⟩,⟨_,_,rfl,_⟩,_,_,rfl,_⟩,⟨_,_,⟨_,_,rfl,_⟩,⟨_,_,rfl,_⟩,_,_,rfl,_⟩,⟨_,_,rfl,_⟩,_⟩:=h;exact⟨rfl,rfl,rfl,rfl,rfl,rfl,rfl⟩
theorem kindA_in {K:List Int} (j:Nat) (h:j<K.length):kindA K j=K[j]:=by
 rw[kindA_get K j (by omega)]
 simp[h]
theorem kind_any (w:World) (D:Nat→Prop) (p:Prg) (f:Fun) (K:List Int) (c0 c1 c2 d0 d3 d4 kv:Value) (i:Ins) (hv:StepV w D p f K c0 c1 c2 d0 d3 d4 kv) (k:Int) :
  Calls Tryz.prog 296 #[.agg (stepC c0 c1 c2 d0 d3 d4 kv f.result f.slots i),.int .i64 k] w fun e w'=>e=.returned (.int .i64 (kindA K k))∧Below w.heap.size w w':=by
 obtain⟨op,a,b,c⟩:=i;have hC0:=(Below.refl w.heap.size w).alloc (Nat.le_refl _) (.cells (stepC c0 c1 c2 d0 d3 d4 kv f.result f.slots ⟨op,a,b,c⟩) 248);have hbx:=box1 w (stepC c0 c1 c2 d0 d3 d4 kv f.result f.slots ⟨op,a,b,c⟩) 248 _ (Below.refl _ _);have hz0:(w.alloc (.cells (stepC c0 c1 c2 d0 d3 d4 kv f.result f.slots ⟨op,a,b,c⟩) 248)).heap.size=w.heap.size+1:=by simp
 obtain⟨W,hW⟩:∃ W,W=w.alloc (.cells (stepC c0 c1 c2 d0 d3 d4 kv f.result f.slots ⟨op,a,b,c⟩) 248):=⟨_,rfl⟩;rw[← hW] at hC0 hbx hz0;have q:∀ W',Below W.heap.size W W'→∀ j u,(stepC c0 c1 c2 d0 d3 d4 kv f.result f.slots ⟨op,a,b,c⟩)[j]?=some u→W'.cell? ⟨w.heap.size,j,none⟩=some u:=fun W' h j u hj=>below_cell h (hbx.1 j u hj)
 clear hbx;have HW:=k_ hW;clear hW;have hvW:∀ W',Below W.heap.size W W'→StepV W' D p f K c0 c1 c2 d0 d3 d4 kv:=fun W' h=>hv.below (hC0.trans (h.mono hC0.size))
 obtain⟨o0,o1,o2,o3,o4,o5,o6⟩:=hv.one;have HQQ:=k_ q;clear q;have HC0:=k_ hC0;clear hC0;have HVW:=k_ hvW;clear hvW;have HZ0:=k_ hz0;clear hz0;obtain⟨ka,kc,hkv,hks⟩:=(HVW.out W (Below.refl _ _)).ks;clear hv
 by_cases h0:k<0
 ·have e0:kindA K k=0:=by unfold kindA;rw[if_neg (by omega)]
  rw[e0];clear hks;subst hkv;generalize f.result=fr at *;generalize f.slots=fs at *;generalize K.length=n at *;unfold stepC at *
  go_enter Tryz.func296,Tryz.ntmps296
  go_upto_region 1 with fail
  rw[← HW.out];obtain⟨p0,p1,p2,p3,p4,p5,p6,p7⟩:=c_8 (HQQ.out _ (Below.refl _ _)) rfl rfl rfl rfl rfl rfl rfl rfl;have p8:W.cell? ⟨w.heap.size,8,none⟩=some (.int .i64 _):=HQQ.out _ (Below.refl _ _) 8 _ rfl;have p9:W.cell? ⟨w.heap.size,9,none⟩=some (.int .i64 _):=HQQ.out _ (Below.refl _ _) 9 _ rfl;have p10:W.cell? ⟨w.heap.size,10,none⟩=some (.int .i64 _):=HQQ.out _ (Below.refl _ _) 10 _ rfl;have p11:W.cell? ⟨w.heap.size,11,none⟩=some (.int .i64 _):=HQQ.out _ (Below.refl _ _) 11 _ rfl;have p12:W.cell? ⟨w.heap.size,12,none⟩=some _:=HQQ.out _ (Below.refl _ _) 12 _ rfl;go_wp2_with fail
  go_ret
  exact⟨rfl,HC0.out⟩
 ·obtain⟨j,rfl⟩:∃ j:Nat,k=j:=⟨k.toNat,by omega⟩
  by_cases hj:j<K.length
  ·rw[kindA_in j hj]
   obtain⟨kb,ko,rfl,_,hx⟩:=hks j hj;subst hkv;have hlt:(j:Int)<(K.length:Int):=by omega
   generalize K[j]=x at *;generalize K.length=n at *;generalize f.result=fr at *;generalize f.slots=fs at *;clear hks;unfold stepC at *
   go_enter Tryz.func296,Tryz.ntmps296
   go_upto_region 1 with fail
   rw[← HW.out];obtain⟨p0,p1,p2,p3,p4,p5,p6,p7⟩:=c_8 (HQQ.out _ (Below.refl _ _)) rfl rfl rfl rfl rfl rfl rfl rfl;have p8:W.cell? ⟨w.heap.size,8,none⟩=some (.int .i64 _):=HQQ.out _ (Below.refl _ _) 8 _ rfl;have p9:W.cell? ⟨w.heap.size,9,none⟩=some (.int .i64 _):=HQQ.out _ (Below.refl _ _) 9 _ rfl;have p10:W.cell? ⟨w.heap.size,10,none⟩=some (.int .i64 _):=HQQ.out _ (Below.refl _ _) 10 _ rfl;have p11:W.cell? ⟨w.heap.size,11,none⟩=some (.int .i64 _):=HQQ.out _ (Below.refl _ _) 11 _ rfl;have p12:W.cell? ⟨w.heap.size,12,none⟩=some _:=HQQ.out _ (Below.refl _ _) 12 _ rfl;go_wp2_with fail
   go_ret
   exact⟨rfl,HC0.out⟩
  ·have e0:kindA K (j:Int)=0:=by unfold kindA;rw[if_neg (by omega)]
   rw[e0];have hlt:(K.length:Int)≤(j:Int):=by omega
   clear hks;subst hkv;generalize K.length=n at *;generalize f.result=fr at *;generalize f.slots=fs at *;unfold stepC at *
   go_enter Tryz.func296,Tryz.ntmps296
   go_upto_region 1 with fail
   rw[← HW.out];obtain⟨p0,p1,p2,p3,p4,p5,p6,p7⟩:=c_8 (HQQ.out _ (Below.refl _ _)) rfl rfl rfl rfl rfl rfl rfl rfl;have p8:W.cell? ⟨w.heap.size,8,none⟩=some (.int .i64 _):=HQQ.out _ (Below.refl _ _) 8 _ rfl;have p9:W.cell? ⟨w.heap.size,9,none⟩=some (.int .i64 _):=HQQ.out _ (Below.refl _ _) 9 _ rfl;have p10:W.cell? ⟨w.heap.size,10,none⟩=some (.int .i64 _):=HQQ.out _ (Below.refl _ _) 10 _ rfl;have p11:W.cell? ⟨w.heap.size,11,none⟩=some (.int .i64 _):=HQQ.out _ (Below.refl _ _) 11 _ rfl;have p12:W.cell? ⟨w.heap.size,12,none⟩=some _:=HQQ.out _ (Below.refl _ _) 12 _ rfl;go_wp2_with fail
   go_ret
   exact⟨rfl,HC0.out⟩
theorem fld_result (v:Value) (r s:Int) (x y:Value) (w:World):(Instr.field 66 (.agg #[v,.int .i64 r,.int .i64 s,x,y]) 1).run Tryz.prog w=.ok (.int .i64 r) w:=by kernel_rfl
def FunPost (g:Fun) (D:Nat→Prop) (w:World) (e:Ending) (w':World):Prop :=
 ∃ d0 d3 d4,e=.returned (.agg #[d0,.int .i64 g.result,.int .i64 g.slots,d3,d4])∧FunVal w' D g d0 (.int .i64 g.result) (.int .i64 g.slots) d3 d4∧Below w.heap.size w w'
theorem funPost {g:Fun} {D:Nat→Prop} {w w':World} {d0 d3 d4:Value} (h:FunVal w' D g d0 (.int .i64 g.result) (.int .i64 g.slots) d3 d4) (hb:Below w.heap.size w w'):FunPost g D w (.returned (.agg #[d0,.int .i64 g.result,.int .i64 g.slots,d3,d4])) w':=⟨_,_,_,rfl,h,hb⟩
theorem calleeF_any (w:World) (D:Nat→Prop) (p:Prg) (f:Fun) (K:List Int) (c0 c1 c2 d0 d3 d4 kv:Value) (i:Ins) (hv:StepV w D p f K c0 c1 c2 d0 d3 d4 kv) (hb:0≤i.b∧i.b<p.funcs.length) :
  Calls Tryz.prog 229 #[.agg (stepC c0 c1 c2 d0 d3 d4 kv f.result f.slots i)] w (FunPost (calleeR p i.b) D w):=by
 obtain⟨op,a,b,c⟩:=i
 dsimp only at hb ⊢
 have hC0:=(Below.refl w.heap.size w).alloc (Nat.le_refl _) (.cells (stepC c0 c1 c2 d0 d3 d4 kv f.result f.slots ⟨op,a,b,c⟩) 248);have hbx:=box1 w (stepC c0 c1 c2 d0 d3 d4 kv f.result f.slots ⟨op,a,b,c⟩) 248 _ (Below.refl _ _);have hz0:(w.alloc (.cells (stepC c0 c1 c2 d0 d3 d4 kv f.result f.slots ⟨op,a,b,c⟩) 248)).heap.size=w.heap.size+1:=by simp
 obtain⟨W,hW⟩:∃ W,W=w.alloc (.cells (stepC c0 c1 c2 d0 d3 d4 kv f.result f.slots ⟨op,a,b,c⟩) 248):=⟨_,rfl⟩;rw[← hW] at hC0 hbx hz0;have q:∀ W',Below W.heap.size W W'→∀ j u,(stepC c0 c1 c2 d0 d3 d4 kv f.result f.slots ⟨op,a,b,c⟩)[j]?=some u→W'.cell? ⟨w.heap.size,j,none⟩=some u:=fun W' h j u hj=>below_cell h (hbx.1 j u hj)
 clear hbx;have HW:=k_ hW;clear hW;have hvW:∀ W',Below W.heap.size W W'→StepV W' D p f K c0 c1 c2 d0 d3 d4 kv:=fun W' h=>hv.below (hC0.trans (h.mono hC0.size))
 obtain⟨o0,o1,o2,o3,o4,o5,o6⟩:=hv.one;have HQQ:=k_ q;clear q;have HC0:=k_ hC0;clear hC0;have HVW:=k_ hvW;clear hvW;have HZ0:=k_ hz0;clear hz0;obtain⟨j,rfl⟩:∃ j:Nat,b=j:=⟨b.toNat,by omega⟩;have hj:j<p.funcs.length:=by omega
 have hg:calleeR p (j:Int)=p.funcs[j]:=by unfold calleeR;simp[hj]
 rw[hg];obtain⟨_,_,s0,s1,hc2,hfn⟩:=(HVW.out W (Below.refl _ _)).prg;subst hc2;obtain⟨sb,so,rfl,hDs,x0,x1,x2,x3,x4,h0,h1,h2,h3,h4,hfv⟩:=hfn j hj;have hfin:∀ w',Below W.heap.size W w'→FunVal w' D p.funcs[j] x0 (.int .i64 p.funcs[j].result) (.int .i64 p.funcs[j].slots) x3 x4:=fun w' h=>by
  have:=hfv.fr (Fr.of_below h (fun _=>False)) (fun _ _ h=>h);obtain⟨q1,q2,q3⟩:=this;exact⟨rfl,rfl,q3⟩
 obtain⟨rfl,rfl,⟨g0,g1,rfl,_⟩,⟨g2,g3,rfl,_⟩,g4,g5,rfl,_⟩:=hfv;have hlt:(j:Int)<(p.funcs.length:Int):=by omega
 clear hv hb hg hfn hDs;generalize p.funcs[j]=g at *;generalize p.funcs.length=n at *;generalize f.result=fr at *;generalize f.slots=fs at *;have HFIN:=k_ hfin;clear hfin;have hl2:=heap_new W (.cells #[.slice none 0 0,.int .i64 0,.int .i64 0,.slice none 0 0,.slice none 0 0] 66);have hb2:=(Below.refl W.heap.size W).alloc (Nat.le_refl _) (.cells #[.slice none 0 0,.int .i64 0,.int .i64 0,.slice none 0 0,.slice none 0 0] 66);have hz2:(W.alloc (.cells #[.slice none 0 0,.int .i64 0,.int .i64 0,.slice none 0 0,.slice none 0 0] 66)).heap.size=W.heap.size+1:=by simp
 obtain⟨W2,hW2⟩:∃ W2,W2=W.alloc (.cells #[.slice none 0 0,.int .i64 0,.int .i64 0,.slice none 0 0,.slice none 0 0] 66):=⟨_,rfl⟩;rw[← hW2] at hl2 hb2 hz2;obtain⟨⟨z0,z1,z2,z3,z4⟩,f0,f1,f2,f3,f4⟩:=five_cells hl2;replace h0:=below_cell hb2 h0;replace h1:=below_cell hb2 h1;replace h2:=below_cell hb2 h2;replace h3:=below_cell hb2 h3;replace h4:=below_cell hb2 h4;have hr:=row_set (row_set (row_set (row_set (row_set hl2 0 (.slice g0 g.args.length g1)) 1 (.int .i64 g.result)) 2 (.int .i64 g.slots)) 3 (.slice g2 g.objects.length g3)) 4 (.slice g4 g.code.length g5);have hf:Fr (onB W.heap.size) W2 _:=(((((Fr.refl (onB W.heap.size) W2).setCell (p:=⟨W.heap.size,0,none⟩) (fun _=>rfl) (.slice g0 g.args.length g1)).setCell (p:=⟨W.heap.size,1,none⟩) (fun _=>rfl) (.int .i64 g.result)).setCell (p:=⟨W.heap.size,2,none⟩) (fun _=>rfl) (.int .i64 g.slots)).setCell (p:=⟨W.heap.size,3,none⟩) (fun _=>rfl) (.slice g2 g.objects.length g3)).setCell (p:=⟨W.heap.size,4,none⟩) (fun _=>rfl) (.slice g4 g.code.length g5);have hbW:=hb2.trans (hf.below hb2.size (fun k hk=>by unfold onB at hk;omega));have hP:=funPost (HFIN.out _ hbW) (HC0.out.trans (hbW.mono HC0.out.size));have HW2:=k_ hW2;rw[HZ0.out] at hr hP f0 f1 f2 f3 f4 z0 z1 z2 z3 z4;have HBW2:=k_ hb2;clear hW2 hb2 hz2 hl2 hf hbW HFIN;have HR:=k_ hr;have HP:=k_ hP;clear hr hP;unfold stepC at *
 go_enter Tryz.func229,Tryz.ntmps229
 go_upto_region 1 with fail
 rw[← HW.out,← HW2.out];have p2:W2.cell? ⟨w.heap.size,2,none⟩=some _:=HQQ.out _ HBW2.out 2 _ rfl;have p10:W2.cell? ⟨w.heap.size,10,none⟩=some _:=HQQ.out _ HBW2.out 10 _ rfl
 go_wp2_with (with_reducible refine bodyPost_ret ?_ rfl HP.out;obtain⟨⟨k0,k1,k2,k3,k4⟩,_⟩:=five_cells HR.out;simp[results,Tryz.results229,go_sem,k0,k1,k2,k3,k4])
end Go.Proofs.YtlofbhoicbemnaaGreatDoor
