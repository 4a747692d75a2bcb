/- Flow, plainly: the kinds that hold at all places; the ways to find them. Nothing of the program's text stands here. Flow, plainly: what .. -/
import Derived.Test.YtlofbhoicbemnaaGreatDoorGBc
set_option linter.unusedVariables false
set_option linter.unusedSimpArgs false
set_option maxRecDepth 100000
set_option maxHeartbeats 6400000
namespace Go.Proofs.YtlofbhoicbemnaaGreatDoor
abbrev Flo:=Nat→Option (List Int)
def dM (f:Fun):List Int:=f.args ++ List.replicate (f.slots.toNat - f.args.length) 0
structure Sol (p:Prg) (f:Fun) (S:Flo):Prop where
 first:∃ K,S 0=some K∧Le K (dM f)
 len:∀ q K,S q=some K→q<f.code.length∧K.length=f.slots.toNat
 step:∀ q K i,S q=some K→f.code[q]?=some i→∀ m:Nat,(m:Int) ∈ dB i q→m<f.code.length→∃ L,S m=some L∧Le L (dL p f i K)
def jH (p:Prg) (f:Fun) (M:Flo):Prop:=Sol p f M∧∀ S,Sol p f S→∀ q K,M q=some K→∃ L,S q=some L∧Le L K
def dm (M:Flo) (n:Nat) (K:List Int):Flo:=fun q=>if q=n then some (match M n with | none=>K | some was=>joinL was K) else M q
def changes (M:Flo) (n:Nat) (K:List Int):Prop:=∀ was,M n=some was→joinL was K≠was
theorem rR {M:Flo} {n:Nat} {K:List Int} (h:¬ changes M n K):dm M n K=M:=by
 unfold changes at h;have⟨was,hw,he⟩:∃ was,M n=some was∧joinL was K=was:=by
  refine Classical.byContradiction fun hne=>h fun was hw he=>hne ⟨was,hw,he⟩
 funext q
 unfold dm
 by_cases hq:q=n
 ·subst hq
  rw[if_pos rfl,hw]
  simp[he]
 ·rw[if_neg hq]
theorem dC {M:Flo} {n q:Nat} {K:List Int} (h:q≠n):dm M n K q=M q:=if_neg h
theorem ll {M:Flo} {n:Nat} {K:List Int} (h:M n=none):dm M n K n=some K:=by unfold dm;rw[if_pos rfl,h]
theorem tq {M:Flo} {n:Nat} {K was:List Int} (h:M n=some was):dm M n K n=some (joinL was K):=by unfold dm;rw[if_pos rfl,h]
structure FInv (p:Prg) (f:Fun) (M:Flo) (P:Nat→Int→Prop):Prop where
 low:∀ S,Sol p f S→∀ q K,M q=some K→∃ L,S q=some L∧Le L K
 first:∃ K,M 0=some K∧Le K (dM f)
 len:∀ q K,M q=some K→q<f.code.length∧K.length=f.slots.toNat
 step:∀ q K i,M q=some K→f.code[q]?=some i→∀ m:Nat,(m:Int) ∈ dB i q→m<f.code.length→¬ P q m→∃ L,M m=some L∧Le L (dL p f i K)
theorem FInv.weaken {p:Prg} {f:Fun} {M:Flo} {P Q:Nat→Int→Prop} (h:FInv p f M P) (hq:∀ q m,P q m→Q q m):FInv p f M Q :=
 ⟨h.low,h.first,h.len,fun q K i h1 h2 m h3 h4 h5=>h.step q K i h1 h2 m h3 h4 (fun hp=>h5 (hq _ _ hp))⟩
theorem FInv.done {p:Prg} {f:Fun} {M:Flo} {P:Nat→Int→Prop} (h:FInv p f M P) (hp:∀ q m,¬ P q m):jH p f M :=
 ⟨⟨h.first,h.len,fun q K i h1 h2 m h3 h4=>h.step q K i h1 h2 m h3 h4 (hp _ _)⟩,h.low⟩
theorem rX {f:Fun} (h:(f.args.length:Int)≤f.slots):(dM f).length=f.slots.toNat:=by
 unfold dM;rw[List.length_append,List.length_replicate]
 omega
theorem FInv.start {p:Prg} {f:Fun} (h0:0<f.code.length) (h:(f.args.length:Int)≤f.slots):FInv p f (dm (fun _=>none) 0 (dM f)) (fun q _=>q=0):=by
 have hne:∀ q K,dm (fun _=>none) 0 (dM f) q=some K→q=0∧K=dM f:=fun q K hq=>by
  by_cases e:q=0
  ·subst e
   rw[ll rfl] at hq
   injection hq with hq
   exact⟨rfl,hq.symm⟩
  ·rw[dC e] at hq
   cases hq
 refine⟨fun S hS q K hq=>?_,⟨_,ll rfl,Le.refl _⟩,fun q K hq=>?_,fun q K i hq h2 m h3 h4 h5=>absurd (hne q K hq).1 h5⟩
 ·obtain⟨rfl,rfl⟩:=hne q K hq
  exact hS.first
 ·obtain⟨rfl,rfl⟩:=hne q K hq
  exact⟨h0,rX h⟩
theorem FInv.come {p:Prg} {f:Fun} {M:Flo} {P:Nat→Int→Prop} (h:FInv p f M P) (n:Nat) (K:List Int) (hn:n<f.code.length) (hK:K.length=f.slots.toNat) (hlow:∀ S,Sol p f S→∃ L,S n=some L∧Le L K) :
  FInv p f (dm M n K) (fun q m=>P q m∨(q=n∧changes M n K))∧∃ L,dm M n K n=some L∧Le L K:=by
 have hat:∃ L,dm M n K n=some L∧Le L K∧L.length=f.slots.toNat∧(∀ was,M n=some was→Le L was)∧∀ S,Sol p f S→∃ L',S n=some L'∧Le L' L:=by
  cases hm:M n with
  | none=>exact⟨K,ll hm,Le.refl _,hK,(fun _ h=>by cases h),hlow⟩
  | some was =>
    have hl:=(h.len n was hm).2;have hl2:was.length=K.length:=hl.trans hK.symm;refine⟨joinL was K,tq hm,yw hl2,by rw[fT];omega,fun w hw=>by injection hw with e;subst e;exact AP hl2,fun S hS=>?_⟩;obtain⟨L,hL,hle⟩:=hlow S hS;obtain⟨L2,hL2,hle2⟩:=h.low S hS n was hm;rw[hL] at hL2
    injection hL2 with e
    subst e;exact⟨L,hL,FV hle2 hle⟩
 obtain⟨L,hL,hLK,hLl,hLw,hLS⟩:=hat;refine⟨⟨fun S hS q K' hq=>?_,?_,fun q K' hq=>?_,fun q K' i hq h2 m h3 h4 h5=>?_⟩,L,hL,hLK⟩
 ·by_cases e:q=n
  ·subst e
   rw[hL] at hq
   injection hq with hq
   subst hq;exact hLS S hS
  ·rw[dC e] at hq
   exact h.low S hS q K' hq
 ·obtain⟨K0,h0,hle⟩:=h.first
  by_cases e:0=n
  ·subst e
   exact⟨L,hL,(hLw _ h0).trans hle⟩
  ·exact⟨K0,by rw[dC e];exact h0,hle⟩
 ·by_cases e:q=n
  ·subst e
   rw[hL] at hq
   injection hq with hq
   subst hq;exact⟨hn,hLl⟩
  ·rw[dC e] at hq
   exact h.len q K' hq
 ·have hq':M q=some K':=by
   by_cases e:q=n
   ·have hnc:¬ changes M n K:=fun hc=>h5 (.inr ⟨e,hc⟩)
    rw[rR hnc] at hq;exact hq
   ·rw[dC e] at hq
    exact hq
  obtain⟨L2,hL2,hle2⟩:=h.step q K' i hq' h2 m h3 h4 (fun hp=>h5 (.inl hp))
  by_cases e:m=n
  ·subst e
   exact⟨L,hL,(hLw _ hL2).trans hle2⟩
  ·exact⟨L2,by rw[dC e];exact hL2,hle2⟩
theorem FInv.out {p:Prg} {f:Fun} {M:Flo} {P:Nat→Int→Prop} (h:FInv p f M P) {q:Nat} {K:List Int} {i:Ins} (hq:M q=some K) (hi:f.code[q]?=some i) (ho:uY p i) {m:Nat} (hm:(m:Int) ∈ dB i q) (hml:m<f.code.length) :
  ∀ S,Sol p f S→∃ L,S m=some L∧Le L (dL p f i K):=fun S hS=>by
 obtain⟨L,hL,hle⟩:=h.low S hS q K hq;obtain⟨L2,hL2,hle2⟩:=hS.step q L i hL hi m hm hml;exact⟨L2,hL2,hle2.trans (Bc hle p f i ho)⟩
def cnt (K:List Int):Nat:=K.countP (· != 0)
def ql (s:Nat) (o:Option (List Int)):Nat:=match o with | none=>s+1 | some K=>cnt K
def pot (s:Nat) (M:Flo):Nat→Nat | 0=>0 | n+1=>pot s M n+ql s (M n)
theorem Jw (K:List Int):cnt K≤K.length:=List.countP_le_length
theorem xz:∀ a b:List Int,a.length=b.length→cnt (joinL a b)≤cnt a∧(joinL a b≠a→cnt (joinL a b)<cnt a)
 | [],b,_=>by simp[joinL,cnt]
 | x :: a,[],h=>by simp at h
 | x :: a,y :: b,h=>by
   have ih:=xz a b (by simpa using h);have e:joinL (x :: a) (y :: b)=(if x=y then x else 0) :: joinL a b:=rfl;have e2:cnt (x :: a)=cnt a+if (x != 0)=true then 1 else 0:=List.countP_cons;have e3:cnt ((if x=y then x else 0) :: joinL a b)=cnt (joinL a b)+if ((if x=y then x else 0) != 0)=true then 1 else 0:=List.countP_cons;rw[e,e2,e3]
   by_cases hxy:x=y
   ·rw[if_pos hxy]
    refine⟨by omega,fun hne=>?_⟩;have:=ih.2 (fun e=>hne (by rw[e]))
    omega
   ·rw[if_neg hxy]
    by_cases hx:x=0
    ·subst hx
     refine⟨by omega,fun hne=>?_⟩;have:=ih.2 (fun e=>hne (by rw[e]))
     omega
    ·have h1:(if ((0:Int) != 0)=true then 1 else 0)=0:=by simp
     have h2:(if (x != 0)=true then 1 else 0)=1:=by simp[hx]
     rw[h1,h2];exact⟨by omega,fun _=>by omega⟩
theorem Dz (s:Nat) {M N:Flo} {n:Nat} (h:∀ q,q<n→M q=N q):pot s M n=pot s N n:=by
 induction n with
 | zero=>rfl
 | succ n ih =>
   show pot s M n+ql s (M n)=pot s N n+ql s (N n)
   rw[ih (fun q hq=>h q (by omega)),h n (by omega)]
theorem Br (s:Nat) {M N:Flo} {m:Nat}:∀ {n:Nat},m<n→(∀ q,q≠m→M q=N q)→pot s M n+ql s (N m)=pot s N n+ql s (M m)
 | n+1,hm,h=>by
   show pot s M n+ql s (M n)+ql s (N m)=pot s N n+ql s (N n)+ql s (M m)
   by_cases e:m=n
   ·subst e
    have:=Dz s (M:=M) (N:=N) (n:=m) (fun q hq=>h q (by omega))
    omega
   ·have:=Br s (M:=M) (N:=N) (m:=m) (n:=n) (by omega) h
    rw[h n (by omega)]
    omega
theorem xJ {M:Flo} {s n m:Nat} {K:List Int} (hm:m<n) (hK:K.length=s) (hM:∀ was,M m=some was→was.length=s) :
  pot s (dm M m K) n≤pot s M n∧(changes M m K→pot s (dm M m K) n<pot s M n):=by
 have h:=Br s (M:=dm M m K) (N:=M) hm (fun q hq=>dC hq);have hp:ql s (dm M m K m)≤ql s (M m)∧(changes M m K→ql s (dm M m K m)<ql s (M m)):=by
  cases hw:M m with
  | none =>
    rw[ll hw];have:=Jw K;exact⟨by show cnt K≤s+1;omega,fun _=>by show cnt K<s+1;omega⟩
  | some was =>
    rw[tq hw];have:=xz was K ((hM was hw).trans hK.symm);exact⟨this.1,fun hc=>this.2 (hc was hw)⟩
 exact⟨by omega,fun hc=>by have:=hp.2 hc;omega⟩
structure FunFit (p:Prg) (f:Fun):Prop where
 args:(f.args.length:Int)≤f.slots
 slots:f.slots≤16
 code1:1≤f.code.length
 code2:f.code.length≤64
 objs:∀ x ∈ f.objects,au x p.shapes.length=true
 kinds:∀ x ∈ f.args,iV x p.shapes.length=true
 ins:∀ (q:Nat) (i:Ins),f.code[q]?=some i→il p f i=0
structure PrgFit (p:Prg):Prop where
 funcs1:1≤p.funcs.length
 funcs2:p.funcs.length≤16
 shapes:p.shapes.length≤16
 globals:∀ x ∈ p.globals,cK x p.shapes.length=true
 fn:∀ f ∈ p.funcs,FunFit p f
theorem uo {l:List (List Int)} (h:bU l=0):l.length≤16:=by
 unfold bU at h
 split at h
 ·omega
 ·omega
theorem Jh {p:Prg} (h:(gu p).1=0):PrgFit p:=by
 obtain⟨hw,hf⟩:=(zm p).1 h;unfold iC at hw
 by_cases h1:bU p.shapes≠0
 ·rw[if_pos h1] at hw;exact absurd hw h1
 rw[if_neg h1] at hw;have h1:bU p.shapes=0:=by simpa using h1
 by_cases h2:16<p.globals.length∨p.funcs.length<1∨16<p.funcs.length
 ·rw[if_pos h2] at hw;cases hw
 rw[if_neg h2] at hw
 by_cases h3:p.globals.all (cK · p.shapes.length)=false
 ·rw[if_pos h3] at hw;cases hw
 have h3:p.globals.all (cK · p.shapes.length)=true:=by simpa using h3
 rw[List.all_eq_true] at h3;refine⟨by omega,by omega,uo h1,h3,fun f hfm=>?_⟩;obtain⟨k,hk,rfl⟩:=List.getElem_of_mem hfm;have h4:=hf k hk;rw[xB k hk] at h4;have h5:=BN h4;have h6:iT p p.funcs[k]=0:=Classical.byContradiction fun hne=>hne (by rw[nY hne] at h4;exact h4)
 have h7:∀ (q:Nat) (i:Ins),p.funcs[k].code[q]?=some i→il p p.funcs[k] i=0:=fun q i hi=>by
  have hq:q<p.funcs[k].code.length:=by
   rcases Nat.lt_or_ge q p.funcs[k].code.length with h | h
   ·exact h
   ·rw[List.getElem?_eq_none h] at hi;cases hi
  have hx:=h5 q hq;have hin:au (k:Int) p.funcs.length=true:=by simp[au];omega
  have hc:codeOf p (k:Int)=p.funcs[k].code:=by unfold codeOf;rw[if_pos hin];simp[hk]
  have hat:iAt p (k:Int) (q:Int)=some i:=by
   unfold iAt;rw[hc,if_pos ⟨by omega,by omega⟩]
   simpa using hi
  rw[jN hat] at hx
  simpa[hk] using hx
 generalize p.funcs[k]=f at h6 h7;unfold iT at h6
 by_cases g1:f.slots<f.args.length∨16<f.slots∨8<f.objects.length∨f.code.length<1∨64<f.code.length
 ·rw[if_pos g1] at h6;cases h6
 rw[if_neg g1] at h6
 by_cases g2:f.args.all (iV · p.shapes.length)=false
 ·rw[if_pos g2] at h6;cases h6
 rw[if_neg g2] at h6;have g2:f.args.all (iV · p.shapes.length)=true:=by simpa using g2
 by_cases g3:f.result≠0∧cK f.result p.shapes.length=false
 ·rw[if_pos g3] at h6;cases h6
 rw[if_neg g3] at h6
 by_cases g4:f.objects.all (au · p.shapes.length)=false
 ·rw[if_pos g4] at h6;cases h6
 have g4:f.objects.all (au · p.shapes.length)=true:=by simpa using g4
 rw[List.all_eq_true] at g2 g4;exact⟨by omega,by omega,by omega,by omega,g4,g2,h7⟩
theorem CG {x:Int} {n:Nat} (h:cK x n=true):x≠0∧1≤x∧x<16+n:=by
 unfold cK at h
 simp at h
 omega
theorem Cr {x:Int} {n:Nat} (h:iV x n=true):x≠0:=by
 unfold iV cK at h
 simp at h
 omega
theorem di {x y:Int} (h:au x y=true):0≤x∧x<y:=by
 unfold au at h
 simpa using h
structure StepOk (p:Prg) (f:Fun) (i:Ins) (n:Nat):Prop where
 call:i.op=21∨i.op=23∨i.op=24→(0≤i.b∧i.b<p.funcs.length)∧0≤i.c∧i.c+((dE p i.b).args.length:Int)≤n
 gload:i.op=16→0≤i.b∧i.b<p.globals.length
 gstore:i.op=17→0≤i.a∧i.a<p.globals.length
 addr:i.op=18→0≤i.b∧i.b<f.objects.length
 news:i.op=11∨i.op=13→0≤i.b∧i.b<16
 jump:i.op=9∨i.op=10→0≤i.b∧i.b<f.code.length
 sets:iI p i=true→0≤i.a∧i.a<n
 recov:i.op=26→0≤i.b∧i.b<n
 used:∀ x ∈ jJ i (Bv (bF p i)),0≤x∧x<n
 ret:i.op=22→f.result≠0→0≤i.a∧i.a<n
theorem tJ {p:Prg} {i:Ins} (h:i.op=21∨i.op=23∨i.op=24) (hb:au i.b p.funcs.length=true):bF p i=some (dE p i.b):=by
 obtain⟨h1,h2⟩:=di hb;unfold bF dE;rw[if_pos ⟨h,hb⟩,List.getElem?_eq_getElem (by omega)]
 rfl
theorem yG {p:Prg} {b:Int} (h:0≤b∧b<p.funcs.length):dE p b ∈ p.funcs:=by
 unfold dE;rw[List.getElem?_eq_getElem (by omega)];exact List.getElem_mem _
theorem vV {p:Prg} {f:Fun} {i:Ins} (h:il p f i=0):tC p f i=true∧gB p f i=true∧nS p f i=true∧pW p i=true:=by
 unfold il at h
 by_cases h1:tC p f i=false
 ·rw[if_pos h1] at h;cases h
 rw[if_neg h1] at h
 by_cases h2:(gB p f i && nS p f i)=false
 ·rw[if_pos h2] at h;cases h
 rw[if_neg h2] at h
 by_cases h3:pW p i=false
 ·rw[if_pos h3] at h;cases h
 simp at h1 h2 h3
 exact⟨h1,h2.1,h2.2,h3⟩
theorem Am {p:Prg} {f:Fun} {i:Ins} (hp:PrgFit p) (h:il p f i=0) (h0:0≤f.slots):StepOk p f i f.slots.toNat:=by
 obtain⟨_,ht,hs,_⟩:=vV h;unfold nS at hs;simp only[Bool.and_eq_true] at hs;obtain⟨hr,hu⟩:=hs;rw[List.all_eq_true] at hu;have hsh:=hp.shapes;have hcall:i.op=21∨i.op=23∨i.op=24→au i.b p.funcs.length=true:=fun ho=>by
  unfold gB at ht;rw[if_neg (by omega),if_pos ho] at ht;exact ht
 have hw:∀ x,x ∈ tN p f i→0≤x∧x<(f.slots.toNat:Int):=fun x hx=>by
  have:=di (hu x hx)
  omega
 refine⟨fun ho=>?_,fun ho=>?_,fun ho=>?_,fun ho=>?_,fun ho=>?_,fun ho=>?_,fun hk=>?_,fun ho=>?_,fun x hx=>?_,fun ho hne=>?_⟩
 ·have hb:=hcall ho
  rw[tJ ho hb] at hr;have hr:Bi f i.c (dE p i.b).args.length=true:=hr;unfold Bi at hr
  simp at hr
  exact⟨di hb,by omega,by omega⟩
 ·unfold gB at ht
  rw[if_neg (by omega),if_neg (by omega),if_neg (by omega),if_pos ho] at ht;exact di ht
 ·unfold gB at ht
  rw[if_neg (by omega),if_neg (by omega),if_neg (by omega),if_neg (by omega),if_pos ho] at ht;exact di ht
 ·unfold gB at ht
  rw[if_neg (by omega),if_neg (by omega),if_neg (by omega),if_neg (by omega),if_neg (by omega),if_pos ho] at ht;exact di ht
 ·unfold gB at ht
  rw[if_neg (by omega),if_neg (by omega),if_pos (by omega)] at ht;have:=di ht
  omega
 ·unfold gB at ht
  rw[if_pos ho] at ht;exact di ht
 ·unfold iI at hk
  simp only[Bool.and_eq_true] at hk;refine hw _ ?_;unfold tN;have hq:kU p f i=false:=by
   unfold kU;have h22:i.op≠22:=fun e=>by rw[e] at hk;exact absurd hk.1 (by decide)
   by_cases h21:i.op=21
   ·rw[tJ (.inl h21) (hcall (.inl h21))]
    have h3:=hk.2
    simp[h21] at h3
    simp[h21,h3]
   ·simp[h22,h21]
  rw[hq,hk.1]
  simp
 ·refine hw _ ?_
  unfold tN
  simp[ho]
 ·refine hw _ ?_
  unfold tN;exact List.mem_append_left _ (List.mem_append_left _ (List.mem_append_left _ hx))
 ·refine hw _ ?_
  unfold tN;have hq:kU p f i=false:=by
   unfold kU
   simp[ho,hne]
  rw[hq]
  simp[ho]
theorem J3 {p:Prg} {f:Fun} {i:Ins} {n:Nat} (hp:PrgFit p) (h:StepOk p f i n):uY p i:=by
 refine⟨fun ho=>?_,fun k hk ho=>?_⟩
 ·have:=h.gstore ho
  unfold Bh;rw[List.getElem?_eq_getElem (by omega)];exact(CG (hp.globals _ (List.getElem_mem _))).1
 ·have hm:=yG (h.call ho).1
  have hf:=hp.fn _ hm;rw[List.getElem?_eq_getElem hk];exact Cr (hf.kinds _ (List.getElem_mem _))
theorem EC {p:Prg} {f:Fun} {i:Ins} {n:Nat} (h:StepOk p f i n) {q:Nat} (hq:q<f.code.length) {m:Int} (hm:m ∈ dB i q):0≤m∧m≤f.code.length:=by
 unfold dB at hm
 split at hm
 ·cases hm
 ·split at hm
  next ho =>
   simp at hm
   have:=h.jump (.inl ho)
   omega
  ·split at hm
   next ho =>
    simp at hm
    have:=h.jump (.inr ho.1)
    omega
   ·simp at hm
    omega
def qO:Ins:=⟨0,0,0,0⟩
def gL (f:Fun) (q:Nat):Ins:=(f.code[q]?).getD qO
def lu (f:Fun) (M:Flo) (q:Nat):Bool:=(M q).isSome && (dB (gL f q) q).any (fun m=>m == (f.code.length:Int))
def kY (p:Prg) (f:Fun) (M:Flo) (q:Nat):Bool:=match M q with | some K=>!cu p f.result (gL f q) K | none=>false
def jI (p:Prg) (f:Fun) (M:Flo):Int × Nat :=
 if (dn (fun q=>if lu f M q then 7 else 0) f.code.length).1≠0 then dn (fun q=>if lu f M q then 7 else 0) f.code.length
 else dn (fun q=>if kY p f M q then 3 else 0) f.code.length
def iG (p:Prg) (k:Nat):Fun:=(p.funcs[k]?).getD lH
open Go.ChangeShapes Go.WideShapes Go.ChangeAt Go.RowKit
def bT (c0 c1 c2 d0 d3 d4 kv:Value) (r s:Int) (i:Ins):Array Value:=#[c0,c1,c2,d0,.int .i64 r,.int .i64 s,d3,d4,.int .i64 i.op,.int .i64 i.a,.int .i64 i.b,.int .i64 i.c,kv]
structure StepV (w:World) (D:Nat→Prop) (p:Prg) (f:Fun) (K:List Int) (c0 c1 c2 d0 d3 d4 kv:Value):Prop where
 prg:aD w D p c0 c1 c2
 fn:dP w D f d0 (.int .i64 f.result) (.int .i64 f.slots) d3 d4
 ks:∃ a c,kv=.slice a K.length c∧aQ w D a K
 dom:∀ k,D k→k<w.heap.size
theorem StepV.below {w w':World} {D:Nat→Prop} {p:Prg} {f:Fun} {K:List Int} {c0 c1 c2 d0 d3 d4 kv:Value} (h:StepV w D p f K c0 c1 c2 d0 d3 d4 kv) (hb:Below w.heap.size w w'):StepV w' D p f K c0 c1 c2 d0 d3 d4 kv:=by
 obtain⟨h1,h2,⟨a,c,h3,h4⟩,h5⟩:=h;have hf:=fb_ hb;exact⟨h1.fr hf (fun _ _ h=>h),h2.fr hf (fun _ _ h=>h),⟨a,c,h3,h4.fr hf (fun _ _ h=>h)⟩,fun k hk=>Nat.lt_of_lt_of_le (h5 k hk) hb.size⟩
theorem StepV.one {w:World} {D:Nat→Prop} {p:Prg} {f:Fun} {K:List Int} {c0 c1 c2 d0 d3 d4 kv:Value} (h:StepV w D p f K c0 c1 c2 d0 d3 d4 kv):c0.oneCell'=true∧c1.oneCell'=true∧c2.oneCell'=true∧d0.oneCell'=true∧d3.oneCell'=true∧d4.oneCell'=true∧kv.oneCell'=true:=by
 obtain⟨⟨⟨_,_,rfl,_⟩,⟨_,_,rfl,_⟩,_,_,rfl,_⟩,⟨_,_,⟨_,_,rfl,_⟩,⟨_,_,rfl,_⟩,_,_,rfl,_⟩,⟨_,_,rfl,_⟩,_⟩:=h;exact⟨rfl,rfl,rfl,rfl,rfl,rfl,rfl⟩
theorem GH {K:List Int} (j:Nat) (h:j<K.length):dO K j=K[j]:=by
 rw[qm K j (by omega)]
 simp[h]
theorem EU (w:World) (D:Nat→Prop) (p:Prg) (f:Fun) (K:List Int) (c0 c1 c2 d0 d3 d4 kv:Value) (i:Ins) (hv:StepV w D p f K c0 c1 c2 d0 d3 d4 kv) (k:Int) :
  Calls Tryz.prog 296 #[.agg (bT c0 c1 c2 d0 d3 d4 kv f.result f.slots i),.int .i64 k] w fun e w'=>e=.returned (.int .i64 (dO K k))∧Below w.heap.size w w':=by
 obtain⟨op,a,b,c⟩:=i;have hC0:=(Below.refl w.heap.size w).alloc (Nat.le_refl _) (.cells (bT c0 c1 c2 d0 d3 d4 kv f.result f.slots ⟨op,a,b,c⟩) 248);have hbx:=kL w (bT c0 c1 c2 d0 d3 d4 kv f.result f.slots ⟨op,a,b,c⟩) 248 _ (Below.refl _ _);have hz0:(w.alloc (.cells (bT c0 c1 c2 d0 d3 d4 kv f.result f.slots ⟨op,a,b,c⟩) 248)).heap.size=w.heap.size+1:=by simp
 obtain⟨W,hW⟩:∃ W,W=w.alloc (.cells (bT c0 c1 c2 d0 d3 d4 kv f.result f.slots ⟨op,a,b,c⟩) 248):=⟨_,rfl⟩;rw[← hW] at hC0 hbx hz0;have q:∀ W',Below W.heap.size W W'→∀ j u,(bT c0 c1 c2 d0 d3 d4 kv f.result f.slots ⟨op,a,b,c⟩)[j]?=some u→W'.cell? ⟨w.heap.size,j,none⟩=some u:=fun W' h j u hj=>ae h (hbx.1 j u hj)
 clear hbx;have HW:=k_ hW;clear hW;have hvW:∀ W',Below W.heap.size W W'→StepV W' D p f K c0 c1 c2 d0 d3 d4 kv:=fun W' h=>hv.below (hC0.trans (h.mono hC0.size))
 obtain⟨o0,o1,o2,o3,o4,o5,o6⟩:=hv.one;have HQQ:=k_ q;clear q;have HC0:=k_ hC0;clear hC0;have HVW:=k_ hvW;clear hvW;have HZ0:=k_ hz0;clear hz0;obtain⟨ka,kc,hkv,hks⟩:=(HVW.out W (Below.refl _ _)).ks;clear hv
 by_cases h0:k<0
 ·have e0:dO K k=0:=by unfold dO;rw[if_neg (by omega)]
  rw[e0];clear hks;subst hkv;generalize f.result=fr at *;generalize f.slots=fs at *;generalize K.length=n at *;unfold bT at *
  go_enter Tryz.func296,Tryz.ntmps296
  go_upto_region 1 with fail
  rw[← HW.out];obtain⟨p0,p1,p2,p3,p4,p5,p6,p7⟩:=c_8 (HQQ.out _ (Below.refl _ _)) rfl rfl rfl rfl rfl rfl rfl rfl;have p8:W.cell? ⟨w.heap.size,8,none⟩=some (.int .i64 _):=HQQ.out _ (Below.refl _ _) 8 _ rfl;have p9:W.cell? ⟨w.heap.size,9,none⟩=some (.int .i64 _):=HQQ.out _ (Below.refl _ _) 9 _ rfl;have p10:W.cell? ⟨w.heap.size,10,none⟩=some (.int .i64 _):=HQQ.out _ (Below.refl _ _) 10 _ rfl;have p11:W.cell? ⟨w.heap.size,11,none⟩=some (.int .i64 _):=HQQ.out _ (Below.refl _ _) 11 _ rfl;have p12:W.cell? ⟨w.heap.size,12,none⟩=some _:=HQQ.out _ (Below.refl _ _) 12 _ rfl;go_wp2_with fail
  go_ret
  exact⟨rfl,HC0.out⟩
 ·obtain⟨j,rfl⟩:∃ j:Nat,k=j:=⟨k.toNat,by omega⟩
  by_cases hj:j<K.length
  ·rw[GH j hj]
   obtain⟨kb,ko,rfl,_,hx⟩:=hks j hj;subst hkv;have hlt:(j:Int)<(K.length:Int):=by omega
   generalize K[j]=x at *;generalize K.length=n at *;generalize f.result=fr at *;generalize f.slots=fs at *;clear hks;unfold bT at *
   go_enter Tryz.func296,Tryz.ntmps296
   go_upto_region 1 with fail
   rw[← HW.out];obtain⟨p0,p1,p2,p3,p4,p5,p6,p7⟩:=c_8 (HQQ.out _ (Below.refl _ _)) rfl rfl rfl rfl rfl rfl rfl rfl;have p8:W.cell? ⟨w.heap.size,8,none⟩=some (.int .i64 _):=HQQ.out _ (Below.refl _ _) 8 _ rfl;have p9:W.cell? ⟨w.heap.size,9,none⟩=some (.int .i64 _):=HQQ.out _ (Below.refl _ _) 9 _ rfl;have p10:W.cell? ⟨w.heap.size,10,none⟩=some (.int .i64 _):=HQQ.out _ (Below.refl _ _) 10 _ rfl;have p11:W.cell? ⟨w.heap.size,11,none⟩=some (.int .i64 _):=HQQ.out _ (Below.refl _ _) 11 _ rfl;have p12:W.cell? ⟨w.heap.size,12,none⟩=some _:=HQQ.out _ (Below.refl _ _) 12 _ rfl;go_wp2_with fail
   go_ret
   exact⟨rfl,HC0.out⟩
  ·have e0:dO K (j:Int)=0:=by unfold dO;rw[if_neg (by omega)]
   rw[e0];have hlt:(K.length:Int)≤(j:Int):=by omega
   clear hks;subst hkv;generalize K.length=n at *;generalize f.result=fr at *;generalize f.slots=fs at *;unfold bT at *
   go_enter Tryz.func296,Tryz.ntmps296
   go_upto_region 1 with fail
   rw[← HW.out];obtain⟨p0,p1,p2,p3,p4,p5,p6,p7⟩:=c_8 (HQQ.out _ (Below.refl _ _)) rfl rfl rfl rfl rfl rfl rfl rfl;have p8:W.cell? ⟨w.heap.size,8,none⟩=some (.int .i64 _):=HQQ.out _ (Below.refl _ _) 8 _ rfl;have p9:W.cell? ⟨w.heap.size,9,none⟩=some (.int .i64 _):=HQQ.out _ (Below.refl _ _) 9 _ rfl;have p10:W.cell? ⟨w.heap.size,10,none⟩=some (.int .i64 _):=HQQ.out _ (Below.refl _ _) 10 _ rfl;have p11:W.cell? ⟨w.heap.size,11,none⟩=some (.int .i64 _):=HQQ.out _ (Below.refl _ _) 11 _ rfl;have p12:W.cell? ⟨w.heap.size,12,none⟩=some _:=HQQ.out _ (Below.refl _ _) 12 _ rfl;go_wp2_with fail
   go_ret
   exact⟨rfl,HC0.out⟩
theorem Ae (v:Value) (r s:Int) (x y:Value) (w:World):(Instr.field 66 (.agg #[v,.int .i64 r,.int .i64 s,x,y]) 1).run Tryz.prog w=.ok (.int .i64 r) w:=by kernel_rfl
def wU (g:Fun) (D:Nat→Prop) (w:World) (e:Ending) (w':World):Prop :=
 ∃ d0 d3 d4,e=.returned (.agg #[d0,.int .i64 g.result,.int .i64 g.slots,d3,d4])∧dP w' D g d0 (.int .i64 g.result) (.int .i64 g.slots) d3 d4∧Below w.heap.size w w'
theorem GV {g:Fun} {D:Nat→Prop} {w w':World} {d0 d3 d4:Value} (h:dP w' D g d0 (.int .i64 g.result) (.int .i64 g.slots) d3 d4) (hb:Below w.heap.size w w'):wU g D w (.returned (.agg #[d0,.int .i64 g.result,.int .i64 g.slots,d3,d4])) w':=⟨_,_,_,rfl,h,hb⟩
theorem yj (w:World) (D:Nat→Prop) (p:Prg) (f:Fun) (K:List Int) (c0 c1 c2 d0 d3 d4 kv:Value) (i:Ins) (hv:StepV w D p f K c0 c1 c2 d0 d3 d4 kv) (hb:0≤i.b∧i.b<p.funcs.length) :
  Calls Tryz.prog 229 #[.agg (bT c0 c1 c2 d0 d3 d4 kv f.result f.slots i)] w (wU (dE p i.b) D w):=by
 obtain⟨op,a,b,c⟩:=i
 dsimp only at hb ⊢
 have hC0:=(Below.refl w.heap.size w).alloc (Nat.le_refl _) (.cells (bT c0 c1 c2 d0 d3 d4 kv f.result f.slots ⟨op,a,b,c⟩) 248);have hbx:=kL w (bT c0 c1 c2 d0 d3 d4 kv f.result f.slots ⟨op,a,b,c⟩) 248 _ (Below.refl _ _);have hz0:(w.alloc (.cells (bT c0 c1 c2 d0 d3 d4 kv f.result f.slots ⟨op,a,b,c⟩) 248)).heap.size=w.heap.size+1:=by simp
 obtain⟨W,hW⟩:∃ W,W=w.alloc (.cells (bT c0 c1 c2 d0 d3 d4 kv f.result f.slots ⟨op,a,b,c⟩) 248):=⟨_,rfl⟩;rw[← hW] at hC0 hbx hz0;have q:∀ W',Below W.heap.size W W'→∀ j u,(bT c0 c1 c2 d0 d3 d4 kv f.result f.slots ⟨op,a,b,c⟩)[j]?=some u→W'.cell? ⟨w.heap.size,j,none⟩=some u:=fun W' h j u hj=>ae h (hbx.1 j u hj)
 clear hbx;have HW:=k_ hW;clear hW;have hvW:∀ W',Below W.heap.size W W'→StepV W' D p f K c0 c1 c2 d0 d3 d4 kv:=fun W' h=>hv.below (hC0.trans (h.mono hC0.size))
 obtain⟨o0,o1,o2,o3,o4,o5,o6⟩:=hv.one;have HQQ:=k_ q;clear q;have HC0:=k_ hC0;clear hC0;have HVW:=k_ hvW;clear hvW;have HZ0:=k_ hz0;clear hz0;obtain⟨j,rfl⟩:∃ j:Nat,b=j:=⟨b.toNat,by omega⟩;have hj:j<p.funcs.length:=by omega
 have hg:dE p (j:Int)=p.funcs[j]:=by unfold dE;simp[hj]
 rw[hg];obtain⟨_,_,s0,s1,hc2,hfn⟩:=(HVW.out W (Below.refl _ _)).prg;subst hc2;obtain⟨sb,so,rfl,hDs,x0,x1,x2,x3,x4,h0,h1,h2,h3,h4,hfv⟩:=hfn j hj;have hfin:∀ w',Below W.heap.size W w'→dP w' D p.funcs[j] x0 (.int .i64 p.funcs[j].result) (.int .i64 p.funcs[j].slots) x3 x4:=fun w' h=>by
  have:=hfv.fr (fb_ h) (fun _ _ h=>h);obtain⟨q1,q2,q3⟩:=this;exact⟨rfl,rfl,q3⟩
 obtain⟨rfl,rfl,⟨g0,g1,rfl,_⟩,⟨g2,g3,rfl,_⟩,g4,g5,rfl,_⟩:=hfv;have hlt:(j:Int)<(p.funcs.length:Int):=by omega
 clear hv hb hg hfn hDs;generalize p.funcs[j]=g at *;generalize p.funcs.length=n at *;generalize f.result=fr at *;generalize f.slots=fs at *;have HFIN:=k_ hfin;clear hfin;have hl2:=ai W (.cells #[.slice none 0 0,.int .i64 0,.int .i64 0,.slice none 0 0,.slice none 0 0] 66);have hb2:=(Below.refl W.heap.size W).alloc (Nat.le_refl _) (.cells #[.slice none 0 0,.int .i64 0,.int .i64 0,.slice none 0 0,.slice none 0 0] 66);have hz2:(W.alloc (.cells #[.slice none 0 0,.int .i64 0,.int .i64 0,.slice none 0 0,.slice none 0 0] 66)).heap.size=W.heap.size+1:=by simp
 obtain⟨W2,hW2⟩:∃ W2,W2=W.alloc (.cells #[.slice none 0 0,.int .i64 0,.int .i64 0,.slice none 0 0,.slice none 0 0] 66):=⟨_,rfl⟩;rw[← hW2] at hl2 hb2 hz2;obtain⟨⟨z0,z1,z2,z3,z4⟩,f0,f1,f2,f3,f4⟩:=aB hl2;replace h0:=ae hb2 h0;replace h1:=ae hb2 h1;replace h2:=ae hb2 h2;replace h3:=ae hb2 h3;replace h4:=ae hb2 h4;have hr:=ag (ag (ag (ag (ag hl2 0 (.slice g0 g.args.length g1)) 1 (.int .i64 g.result)) 2 (.int .i64 g.slots)) 3 (.slice g2 g.objects.length g3)) 4 (.slice g4 g.code.length g5);have hf:Fr (onB W.heap.size) W2 _:=(((((Fr.refl (onB W.heap.size) W2).setCell (p:=⟨W.heap.size,0,none⟩) (fun _=>rfl) (.slice g0 g.args.length g1)).setCell (p:=⟨W.heap.size,1,none⟩) (fun _=>rfl) (.int .i64 g.result)).setCell (p:=⟨W.heap.size,2,none⟩) (fun _=>rfl) (.int .i64 g.slots)).setCell (p:=⟨W.heap.size,3,none⟩) (fun _=>rfl) (.slice g2 g.objects.length g3)).setCell (p:=⟨W.heap.size,4,none⟩) (fun _=>rfl) (.slice g4 g.code.length g5);have hbW:=hb2.trans (hf.below hb2.size (fun k hk=>by unfold onB at hk;omega));have hP:=GV (HFIN.out _ hbW) (HC0.out.trans (hbW.mono HC0.out.size));have HW2:=k_ hW2;rw[HZ0.out] at hr hP f0 f1 f2 f3 f4 z0 z1 z2 z3 z4;have HBW2:=k_ hb2;clear hW2 hb2 hz2 hl2 hf hbW HFIN;have HR:=k_ hr;have HP:=k_ hP;clear hr hP;unfold bT at *
 go_enter Tryz.func229,Tryz.ntmps229
 go_upto_region 1 with fail
 rw[← HW.out,← HW2.out];have p2:W2.cell? ⟨w.heap.size,2,none⟩=some _:=HQQ.out _ HBW2.out 2 _ rfl;have p10:W2.cell? ⟨w.heap.size,10,none⟩=some _:=HQQ.out _ HBW2.out 10 _ rfl
 go_wp2_with (with_reducible refine bodyPost_ret ?_ rfl HP.out;obtain⟨⟨k0,k1,k2,k3,k4⟩,_⟩:=aB HR.out;simp[results,Tryz.results229,go_sem,k0,k1,k2,k3,k4])
theorem Fx (w:World) (D:Nat→Prop) (p:Prg) (f:Fun) (K:List Int) (c0 c1 c2 d0 d3 d4 kv:Value) (i:Ins) (hv:StepV w D p f K c0 c1 c2 d0 d3 d4 kv) (hz:Zi i) :
  Calls Tryz.prog 227 #[.agg (bT c0 c1 c2 d0 d3 d4 kv f.result f.slots i)] w fun e w'=>e=.returned (.bool (cu p f.result i K))∧Below w.heap.size w w':=by
 obtain⟨op,a,b,c⟩:=i;have ho:=hz.op;have kd:=fun W h k=>EU W D p f K c0 c1 c2 d0 d3 d4 kv ⟨op,a,b,c⟩ h k
 try dsimp only at kd ⊢
 have hbx:=fun wr h=>nz w (bT c0 c1 c2 d0 d3 d4 kv f.result f.slots ⟨op,a,b,c⟩) #[.int .i64 op,.int .i64 a,.int .i64 b,.int .i64 c] 248 63 wr h
 have hz0:((w.alloc (.cells (bT c0 c1 c2 d0 d3 d4 kv f.result f.slots ⟨op,a,b,c⟩) 248)).alloc (.cells #[.int .i64 op,.int .i64 a,.int .i64 b,.int .i64 c] 63)).heap.size=w.heap.size+2:=by simp
 obtain⟨W,hW⟩:∃ W,W=(w.alloc (.cells (bT c0 c1 c2 d0 d3 d4 kv f.result f.slots ⟨op,a,b,c⟩) 248)).alloc (.cells #[.int .i64 op,.int .i64 a,.int .i64 b,.int .i64 c] 63):=⟨_,rfl⟩;rw[← hW] at hbx hz0;have hC0:Below w.heap.size w W:=(hbx W (by rw[← hz0];exact Below.refl _ _)).2.2.1;have q:∀ W',Below W.heap.size W W'→∀ j u,(bT c0 c1 c2 d0 d3 d4 kv f.result f.slots ⟨op,a,b,c⟩)[j]?=some u→W'.cell? ⟨w.heap.size,j,none⟩=some u:=fun W' h=>(hbx W' (by rw[← hz0];exact h)).1
 have q2:∀ W',Below W.heap.size W W'→∀ j u,(#[.int .i64 op,.int .i64 a,.int .i64 b,.int .i64 c]:Array Value)[j]?=some u→W'.cell? ⟨w.heap.size+1,j,none⟩=some u:=fun W' h=>(hbx W' (by rw[← hz0];exact h)).2.1
 have HW:=k_ hW;clear hW hbx;have hvW:∀ W',Below W.heap.size W W'→StepV W' D p f K c0 c1 c2 d0 d3 d4 kv:=fun W' h=>hv.below (hC0.trans (h.mono hC0.size))
 obtain⟨o0,o1,o2,o3,o4,o5,o6⟩:=hv.one;have HQQ:=k_ q;have HQR:=k_ q2;clear q q2;have HC0:=k_ hC0;clear hC0;have HVW:=k_ hvW;clear hvW;have HZ0:=k_ hz0;clear hz0;have KD:=k_ fun W' (h:Below W.heap.size W W') k=>kd W' (HVW.out W' h) k
 clear kd hz;generalize hR:cu p f.result ⟨op,a,b,c⟩ K=R at *;generalize f.slots=fs at *;generalize f.result=fr at *;have HR:=k_ hR;clear hR hv;unfold bT at *
 go_enter Tryz.func227,Tryz.ntmps227
 go_upto_region 2 with fail
 rw[← HW.out];obtain⟨p0,p1,p2,p3,p4,p5,p6,p7⟩:=c_8 (HQQ.out _ (Below.refl _ _)) rfl rfl rfl rfl rfl rfl rfl rfl;have p8:W.cell? ⟨w.heap.size,8,none⟩=some (.int .i64 _):=HQQ.out _ (Below.refl _ _) 8 _ rfl;have p9:W.cell? ⟨w.heap.size,9,none⟩=some (.int .i64 _):=HQQ.out _ (Below.refl _ _) 9 _ rfl;have p10:W.cell? ⟨w.heap.size,10,none⟩=some (.int .i64 _):=HQQ.out _ (Below.refl _ _) 10 _ rfl;have p11:W.cell? ⟨w.heap.size,11,none⟩=some (.int .i64 _):=HQQ.out _ (Below.refl _ _) 11 _ rfl;have p12:W.cell? ⟨w.heap.size,12,none⟩=some _:=HQQ.out _ (Below.refl _ _) 12 _ rfl;have r0:W.cell? ⟨w.heap.size+1,0,none⟩=some (.int .i64 _):=HQR.out _ (Below.refl _ _) 0 _ rfl;have r1:W.cell? ⟨w.heap.size+1,1,none⟩=some (.int .i64 _):=HQR.out _ (Below.refl _ _) 1 _ rfl;have r2:W.cell? ⟨w.heap.size+1,2,none⟩=some (.int .i64 _):=HQR.out _ (Below.refl _ _) 2 _ rfl;have r3:W.cell? ⟨w.heap.size+1,3,none⟩=some (.int .i64 _):=HQR.out _ (Below.refl _ _) 3 _ rfl
 rcases ho with rfl | rfl | rfl
 ·have HRR:=k_ (show R=true from by rw[← HR.out];simp[cu])
  clear HR KD;go_wp2_with fail
  go_ret
  exact⟨by rw[HRR.out];rfl,HC0.out⟩
 ·have hrr:R=(dO K a == 1):=by rw[← HR.out];simp[cu]
  have kb:=fun W' h=>KD.out W' h a
  generalize dO K a=x at *;have KB:=k_ kb;have HRR:=k_ hrr;clear kb KD hrr HR;go_wp2_with fail;refine(KB.out _ (Below.refl _ _)).mono ?_;rintro e w1 ⟨rfl,hb1⟩;have HB1:=k_ ((Below.refl W.heap.size W).trans (hb1.mono (Below.refl W.heap.size W).size));have HG1:=k_ (HC0.out.trans (HB1.out.mono HC0.out.size));clear hb1;clear p0 p1 p2 p3 p4 p5 p6 p7 p8 p9 p10 p11 p12;clear r0 r1 r2 r3;go_wp2_with fail
  go_ret
  exact⟨by rw[HRR.out];rfl,HG1.out⟩
 ·have HRR:=k_ (show R=true from by rw[← HR.out];simp[cu])
  clear HR KD;go_wp2_with fail
  go_ret
  exact⟨by rw[HRR.out];rfl,HC0.out⟩
theorem Hz (w:World) (D:Nat→Prop) (p:Prg) (f:Fun) (K:List Int) (c0 c1 c2 d0 d3 d4 kv:Value) (i:Ins) (hv:StepV w D p f K c0 c1 c2 d0 d3 d4 kv) (hz:Zi i) :
  Calls Tryz.prog 230 #[.agg (bT c0 c1 c2 d0 d3 d4 kv f.result f.slots i)] w fun e w'=>e=.returned (.int .i64 (jv p f i K))∧Below w.heap.size w w':=by
 obtain⟨op,a,b,c⟩:=i;have ho:=hz.op
 try dsimp only
 have hbx:=fun wr h=>nz w (bT c0 c1 c2 d0 d3 d4 kv f.result f.slots ⟨op,a,b,c⟩) #[.int .i64 op,.int .i64 a,.int .i64 b,.int .i64 c] 248 63 wr h
 have hz0:((w.alloc (.cells (bT c0 c1 c2 d0 d3 d4 kv f.result f.slots ⟨op,a,b,c⟩) 248)).alloc (.cells #[.int .i64 op,.int .i64 a,.int .i64 b,.int .i64 c] 63)).heap.size=w.heap.size+2:=by simp
 obtain⟨W,hW⟩:∃ W,W=(w.alloc (.cells (bT c0 c1 c2 d0 d3 d4 kv f.result f.slots ⟨op,a,b,c⟩) 248)).alloc (.cells #[.int .i64 op,.int .i64 a,.int .i64 b,.int .i64 c] 63):=⟨_,rfl⟩;rw[← hW] at hbx hz0;have hC0:Below w.heap.size w W:=(hbx W (by rw[← hz0];exact Below.refl _ _)).2.2.1;have q:∀ W',Below W.heap.size W W'→∀ j u,(bT c0 c1 c2 d0 d3 d4 kv f.result f.slots ⟨op,a,b,c⟩)[j]?=some u→W'.cell? ⟨w.heap.size,j,none⟩=some u:=fun W' h=>(hbx W' (by rw[← hz0];exact h)).1
 have q2:∀ W',Below W.heap.size W W'→∀ j u,(#[.int .i64 op,.int .i64 a,.int .i64 b,.int .i64 c]:Array Value)[j]?=some u→W'.cell? ⟨w.heap.size+1,j,none⟩=some u:=fun W' h=>(hbx W' (by rw[← hz0];exact h)).2.1
 have HW:=k_ hW;clear hW hbx;have hvW:∀ W',Below W.heap.size W W'→StepV W' D p f K c0 c1 c2 d0 d3 d4 kv:=fun W' h=>hv.below (hC0.trans (h.mono hC0.size))
 obtain⟨o0,o1,o2,o3,o4,o5,o6⟩:=hv.one;have HQQ:=k_ q;have HQR:=k_ q2;clear q q2;have HC0:=k_ hC0;clear hC0;have HVW:=k_ hvW;clear hvW;have HZ0:=k_ hz0;clear hz0;clear hz;have hrr:jv p f ⟨op,a,b,c⟩ K=1:=by rcases ho with rfl | rfl | rfl <;> simp[jv]
 rw[hrr];generalize f.slots=fs at *;generalize f.result=fr at *;clear hv hrr;unfold bT at *
 go_enter Tryz.func230,Tryz.ntmps230
 go_upto_region 2 with fail
 rw[← HW.out];obtain⟨p0,p1,p2,p3,p4,p5,p6,p7⟩:=c_8 (HQQ.out _ (Below.refl _ _)) rfl rfl rfl rfl rfl rfl rfl rfl;have p8:W.cell? ⟨w.heap.size,8,none⟩=some (.int .i64 _):=HQQ.out _ (Below.refl _ _) 8 _ rfl;have p9:W.cell? ⟨w.heap.size,9,none⟩=some (.int .i64 _):=HQQ.out _ (Below.refl _ _) 9 _ rfl;have p10:W.cell? ⟨w.heap.size,10,none⟩=some (.int .i64 _):=HQQ.out _ (Below.refl _ _) 10 _ rfl;have p11:W.cell? ⟨w.heap.size,11,none⟩=some (.int .i64 _):=HQQ.out _ (Below.refl _ _) 11 _ rfl;have p12:W.cell? ⟨w.heap.size,12,none⟩=some _:=HQQ.out _ (Below.refl _ _) 12 _ rfl;have r0:W.cell? ⟨w.heap.size+1,0,none⟩=some (.int .i64 _):=HQR.out _ (Below.refl _ _) 0 _ rfl;have r1:W.cell? ⟨w.heap.size+1,1,none⟩=some (.int .i64 _):=HQR.out _ (Below.refl _ _) 1 _ rfl;have r2:W.cell? ⟨w.heap.size+1,2,none⟩=some (.int .i64 _):=HQR.out _ (Below.refl _ _) 2 _ rfl;have r3:W.cell? ⟨w.heap.size+1,3,none⟩=some (.int .i64 _):=HQR.out _ (Below.refl _ _) 3 _ rfl
 rcases ho with rfl | rfl | rfl
 all_goals
  go_wp2_with fail
  go_ret
  exact⟨rfl,HC0.out⟩
end Go.Proofs.YtlofbhoicbemnaaGreatDoor
