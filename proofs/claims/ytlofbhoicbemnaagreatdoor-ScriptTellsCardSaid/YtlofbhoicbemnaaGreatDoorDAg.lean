/- New blocks that stay: what a call boxes first. Nothing of the program stands here. Types, and what their cells read as; lists of them .. -/
import Derived.Maps.OwnSet
import Derived.Deep.RegionHeld
import Derived.Test.YtlofbhoicbemnaaGreatDoorDAe
set_option linter.unusedVariables false
set_option linter.unusedSimpArgs false
set_option maxRecDepth 100000
set_option maxHeartbeats 1600000
namespace Go.Proofs.YtlofbhoicbemnaaGreatDoor
open Go.RowKit
theorem box1 (w:World) (cs:Array Value) (t:TypeId) (wr:World) (h:Below (w.heap.size+1) (w.alloc (.cells cs t)) wr) :
  (∀ j u,cs[j]?=some u→wr.cell? ⟨w.heap.size,j,none⟩=some u)∧Below w.heap.size w wr∧w.heap.size+1≤wr.heap.size:=by
 refine⟨fun j u hj=>?_,((Below.refl _ _).alloc (Nat.le_refl _) _).trans (h.mono (by simp)),by have:=h.size;simpa using this⟩;rw[h.cell (by simp),cell_new];exact hj
theorem box2 (w:World) (cs cs':Array Value) (t t':TypeId) (wr:World) (h:Below (w.heap.size+2) ((w.alloc (.cells cs t)).alloc (.cells cs' t')) wr) :
  (∀ j u,cs[j]?=some u→wr.cell? ⟨w.heap.size,j,none⟩=some u)∧(∀ j u,cs'[j]?=some u→wr.cell? ⟨w.heap.size+1,j,none⟩=some u)∧Below w.heap.size w wr∧w.heap.size+2≤wr.heap.size:=by
 refine⟨fun j u hj=>?_,fun j u hj=>?_,(((Below.refl _ _).alloc (Nat.le_refl _) _).alloc (by simp) _).trans (h.mono (by simp)),by have:=h.size;simpa using this⟩
 ·rw[h.cell (by simp),cell_under _ _ (by simp),cell_new];exact hj
 ·rw[h.cell (by simp)]
  have:=cell_new (w.alloc (.cells cs t)) cs' t' (0,0) j;rw[show (w.alloc (.cells cs t)).heap.size=w.heap.size+1 from by simp] at this;rw[this];exact hj
theorem Below.ofDrew {W W':World} (h:∃ n,W'=W.drewN n):Below W.heap.size W W':=by
 obtain⟨n,rfl⟩:=h;exact below_drewN (Below.refl _ _) n
theorem Calls.drawn {P:Program} {f:FuncId} {args:Array Value} {w:World} {v:Value} (h:Calls P f args w fun e w'=>e=.returned v∧∃ n,w'=w.drewN n):Calls P f args w fun e w'=>e=.returned v∧Below w.heap.size w w' :=
 h.mono fun _ _ ⟨he,hn⟩=>⟨he,Below.ofDrew hn⟩
theorem own_new {P:Program} {α:Type} (E:Elem P α) (w:World) (l:List α) (cs:Array Value) (h:cs.toList=l.flatMap E.enc) (hl:l.length≤maxLen):Own E (w.alloc (.cells cs E.e)) w.heap.size (.slice (some ⟨w.heap.size,0,none⟩) l.length l.length) l:=by
 refine⟨E.len l,.inr ⟨w.heap.size,l.length,cs,rfl,Nat.le_refl _,heap_new w _,Nat.le_refl _,hl,?_,?_⟩⟩
 ·rw[← E.len l,← h];simp
 ·rw[h,List.take_of_length_le];rw[E.len l];exact Nat.le_refl _
theorem snoc_get {α:Type} (l:List α) (x:α) (j:Nat) (h:j<(l ++ [x]).length):(∃ h':j<l.length,(l ++ [x])[j]=l[j])∨(j=l.length∧(l ++ [x])[j]=x):=by
 by_cases hlt:j<l.length
 ·exact .inl ⟨hlt,List.getElem_append_left hlt⟩
 ·have:j=l.length:=by simp at h;omega
  subst this;exact .inr ⟨rfl,by simp⟩
open Go.Maps
def tokR (v:Value):Option (DataW Value × List MemPlace):=some (.held v,[])
structure KeyTy (P:Program) (κ:Type) where
 k:TypeId
 law:Keyed P k
 key:κ→Value
 lit:κ→Lit
 wf:κ→Prop
 hkey:∀ a,wf a→keyOf P k (key a)=some (lit a)
 inj:∀ a b,lit a=lit b→a=b
variable {P:Program} {κ ν:Type}
def MapIs (K:KeyTy P κ) (val:ν→Value) (w:World) (b n:Nat) (f:κ→Option ν):Prop :=
 ∃ D:DataW Value,w.ownsMap P K.k tokR b n D∧Maps.size D=n∧∀ a,K.wf a→(∀ x,f a=some x→∀ z,D.atKey (K.lit a) z=.held (val x))∧(f a=none→∀ z,D.atKey (K.lit a) z=z)
variable {K:KeyTy P κ} {val:ν→Value} {w w':World} {b n:Nat} {f:κ→Option ν}
theorem MapIs.made (K:KeyTy P κ) (val:ν→Value) (w:World):MapIs K val (w.alloc (.map #[] 0)) w.heap.size 0 (fun _=>none) :=
 ⟨_,World.ownsMap_made w P K.k tokR,rfl,fun _ _=>⟨fun _ h=>(by cases h),fun _ _=>rfl⟩⟩
theorem MapIs.lt (h:MapIs K val w b n f):b<w.heap.size:=let ⟨_,h,_⟩:=h;h.lt
theorem MapIs.fr {F:Nat→Prop} (h:MapIs K val w b n f) (hf:Fr F w w') (hn:¬ F b):MapIs K val w' b n f:=by
 obtain⟨D,h1,h2⟩:=h;obtain⟨es,clock,hb,r⟩:=h1;exact⟨D,⟨es,clock,hf.heap hb hn,r⟩,h2⟩
theorem MapIs.below (h:MapIs K val w b n f) (hb:Below w.heap.size w w'):MapIs K val w' b n f:=h.fr (Fr.of_below hb (fun _=>False)) (fun h=>h)
theorem MapIs.congr {g:κ→Option ν} (h:MapIs K val w b n f) (hg:∀ a,K.wf a→f a=g a):MapIs K val w b n g:=by
 obtain⟨D,h1,h2,h3⟩:=h;exact⟨D,h1,h2,fun a ha=>by rw[← hg a ha];exact h3 a ha⟩
theorem MapIs.look {t e:TypeId} (h:MapIs K val w b n f) (ht:P.underlying t=some (.map K.k e)) {z:Value} (hz:(zeroValue e).run P w=.ok z w) (a:κ) (ha:K.wf a) :
  (∀ x,f a=some x→(Instr.lookup t (.map (some b)) (K.key a) false).run P w=.ok (val x) w∧(Instr.lookup t (.map (some b)) (K.key a) true).run P w=.ok (.tuple #[val x,.bool true]) w) ∧
  (f a=none→(Instr.lookup t (.map (some b)) (K.key a) false).run P w=.ok z w∧(Instr.lookup t (.map (some b)) (K.key a) true).run P w=.ok (.tuple #[z,.bool false]) w):=by
 obtain⟨D,h1,_,h3⟩:=h;obtain⟨v,ps,hr,hv⟩:=h1.lookup K.law ht hz (zd:=.held z) (zp:=[]) rfl (K.hkey a ha);obtain⟨v2,ps2,hr2,hv2⟩:=h1.look_ok K.law ht hz (zd:=.held z) (zp:=[]) rfl (K.hkey a ha);refine⟨fun x hx=>?_,fun hx=>?_⟩
 ·have h4:=(h3 a ha).1 x hx
  rw[h4] at hv hv2
  injection hv with hv
  injection hv2 with hv2
  injection hv with hv _
  injection hv2 with hv2 _
  injection hv with hv
  injection hv2 with hv2
  subst hv hv2;rw[has_true_of_atKey h4] at hr2;exact⟨hr,hr2⟩
 ·have h4:=(h3 a ha).2 hx
  rw[h4] at hv hv2
  injection hv with hv
  injection hv2 with hv2
  injection hv with hv _
  injection hv2 with hv2 _
  injection hv with hv
  injection hv2 with hv2
  subst hv hv2;rw[has_false_of_atKey h4] at hr2;exact⟨hr,hr2⟩
def upd (f:κ→Option ν) [DecidableEq κ] (a:κ) (x:Option ν):κ→Option ν:=fun c=>if c=a then x else f c
theorem isKey (K:KeyTy P κ) {a:κ} (ha:K.wf a):WideAt.IsKeyLit (K.lit a):=K.law.key (K.hkey a ha)
theorem MapIs.put [DecidableEq κ] {t e:TypeId} (h:MapIs K val w b n f) (ht:P.underlying t=some (.map K.k e)) (hn:n<maxLen) (a:κ) (ha:K.wf a) (x:ν) :
  ∃ w',(Instr.mapUpdate t (.map (some b)) (K.key a) (val x)).run P w=.ok () w'∧MapIs K val w' b (if (f a).isSome then n else n+1) (upd f a (some x))∧w.mapTurned w' b:=by
 obtain⟨D,h1,h2,h3⟩:=h;obtain⟨w',hr,h4,h5⟩:=h1.store K.law ht hn (K.hkey a ha) (show tokR (val x)=some (.held (val x),[]) from rfl);have hm:=h1.isMap;have hT:=h1.tidy K.law;have hs:Maps.size (D.put (K.lit a) (.held (val x)))=if (f a).isSome then n else n+1:=by
  rw[size_put hT,h2]
  cases hf:f a with
  | none=>rw[has_false_of_atKey ((h3 a ha).2 hf)];rfl
  | some y=>rw[has_true_of_atKey ((h3 a ha).1 y hf)];rfl
 refine⟨w',hr,⟨_,?_,hs,fun c hc=>?_⟩,h5⟩
 ·obtain⟨es,clock,hb,F,hsz,hD⟩:=h4
  refine⟨es,clock,hb,F,?_,hD⟩;rw[← hs,hD]
  simp[Maps.size,length_sorted]
 ·by_cases hca:c=a
  ·subst hca
   refine⟨fun y hy z=>?_,fun hy=>?_⟩
   ·rw[atKey_put_same hm (isKey K hc)]
    simp[upd] at hy
    rw[hy]
   ·simp[upd] at hy
  ·have hne:K.lit c≠K.lit a:=fun e=>hca (K.inj c a e)
   refine⟨fun y hy z=>?_,fun hy z=>?_⟩
   ·rw[atKey_put_other hne]
    simp[upd,hca] at hy
    exact(h3 c hc).1 y hy z
   ·rw[atKey_put_other hne]
    simp[upd,hca] at hy
    exact(h3 c hc).2 hy z
theorem MapIs.del [DecidableEq κ] {t e:TypeId} (h:MapIs K val w b n f) (ht:P.underlying t=some (.map K.k e)) (a:κ) (ha:K.wf a) (ty:TypeId) :
  ∃ w',(Builtin.delete_ #[t,K.k] ty #[.map (some b),K.key a]).run P w=.ok (.tuple #[]) w'∧MapIs K val w' b (if (f a).isSome then n - 1 else n) (upd f a none)∧w.mapTurned w' b:=by
 obtain⟨D,h1,h2,h3⟩:=h;obtain⟨w',hr,h4,h5⟩:=h1.drop K.law ht (K.hkey a ha) ty;have hT:=h1.tidy K.law;have hs:Maps.size (D.del (K.lit a))=if (f a).isSome then n - 1 else n:=by
  have:=size_del (k:=K.lit a) hT;rw[h2] at this
  cases hf:f a with
  | none=>rw[has_false_of_atKey ((h3 a ha).2 hf)] at this;simpa using this
  | some y=>rw[has_true_of_atKey ((h3 a ha).1 y hf)] at this;simp at this ⊢;omega
 refine⟨w',hr,⟨_,?_,hs,fun c hc=>?_⟩,h5⟩
 ·obtain⟨es,clock,hb,F,hsz,hD⟩:=h4
  refine⟨es,clock,hb,F,?_,hD⟩;rw[← hs,hD]
  simp[Maps.size,length_sorted]
 ·by_cases hca:c=a
  ·subst hca
   refine⟨fun y hy=>?_,fun hy z=>?_⟩
   ·simp[upd] at hy
   ·exact atKey_del_same z
  ·have hne:K.lit c≠K.lit a:=fun e=>hca (K.inj c a e)
   refine⟨fun y hy z=>?_,fun hy z=>?_⟩
   ·rw[atKey_del_other hne]
    simp[upd,hca] at hy
    exact(h3 c hc).1 y hy z
   ·rw[atKey_del_other hne]
    simp[upd,hca] at hy
    exact(h3 c hc).2 hy z
theorem turned_fr {b:Nat} (h:w.mapTurned w' b):Fr (fun k=>k=b) w w':=(Fr.refl _ w).grown h.grown (fun k hk _=>by injection hk with e;exact e.symm)
variable {ops:Array Oper} {rest:List Oper} {o:Oper} {a:Act} {Q:Exit→Act→World→Prop}
theorem look_some (hg:o.guard=none) (m x:Operand) (t e:TypeId) (hop:o.op=Op.lookup t m x false) (h:MapIs K val w b n f) (ht:P.underlying t=some (.map K.k e)) {z:Value} (hz:(zeroValue e).run P w=.ok z w) (k:κ) (hk:K.wf k)
  (hm:a.eval m=.map (some b)) (hx:a.eval x=K.key k) (y:ν) (hf:f k=some y) (hK:wpList P ops Q rest (a.put o.dst (val y)) w):wpList P ops Q (o :: rest) a w:=by
 refine wpList_plain hg fun K' hK'=>?_
 have hrun:=((h.look ht hz k hk).1 y hf).1;unfold Oper.wp
 simp[execOp,hop,hm,hx,hrun,Result.andThen]
 exact hK' _ _ hK
theorem look_some_ok (hg:o.guard=none) (m x:Operand) (t e:TypeId) (hop:o.op=Op.lookup t m x true) (h:MapIs K val w b n f) (ht:P.underlying t=some (.map K.k e)) {z:Value} (hz:(zeroValue e).run P w=.ok z w) (k:κ) (hk:K.wf k)
  (hm:a.eval m=.map (some b)) (hx:a.eval x=K.key k) (y:ν) (hf:f k=some y) (hK:wpList P ops Q rest (a.put o.dst (.tuple #[val y,.bool true])) w):wpList P ops Q (o :: rest) a w:=by
 refine wpList_plain hg fun K' hK'=>?_
 have hrun:=((h.look ht hz k hk).1 y hf).2;unfold Oper.wp
 simp[execOp,hop,hm,hx,hrun,Result.andThen]
 exact hK' _ _ hK
theorem look_none (hg:o.guard=none) (m x:Operand) (t e:TypeId) (hop:o.op=Op.lookup t m x false) (h:MapIs K val w b n f) (ht:P.underlying t=some (.map K.k e)) {z:Value} (hz:(zeroValue e).run P w=.ok z w) (k:κ) (hk:K.wf k)
  (hm:a.eval m=.map (some b)) (hx:a.eval x=K.key k) (hf:f k=none) (hK:wpList P ops Q rest (a.put o.dst z) w):wpList P ops Q (o :: rest) a w:=by
 refine wpList_plain hg fun K' hK'=>?_
 have hrun:=((h.look ht hz k hk).2 hf).1;unfold Oper.wp
 simp[execOp,hop,hm,hx,hrun,Result.andThen]
 exact hK' _ _ hK
theorem look_none_ok (hg:o.guard=none) (m x:Operand) (t e:TypeId) (hop:o.op=Op.lookup t m x true) (h:MapIs K val w b n f) (ht:P.underlying t=some (.map K.k e)) {z:Value} (hz:(zeroValue e).run P w=.ok z w) (k:κ) (hk:K.wf k)
  (hm:a.eval m=.map (some b)) (hx:a.eval x=K.key k) (hf:f k=none) (hK:wpList P ops Q rest (a.put o.dst (.tuple #[z,.bool false])) w):wpList P ops Q (o :: rest) a w:=by
 refine wpList_plain hg fun K' hK'=>?_
 have hrun:=((h.look ht hz k hk).2 hf).2;unfold Oper.wp
 simp[execOp,hop,hm,hx,hrun,Result.andThen]
 exact hK' _ _ hK
theorem put_map [DecidableEq κ] (hg:o.guard=none) (m x v:Operand) (t e:TypeId) (hop:o.op=Op.mapUpdate t m x v) (h:MapIs K val w b n f) (ht:P.underlying t=some (.map K.k e)) (hn:n<maxLen) (k:κ) (hk:K.wf k) (y:ν)
  (hm:a.eval m=.map (some b)) (hx:a.eval x=K.key k) (hv:a.eval v=val y)
  (hK:∀ w',MapIs K val w' b (if (f k).isSome then n else n+1) (upd f k (some y))→w.mapTurned w' b→wpList P ops Q rest (a.put o.dst undef) w'):wpList P ops Q (o :: rest) a w:=by
 refine wpList_plain hg fun K' hK'=>?_
 obtain⟨w',hrun,r1,r2⟩:=h.put ht hn k hk y;unfold Oper.wp
 simp[execOp,hop,hm,hx,hv,hrun,Result.andThen]
 exact hK' _ _ (hK w' r1 r2)
end Go.Proofs.YtlofbhoicbemnaaGreatDoor
namespace Go.Proofs.YtlofbhoicbemnaaGreatDoor
open Go.RowKit Go.Maps
theorem getD_set_self {L:Array Bool} {i:Nat} (h:L.getD i true=false):(L.setIfInBounds i true).getD i false=true:=by
 have hi:i<L.size:=by
  rcases Nat.lt_or_ge i L.size with h1 | h1
  ·exact h1
  ·rw[Array.getD_eq_getD_getElem?,Array.getElem?_eq_none h1] at h;cases h
 rw[Array.getD_eq_getD_getElem?,Array.getElem?_setIfInBounds_self_of_lt hi]
 rfl
theorem set_comm_tt (L:Array Bool) (i j:Nat):(L.setIfInBounds i true).setIfInBounds j true=(L.setIfInBounds j true).setIfInBounds i true:=by
 by_cases h:i=j
 ·rw[h]
 ·exact Array.setIfInBounds_comm true true h
def listAll (L:Array Bool) (l:List Nat):Array Bool:=l.foldl (fun L i=>L.setIfInBounds i true) L
theorem listAll_set (l:List Nat):∀ (L:Array Bool) (i:Nat),listAll (L.setIfInBounds i true) l=(listAll L l).setIfInBounds i true:=by
 induction l with
 | nil=>intro L i;rfl
 | cons x l ih =>
   intro L i
   show listAll ((L.setIfInBounds i true).setIfInBounds x true) l=(listAll (L.setIfInBounds x true) l).setIfInBounds i true
   rw[set_comm_tt,ih]
theorem listAll_mid (L:Array Bool) (l1 l2:List Nat) (x:Nat):listAll (L.setIfInBounds x true) (l1 ++ l2)=listAll L (l1 ++ x :: l2):=by
 unfold listAll;rw[List.foldl_append,List.foldl_append,List.foldl_cons];have:=listAll_set l1 L x;unfold listAll at this;rw[this]
variable {P:Program} {κ ν:Type} [DecidableEq κ] {K:KeyTy P κ} {val:ν→Value} {md:Region.Mode} {ops:Array Oper} {Q:Exit→Act→World→Prop} {S:World→Prop}
def EntryOk (K:KeyTy P κ) (val:ν→Value) (md:Region.Mode) (ops:Array Oper) (t:TypeId) (a:Act) (b:Nat) (L:Array Bool) (x:Nat × κ × ν):Prop :=
 (∃ o m k v,ops[x.1]?=some o∧o.guard=none∧o.dst=none∧o.op=.insert t m k v∧a.eval m=.map (some b)∧a.eval k=K.key x.2.1∧a.eval v=val x.2.2∧∀ d ∈ o.after,Region.binds md d=true→L.getD d.on false=true)∧K.wf x.2.1∧L.getD x.1 true=false
theorem inserts_any {t e:TypeId} (ht:P.underlying t=some (.map K.k e)) (a:Act) (b:Nat) (R:World→Prop) (hRS:∀ w,R w→S w) (hR:∀ w w',R w→w.mapTurned w' b→R w') (fuel:Nat) :
  ∀ (N:Nat) (Rm:List (Nat × κ × ν)),Rm.length=N→∀ (L:Array Bool) (f:κ→Option ν) (c:Nat) (w:World),
   (∀ x ∈ Rm,EntryOk K val md ops t a b L x)→(Rm.map (·.1)).Nodup→(Rm.map (·.2.1)).Nodup →
   (∀ j o,ops[j]?=some o→L.getD j true=false→(∀ x ∈ Rm,x.1≠j)→∀ x ∈ Rm,∃ d ∈ o.after,Region.binds md d=true∧d.on=x.1) →
   MapIs K val w b c f→c+N<maxLen→R w →
   (∀ w' n g,n≤c+N→MapIs K val w' b n g→(∀ x ∈ Rm,g x.2.1=some x.2.2)→(∀ k,(∀ x ∈ Rm,x.2.1≠k)→g k=f k)→R w'→wpAnyH P md ops Q S fuel (listAll L (Rm.map (·.1))) a w') →
   wpAnyH P md ops Q S (N+fuel) L a w:=by
 intro N
 induction N with
 | zero =>
   intro Rm hN L f c w _ _ _ _ hm _ hr hfin;have:Rm=[]:=List.length_eq_zero_iff.1 hN;subst this;have:=hfin w c f (by omega) hm (fun x hx=>by cases hx) (fun k _=>rfl) hr;rw[Nat.zero_add];exact this
 | succ N ih =>
   intro Rm hN L f c w hok hnd hkd hlate hm hc hr hfin;rw[show N+1+fuel=(N+fuel)+1 from by omega];have hready:∀ i,i ∈ Region.ready md ops L↔∃ x ∈ Rm,x.1=i:=fun i=>by
    rw[mem_ready]
    constructor
    ·rintro⟨h0,o,ho,hall⟩
     by_cases hx:∃ x ∈ Rm,x.1=i
     ·exact hx
     ·exfalso
      have hne:∀ x ∈ Rm,x.1≠i:=fun x hx1 hx2=>hx ⟨x,hx1,hx2⟩
      match Rm,hN with
      | y :: _,_ =>
        obtain⟨d,hd,hb,he⟩:=hlate i o ho h0 hne y (List.mem_cons_self ..);have h1:=hall d hd hb;rw[he] at h1;have h2:=(hok y (List.mem_cons_self ..)).2.2;have hi:y.1<L.size:=by
         rcases Nat.lt_or_ge y.1 L.size with h3 | h3
         ·exact h3
         ·rw[Array.getD_eq_getD_getElem?,Array.getElem?_eq_none h3] at h2;cases h2
        rw[Array.getD_eq_getD_getElem?,Array.getElem?_eq_getElem hi] at h1 h2
        simp at h1 h2
        rw[h1] at h2
        cases h2
    ·rintro⟨x,hx,rfl⟩
     obtain⟨⟨o,m,k,v,ho,_,_,_,_,_,_,hall⟩,_,h0⟩:=hok x hx;exact⟨h0,o,ho,hall⟩
   refine⟨fun h=>?_,fun i hi=>?_⟩
   ·match Rm,hN with
    | y :: _,_ =>
      have:=(hready y.1).2 ⟨y,List.mem_cons_self ..,rfl⟩;rw[h] at this
      cases this
   ·obtain⟨x,hx,rfl⟩:=(hready i).1 hi
    obtain⟨⟨o,m,k,v,ho,hg,hdst,hop,em,ek,ev,hall⟩,hwf,h0⟩:=hok x hx;obtain⟨w',hrun,hm',htn⟩:=hm.put ht (by omega) x.2.1 hwf x.2.2;obtain⟨l1,l2,hl⟩:=List.append_of_mem hx;have hR':=hR w w' hr htn;have hgoal:wpAnyH P md ops Q S (N+fuel) (L.setIfInBounds x.1 true) a w':=by
     subst hl;rw[List.map_append,List.map_cons] at hnd hkd;have hn1:=hnd;rw[List.nodup_append] at hn1;obtain⟨n1,n2,n3⟩:=hn1;rw[List.nodup_cons] at n2;have hk1:=hkd;rw[List.nodup_append] at hk1;obtain⟨k1,k2,k3⟩:=hk1;rw[List.nodup_cons] at k2;have hdi:∀ y ∈ l1 ++ l2,y.1≠x.1:=fun y hy e=>by
      rcases List.mem_append.1 hy with h | h
      ·exact n3 _ (List.mem_map_of_mem h) _ (List.mem_cons_self ..) e
      ·exact n2.1 (e ▸ List.mem_map_of_mem h)
     have hdk:∀ y ∈ l1 ++ l2,y.2.1≠x.2.1:=fun y hy e=>by
      rcases List.mem_append.1 hy with h | h
      ·exact k3 _ (List.mem_map_of_mem h) _ (List.mem_cons_self ..) e
      ·exact k2.1 (e ▸ List.mem_map_of_mem h)
     have hsub:∀ y ∈ l1 ++ l2,y ∈ l1 ++ x :: l2:=fun y hy=>by
      rcases List.mem_append.1 hy with h | h
      ·exact List.mem_append_left _ h
      ·exact List.mem_append_right _ (List.mem_cons_of_mem _ h)
     refine ih (l1 ++ l2) (by simp at hN ⊢;omega) _ (upd f x.2.1 (some x.2.2)) (if (f x.2.1).isSome then c else c+1) w' (fun y hy=>?_) ?_ ?_ (fun j o' ho' hj hne y hy=>?_) hm' (by split <;> omega) hR' (fun w2 n g hn hg hg1 hg2 hr2=>?_)
     ·obtain⟨⟨o',m',k',v',q1,q2,q3,q4,q5,q6,q7,q8⟩,q9,q10⟩:=hok y (hsub y hy)
      exact⟨⟨o',m',k',v',q1,q2,q3,q4,q5,q6,q7,fun d hd hb=>getD_set_true (q8 d hd hb)⟩,q9,by rw[getD_set_ne true (Ne.symm (hdi y hy))];exact q10⟩
     ·rw[List.map_append,List.nodup_append]
      exact⟨n1,n2.2,fun u hu z hz=>n3 u hu z (List.mem_cons_of_mem _ hz)⟩
     ·rw[List.map_append,List.nodup_append]
      exact⟨k1,k2.2,fun u hu z hz=>k3 u hu z (List.mem_cons_of_mem _ hz)⟩
     ·by_cases hjx:j=x.1
      ·subst hjx
       exfalso
       have:=getD_set_self h0;have hi:x.1<(L.setIfInBounds x.1 true).size:=by
        rcases Nat.lt_or_ge x.1 (L.setIfInBounds x.1 true).size with h3 | h3
        ·exact h3
        ·rw[Array.getD_eq_getD_getElem?,Array.getElem?_eq_none h3] at this;cases this
       rw[Array.getD_eq_getD_getElem?,Array.getElem?_eq_getElem hi] at hj this
       simp at hj this
      ·refine hlate j o' ho' (by rw[getD_set_ne true (Ne.symm hjx)] at hj;exact hj) (fun z hz=>?_) y (hsub y hy)
       rcases List.mem_append.1 hz with h | h
       ·exact hne z (List.mem_append_left _ h)
       ·rcases List.mem_cons.1 h with rfl | h
        ·exact fun e=>hjx e.symm
        ·exact hne z (List.mem_append_right _ h)
     ·have hlist:listAll (L.setIfInBounds x.1 true) ((l1 ++ l2).map (·.1))=listAll L ((l1 ++ x :: l2).map (·.1)):=by
       rw[List.map_append,List.map_append,List.map_cons,listAll_mid]
      rw[hlist];refine hfin w2 n g (Nat.le_trans hn (by split <;> omega)) hg (fun y hy=>?_) (fun k hk=>?_) hr2
      ·rcases List.mem_append.1 hy with h | h
       ·exact hg1 y (List.mem_append_left _ h)
       ·rcases List.mem_cons.1 h with rfl | h
        ·rw[hg2 _ hdk];simp[upd]
        ·exact hg1 y (List.mem_append_right _ h)
      ·rw[hg2 k (fun z hz=>hk z (hsub z hz))]
       have:k≠x.2.1:=fun e=>hk x hx e.symm
       simp[upd,this]
    have hgo:S w'∧wpAnyH P md ops Q S (N+fuel) (L.setIfInBounds x.1 true) a w':=⟨hRS w' hR',hgoal⟩;unfold wpOp;rw[ho];have hw:Region.wanted o (yielded ops a.tmps)=true:=by unfold Region.wanted;rw[hg]
    simp only[hw,if_true]
    left
    unfold Oper.wp;simp only[execOp,hop,em,ek,ev]
    simp[hrun,Result.andThen]
    rw[Oper.upon_skip,hdst];exact hgo
theorem inserts_go {t e:TypeId} (ht:P.underlying t=some (.map K.k e)) (a:Act) (b:Nat) (R:World→Prop) (hRS:∀ w,R w→S w) (hR:∀ w w',R w→w.mapTurned w' b→R w') (fuel N:Nat) (Rm:List (Nat × κ × ν)) (hN:Rm.length=N) (L:Array Bool) (w:World)
  (hB:((Rm.map (·.1)).all fun i=>match ops[i]? with | some o=>o.guard.isNone && o.dst.isNone && o.after.all (fun d=>!Region.binds md d || L.getD d.on false) && !(L.getD i true) | none=>false)=true)
  (hop:∀ x ∈ Rm,(∃ m k v,(ops[x.1]?.map (·.op))=some (.insert t m k v)∧a.eval m=.map (some b)∧a.eval k=K.key x.2.1∧a.eval v=val x.2.2)∧K.wf x.2.1) (hnd:(Rm.map (·.1)).Nodup) (hkd:(Rm.map (·.2.1)).Nodup)
  (hlate:((List.range ops.size).all fun j=>L.getD j true || (Rm.map (·.1)).contains j || match ops[j]? with | some o=>(Rm.map (·.1)).all fun i=>o.after.any fun d=>Region.binds md d && d.on == i | none=>true)=true)
  (hm:MapIs K val w b 0 (fun _=>none)) (hc:N<maxLen) (hr:R w)
  (hfin:∀ w' n g,n≤N→MapIs K val w' b n g→(∀ x ∈ Rm,g x.2.1=some x.2.2)→(∀ k,(∀ x ∈ Rm,x.2.1≠k)→g k=none)→R w'→wpAnyH P md ops Q S fuel (listAll L (Rm.map (·.1))) a w') :
  wpAnyH P md ops Q S (N+fuel) L a w:=by
 refine inserts_any ht a b R hRS hR fuel N Rm hN L (fun _=>none) 0 w (fun x hx=>?_) hnd hkd (fun j o ho hj hne x hx=>?_) hm (by omega) hr (fun w' n g hn hg h1 h2 h3=>hfin w' n g (by omega) hg h1 h2 h3)
 ·obtain⟨⟨m,k,v,h1,h2,h3,h4⟩,hwf⟩:=hop x hx
  have hb:=List.all_eq_true.1 hB x.1 (List.mem_map_of_mem hx)
  cases ho:ops[x.1]? with
  | none=>rw[ho] at h1;cases h1
  | some o =>
    rw[ho] at h1 hb;simp only[Bool.and_eq_true,Bool.not_eq_true',Option.isNone_iff_eq_none] at hb;obtain⟨⟨⟨g1,g2⟩,g3⟩,g4⟩:=hb;refine⟨⟨o,m,k,v,ho,g1,g2,by simpa using h1,h2,h3,h4,fun d hd hbd=>?_⟩,hwf,g4⟩;rw[Array.all_eq_true] at g3;obtain⟨i,hi,rfl⟩:=Array.mem_iff_getElem.1 hd;have:=g3 i hi;rw[hbd] at this
    simpa using this
 ·have hlt:j<ops.size:=by
   rcases Nat.lt_or_ge j ops.size with h | h
   ·exact h
   ·rw[Array.getElem?_eq_none h] at ho;cases ho
  have h:=List.all_eq_true.1 hlate j (List.mem_range.2 hlt);rw[ho,hj] at h;have hnc:(Rm.map (·.1)).contains j=false:=by
   rw[Bool.eq_false_iff];intro hc;rw[List.contains_iff_mem] at hc;obtain⟨y,hy,he⟩:=List.mem_map.1 hc;exact hne y hy he
  rw[hnc] at h;simp only[Bool.false_or] at h;have:=List.all_eq_true.1 h x.1 (List.mem_map_of_mem hx);rw[Array.any_eq_true] at this;obtain⟨i,hi,hd⟩:=this;simp only[Bool.and_eq_true,beq_iff_eq] at hd;exact⟨_,Array.getElem_mem hi,hd.1,hd.2⟩
end Go.Proofs.YtlofbhoicbemnaaGreatDoor
namespace Go.Proofs.YtlofbhoicbemnaaGreatDoor
open Go.ChangeShapes Go.WideShapes Go.ChangeAt Go.RowKit
def uTake (s:RS) (n:Int):ByteArray × RS:=if n<0∨(s.1.size:Int)<n then (⟨#[]⟩,(⟨#[]⟩,true)) else (s.1.extract 0 n.toNat,(s.1.extract n.toNat s.1.size,s.2))
def uVal (b:ByteArray):Int:=if b.size<4 then 0 else readV (gb b 0) (gb b 1) (gb b 2) (gb b 3)
def uNum (s:RS):Int × RS:=(uVal (uTake s 4).1,(uTake s 4).2)
def FRd (w:World) (p:Nat) (s:RS):Prop:=w.heap[p]?=some (.cells #[.string s.1,.bool s.2] 90)
theorem FRd.fr {F:Nat→Prop} {w w':World} {p:Nat} {s:RS} (h:FRd w p s) (hf:Fr F w w') (hn:¬ F p):FRd w' p s:=hf.heap h hn
theorem bytes_of (w:World) (b:ByteArray):∃ cap wf,Sem.run Tryz.prog (convert 9 30 (.string b)) w=.ok (.slice (some ⟨w.heap.size,0,none⟩) b.size cap) wf∧Below w.heap.size w wf ∧
  ∀ j (h:j<b.size),wf.cell? ⟨w.heap.size,j,none⟩=some (.int .u8 (b[j].toNat:Nat)):=by
 refine⟨_,_,run_bytes_of_string w _ _ 5 b Tryz.underlying9 Tryz.underlying30 Tryz.underlying5,((Below.refl _ _).drew).alloc (Nat.le_refl _) _,fun j h=>?_⟩;rw[show w.heap.size=w.drew.heap.size from rfl,cell_new];unfold bytesRow
 rw[Array.getElem?_append_left (by simpa using h)];rw[Array.getElem?_map,Array.getElem?_eq_getElem (by simpa using h)]
 rfl
theorem read_few (a:Option Addr) (n c:Nat) (w:World) (h:n<4) :
  Calls Tryz.prog 80 #[.slice a n c] w fun e w'=>e=.returned (.tuple #[.int .i64 0,.bool false])∧w=w':=by
 go_enter Tryz.func80,Tryz.ntmps80
 go_wp2
 go_ret2
 exact⟨rfl,rfl⟩
theorem utake_any (w:World) (p:Nat) (s:RS) (hr:FRd w p s) (n:Int) (hs:s.1.size≤1000000) :
  Calls Tryz.prog 52 #[.pointer (some ⟨p,0,none⟩),.int .i64 n] w fun e w'=>e=.returned (.string (uTake s n).1)∧FRd w' p (uTake s n).2∧Fr (onB p) w w':=by
 obtain⟨b,bad⟩:=s;obtain⟨q0,q1,q2,q3⟩:=two_cells (show _=some (Obj.cells #[.string b,.bool bad] 90) from hr)
 dsimp only at hs
 have hbad:FRd ((w.setCell ⟨p,1,none⟩ (.bool true)).setCell ⟨p,0,none⟩ (.string ⟨#[]⟩)) p (⟨#[]⟩,true)∧Fr (onB p) w ((w.setCell ⟨p,1,none⟩ (.bool true)).setCell ⟨p,0,none⟩ (.string ⟨#[]⟩)) :=
   ⟨two_set0 (two_set1 hr),((Fr.refl (onB p) w).setCell (p:=⟨p,1,none⟩) (fun _=>rfl) _).setCell (p:=⟨p,0,none⟩) (fun _=>rfl) _⟩
 by_cases hneg:n<0
 ·have e:uTake (b,bad) n=(⟨#[]⟩,(⟨#[]⟩,true)):=by unfold uTake;rw[if_pos (Or.inl hneg)]
  rw[e];clear e hr;have HBAD:=k_ hbad;clear hbad
  go_enter Tryz.func52,Tryz.ntmps52
  go_wp2_with fail
  go_ret
  exact⟨rfl,HBAD.out⟩
 by_cases h:(b.size:Int)<n
 ·have e:uTake (b,bad) n=(⟨#[]⟩,(⟨#[]⟩,true)):=by unfold uTake;rw[if_pos (Or.inr h)]
  rw[e];clear e hr;have HBAD:=k_ hbad;clear hbad
  go_enter Tryz.func52,Tryz.ntmps52
  go_wp2_with fail
  go_ret
  exact⟨rfl,HBAD.out⟩
 ·have e:uTake (b,bad) n=(b.extract 0 n.toNat,(b.extract n.toNat b.size,bad)):=by unfold uTake;rw[if_neg (fun h'=>h'.elim hneg h)]
  rw[e];have hp:FRd (w.setCell ⟨p,0,none⟩ (.string (b.extract n.toNat b.size))) p (b.extract n.toNat b.size,bad)∧Fr (onB p) w (w.setCell ⟨p,0,none⟩ (.string (b.extract n.toNat b.size))) :=
   ⟨two_set0 hr,(Fr.refl (onB p) w).setCell (p:=⟨p,0,none⟩) (fun _=>rfl) _⟩
  clear e hr hbad;have HP:=k_ hp;clear hp
  go_enter Tryz.func52,Tryz.ntmps52
  go_wp2_with fail
  go_ret
  exact⟨rfl,HP.out⟩
theorem unum_any (w:World) (p:Nat) (s:RS) (hr:FRd w p s) (hs:s.1.size≤1000000) :
  Calls Tryz.prog 53 #[.pointer (some ⟨p,0,none⟩)] w fun e w'=>e=.returned (.int .i64 (uNum s).1)∧FRd w' p (uNum s).2∧Fr (onB p) w w':=by
 have ht:=utake_any w p s hr 4 hs;unfold uNum
 by_cases h:(s.1.size:Int)<4
 ·have e1:uTake s 4=(⟨#[]⟩,(⟨#[]⟩,true)):=by unfold uTake;rw[if_pos (Or.inr h)]
  rw[e1] at ht ⊢;have he:(⟨#[]⟩:ByteArray).toList.isEmpty=true:=by rw[ByteArray.toList_eq];rfl
  clear e1 h hr hs;have HT:=k_ ht;clear ht
  go_enter Tryz.func53,Tryz.ntmps53
  go_wp2_with fail;refine HT.out.mono ?_;rintro e w1 ⟨rfl,hp⟩;have HP:=k_ hp;clear hp;obtain⟨cap,wf,hcv,hb,_⟩:=bytes_of w1 ⟨#[]⟩
  have HB:=k_ hb;clear hb;rw[show (⟨#[]⟩:ByteArray).size=0 from rfl] at hcv;go_wp2_with fail;refine(read_few _ _ _ _ (by omega)).mono ?_;rintro e w2 ⟨rfl,rfl⟩;go_wp2_with fail
  go_ret
  exact⟨rfl,HP.out.1.fr (Fr.of_below HB.out (fun _=>False)) (fun h=>h),HP.out.2.trans (Fr.of_below HB.out (onB p)) (fun _ _ h=>h)⟩
 ·have e1:uTake s 4=(s.1.extract 0 4,(s.1.extract 4 s.1.size,s.2)):=by unfold uTake;rw[if_neg (fun h'=>h'.elim (by omega) h)];rfl
  rw[e1] at ht ⊢;have hx:(s.1.extract 0 4).size=4:=by rw[ByteArray.size_extract];omega
  generalize s.1.extract 0 4=b1 at *;clear e1 h hr hs;have HT:=k_ ht;clear ht
  go_enter Tryz.func53,Tryz.ntmps53
  go_wp2_with fail;refine HT.out.mono ?_;rintro e w1 ⟨rfl,hp⟩;have HP:=k_ hp;clear hp;obtain⟨cap,wf,hcv,hb,hcs⟩:=bytes_of w1 b1
  rw[hx] at hcv;have c0:=hcs 0 (by omega);have c1:=hcs 1 (by omega);have c2:=hcs 2 (by omega);have c3:=hcs 3 (by omega);rw[gb_get _ _ _] at c0 c1 c2 c3;have HB:=k_ hb;have HV:=k_ (show uVal b1=readV (gb b1 0) (gb b1 1) (gb b1 2) (gb b1 3) from by unfold uVal;rw[if_neg (by omega)]);have HC:=k_ (And.intro c0 (And.intro c1 (And.intro c2 c3)));clear hb hcs c0 c1 c2 c3 hx;go_wp2_with fail;refine(read_any w1.heap.size 0 4 cap wf _ _ _ _ (by omega) (by omega) ⟨(gb_bd _ _).1,(gb_bd _ _).2,(gb_bd _ _).1,(gb_bd _ _).2,(gb_bd _ _).1,(gb_bd _ _).2,(gb_bd _ _).1,(gb_bd _ _).2⟩ HC.out.1 HC.out.2.1 HC.out.2.2.1 HC.out.2.2.2).mono ?_;rintro e w2 ⟨rfl,rfl⟩;go_wp2_with fail
  go_ret
  exact⟨by rw[HV.out];rfl,HP.out.1.fr (Fr.of_below HB.out (fun _=>False)) (fun h=>h),HP.out.2.trans (Fr.of_below HB.out (onB p)) (fun _ _ h=>h)⟩
end Go.Proofs.YtlofbhoicbemnaaGreatDoor
