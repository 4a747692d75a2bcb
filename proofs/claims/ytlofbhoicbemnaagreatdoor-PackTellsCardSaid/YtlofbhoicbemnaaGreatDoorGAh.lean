/- Maps by their keys: a function from keys to what stands there. Nothing of the program stands here. A map written as a literal: its .. -/
import Derived.Maps.OwnSet
import Derived.Test.YtlofbhoicbemnaaGreatDoorGAe
import Derived.BigRegion
import Derived.Deep.DeepCutAuto
set_option linter.unusedVariables false
set_option linter.unusedSimpArgs false
set_option maxRecDepth 100000
set_option maxHeartbeats 3200000
namespace Go.Proofs.YtlofbhoicbemnaaGreatDoor
open Go.RowKit Go.Maps
def Jb (v:Value):Option (DataW Value × List MemPlace):=some (.held v,[])
structure KeyTy (P:Program) (κ:Type) where
 k:TypeId
 law:Keyed P k
 key:κ→Value
 lit:κ→Lit
 wf:κ→Prop
 hkey:∀ a,wf a→keyOf P k (key a)=some (lit a)
 inj:∀ a b,lit a=lit b→a=b
variable {P:Program} {κ ν:Type}
def bf (K:KeyTy P κ) (val:ν→Value) (w:World) (b n:Nat) (f:κ→Option ν):Prop :=
 ∃ D:DataW Value,w.ownsMap P K.k Jb b n D∧Maps.size D=n∧∀ a,K.wf a→(∀ x,f a=some x→∀ z,D.atKey (K.lit a) z=.held (val x))∧(f a=none→∀ z,D.atKey (K.lit a) z=z)
variable {K:KeyTy P κ} {val:ν→Value} {w w':World} {b n:Nat} {f:κ→Option ν}
theorem bf.made (K:KeyTy P κ) (val:ν→Value) (w:World):bf K val (w.alloc (.map #[] 0)) w.heap.size 0 (fun _=>none) :=
 ⟨_,World.ownsMap_made w P K.k Jb,rfl,fun _ _=>⟨fun _ h=>(by cases h),fun _ _=>rfl⟩⟩
theorem bf.lt (h:bf K val w b n f):b<w.heap.size:=let ⟨_,h,_⟩:=h;h.lt
theorem bf.fr {F:Nat→Prop} (h:bf K val w b n f) (hf:Fr F w w') (hn:¬ F b):bf K val w' b n f:=by
 obtain⟨D,h1,h2⟩:=h;obtain⟨es,clock,hb,r⟩:=h1;exact⟨D,⟨es,clock,hf.heap hb hn,r⟩,h2⟩
theorem bf.below (h:bf K val w b n f) (hb:Below w.heap.size w w'):bf K val w' b n f:=h.fr (fb_ hb) (fun h=>h)
theorem bf.congr {g:κ→Option ν} (h:bf K val w b n f) (hg:∀ a,K.wf a→f a=g a):bf K val w b n g:=by
 obtain⟨D,h1,h2,h3⟩:=h;exact⟨D,h1,h2,fun a ha=>by rw[← hg a ha];exact h3 a ha⟩
theorem bf.look {t e:TypeId} (h:bf K val w b n f) (ht:P.underlying t=some (.map K.k e)) {z:Value} (hz:(zeroValue e).run P w=.ok z w) (a:κ) (ha:K.wf a) :
  (∀ x,f a=some x→(Instr.lookup t (.map (some b)) (K.key a) false).run P w=.ok (val x) w∧(Instr.lookup t (.map (some b)) (K.key a) true).run P w=.ok (.tuple #[val x,.bool true]) w) ∧
  (f a=none→(Instr.lookup t (.map (some b)) (K.key a) false).run P w=.ok z w∧(Instr.lookup t (.map (some b)) (K.key a) true).run P w=.ok (.tuple #[z,.bool false]) w):=by
 obtain⟨D,h1,_,h3⟩:=h;obtain⟨v,ps,hr,hv⟩:=h1.lookup K.law ht hz (zd:=.held z) (zp:=[]) rfl (K.hkey a ha);obtain⟨v2,ps2,hr2,hv2⟩:=h1.look_ok K.law ht hz (zd:=.held z) (zp:=[]) rfl (K.hkey a ha);refine⟨fun x hx=>?_,fun hx=>?_⟩
 ·have h4:=(h3 a ha).1 x hx
  rw[h4] at hv hv2
  injection hv with hv
  injection hv2 with hv2
  injection hv with hv _
  injection hv2 with hv2 _
  injection hv with hv
  injection hv2 with hv2
  subst hv hv2;rw[has_true_of_atKey h4] at hr2;exact⟨hr,hr2⟩
 ·have h4:=(h3 a ha).2 hx
  rw[h4] at hv hv2
  injection hv with hv
  injection hv2 with hv2
  injection hv with hv _
  injection hv2 with hv2 _
  injection hv with hv
  injection hv2 with hv2
  subst hv hv2;rw[has_false_of_atKey h4] at hr2;exact⟨hr,hr2⟩
def upd (f:κ→Option ν) [DecidableEq κ] (a:κ) (x:Option ν):κ→Option ν:=fun c=>if c=a then x else f c
theorem isKey (K:KeyTy P κ) {a:κ} (ha:K.wf a):WideAt.IsKeyLit (K.lit a):=K.law.key (K.hkey a ha)
theorem bf.put [DecidableEq κ] {t e:TypeId} (h:bf K val w b n f) (ht:P.underlying t=some (.map K.k e)) (hn:n<maxLen) (a:κ) (ha:K.wf a) (x:ν) :
  ∃ w',(Instr.mapUpdate t (.map (some b)) (K.key a) (val x)).run P w=.ok () w'∧bf K val w' b (if (f a).isSome then n else n+1) (upd f a (some x))∧w.mapTurned w' b:=by
 obtain⟨D,h1,h2,h3⟩:=h;obtain⟨w',hr,h4,h5⟩:=h1.store K.law ht hn (K.hkey a ha) (show Jb (val x)=some (.held (val x),[]) from rfl);have hm:=h1.isMap;have hT:=h1.tidy K.law;have hs:Maps.size (D.put (K.lit a) (.held (val x)))=if (f a).isSome then n else n+1:=by
  rw[size_put hT,h2]
  cases hf:f a with
  | none=>rw[has_false_of_atKey ((h3 a ha).2 hf)];rfl
  | some y=>rw[has_true_of_atKey ((h3 a ha).1 y hf)];rfl
 refine⟨w',hr,⟨_,?_,hs,fun c hc=>?_⟩,h5⟩
 ·obtain⟨es,clock,hb,F,hsz,hD⟩:=h4
  refine⟨es,clock,hb,F,?_,hD⟩;rw[← hs,hD]
  simp[Maps.size,length_sorted]
 ·by_cases hca:c=a
  ·subst hca
   refine⟨fun y hy z=>?_,fun hy=>?_⟩
   ·rw[atKey_put_same hm (isKey K hc)]
    simp[upd] at hy
    rw[hy]
   ·simp[upd] at hy
  ·have hne:K.lit c≠K.lit a:=fun e=>hca (K.inj c a e)
   refine⟨fun y hy z=>?_,fun hy z=>?_⟩
   ·rw[atKey_put_other hne]
    simp[upd,hca] at hy
    exact(h3 c hc).1 y hy z
   ·rw[atKey_put_other hne]
    simp[upd,hca] at hy
    exact(h3 c hc).2 hy z
theorem bf.del [DecidableEq κ] {t e:TypeId} (h:bf K val w b n f) (ht:P.underlying t=some (.map K.k e)) (a:κ) (ha:K.wf a) (ty:TypeId) :
  ∃ w',(Builtin.delete_ #[t,K.k] ty #[.map (some b),K.key a]).run P w=.ok (.tuple #[]) w'∧bf K val w' b (if (f a).isSome then n - 1 else n) (upd f a none)∧w.mapTurned w' b:=by
 obtain⟨D,h1,h2,h3⟩:=h;obtain⟨w',hr,h4,h5⟩:=h1.drop K.law ht (K.hkey a ha) ty;have hT:=h1.tidy K.law;have hs:Maps.size (D.del (K.lit a))=if (f a).isSome then n - 1 else n:=by
  have:=size_del (k:=K.lit a) hT;rw[h2] at this
  cases hf:f a with
  | none=>rw[has_false_of_atKey ((h3 a ha).2 hf)] at this;simpa using this
  | some y=>rw[has_true_of_atKey ((h3 a ha).1 y hf)] at this;simp at this ⊢;omega
 refine⟨w',hr,⟨_,?_,hs,fun c hc=>?_⟩,h5⟩
 ·obtain⟨es,clock,hb,F,hsz,hD⟩:=h4
  refine⟨es,clock,hb,F,?_,hD⟩;rw[← hs,hD]
  simp[Maps.size,length_sorted]
 ·by_cases hca:c=a
  ·subst hca
   refine⟨fun y hy=>?_,fun hy z=>?_⟩
   ·simp[upd] at hy
   ·exact atKey_del_same z
  ·have hne:K.lit c≠K.lit a:=fun e=>hca (K.inj c a e)
   refine⟨fun y hy z=>?_,fun hy z=>?_⟩
   ·rw[atKey_del_other hne]
    simp[upd,hca] at hy
    exact(h3 c hc).1 y hy z
   ·rw[atKey_del_other hne]
    simp[upd,hca] at hy
    exact(h3 c hc).2 hy z
theorem bi {b:Nat} (h:w.mapTurned w' b):Fr (fun k=>k=b) w w':=(Fr.refl _ w).grown h.grown (fun k hk _=>by injection hk with e;exact e.symm)
variable {ops:Array Oper} {rest:List Oper} {o:Oper} {a:Act} {Q:Exit→Act→World→Prop}
theorem pU (hg:o.guard=none) (m x:Operand) (t e:TypeId) (hop:o.op=Op.lookup t m x false) (h:bf K val w b n f) (ht:P.underlying t=some (.map K.k e)) {z:Value} (hz:(zeroValue e).run P w=.ok z w) (k:κ) (hk:K.wf k)
  (hm:a.eval m=.map (some b)) (hx:a.eval x=K.key k) (y:ν) (hf:f k=some y) (hK:wpList P ops Q rest (a.put o.dst (val y)) w):wpList P ops Q (o :: rest) a w:=by
 refine wpList_plain hg fun K' hK'=>?_
 have hrun:=((h.look ht hz k hk).1 y hf).1;unfold Oper.wp
 simp[execOp,hop,hm,hx,hrun,Result.andThen]
 exact hK' _ _ hK
theorem kC (hg:o.guard=none) (m x:Operand) (t e:TypeId) (hop:o.op=Op.lookup t m x true) (h:bf K val w b n f) (ht:P.underlying t=some (.map K.k e)) {z:Value} (hz:(zeroValue e).run P w=.ok z w) (k:κ) (hk:K.wf k)
  (hm:a.eval m=.map (some b)) (hx:a.eval x=K.key k) (y:ν) (hf:f k=some y) (hK:wpList P ops Q rest (a.put o.dst (.tuple #[val y,.bool true])) w):wpList P ops Q (o :: rest) a w:=by
 refine wpList_plain hg fun K' hK'=>?_
 have hrun:=((h.look ht hz k hk).1 y hf).2;unfold Oper.wp
 simp[execOp,hop,hm,hx,hrun,Result.andThen]
 exact hK' _ _ hK
theorem iF (hg:o.guard=none) (m x:Operand) (t e:TypeId) (hop:o.op=Op.lookup t m x false) (h:bf K val w b n f) (ht:P.underlying t=some (.map K.k e)) {z:Value} (hz:(zeroValue e).run P w=.ok z w) (k:κ) (hk:K.wf k)
  (hm:a.eval m=.map (some b)) (hx:a.eval x=K.key k) (hf:f k=none) (hK:wpList P ops Q rest (a.put o.dst z) w):wpList P ops Q (o :: rest) a w:=by
 refine wpList_plain hg fun K' hK'=>?_
 have hrun:=((h.look ht hz k hk).2 hf).1;unfold Oper.wp
 simp[execOp,hop,hm,hx,hrun,Result.andThen]
 exact hK' _ _ hK
theorem wB (hg:o.guard=none) (m x:Operand) (t e:TypeId) (hop:o.op=Op.lookup t m x true) (h:bf K val w b n f) (ht:P.underlying t=some (.map K.k e)) {z:Value} (hz:(zeroValue e).run P w=.ok z w) (k:κ) (hk:K.wf k)
  (hm:a.eval m=.map (some b)) (hx:a.eval x=K.key k) (hf:f k=none) (hK:wpList P ops Q rest (a.put o.dst (.tuple #[z,.bool false])) w):wpList P ops Q (o :: rest) a w:=by
 refine wpList_plain hg fun K' hK'=>?_
 have hrun:=((h.look ht hz k hk).2 hf).2;unfold Oper.wp
 simp[execOp,hop,hm,hx,hrun,Result.andThen]
 exact hK' _ _ hK
theorem gU [DecidableEq κ] (hg:o.guard=none) (m x v:Operand) (t e:TypeId) (hop:o.op=Op.mapUpdate t m x v) (h:bf K val w b n f) (ht:P.underlying t=some (.map K.k e)) (hn:n<maxLen) (k:κ) (hk:K.wf k) (y:ν)
  (hm:a.eval m=.map (some b)) (hx:a.eval x=K.key k) (hv:a.eval v=val y)
  (hK:∀ w',bf K val w' b (if (f k).isSome then n else n+1) (upd f k (some y))→w.mapTurned w' b→wpList P ops Q rest (a.put o.dst undef) w'):wpList P ops Q (o :: rest) a w:=by
 refine wpList_plain hg fun K' hK'=>?_
 obtain⟨w',hrun,r1,r2⟩:=h.put ht hn k hk y;unfold Oper.wp
 simp[execOp,hop,hm,hx,hv,hrun,Result.andThen]
 exact hK' _ _ (hK w' r1 r2)
end Go.Proofs.YtlofbhoicbemnaaGreatDoor
namespace Go.Proofs.YtlofbhoicbemnaaGreatDoor
open Go.RowKit Go.Maps
theorem ul {L:Array Bool} {i:Nat} (h:L.getD i true=false):(L.setIfInBounds i true).getD i false=true:=by
 have hi:i<L.size:=by
  rcases Nat.lt_or_ge i L.size with h1 | h1
  ·exact h1
  ·rw[Array.getD_eq_getD_getElem?,Array.getElem?_eq_none h1] at h;cases h
 rw[Array.getD_eq_getD_getElem?,Array.getElem?_setIfInBounds_self_of_lt hi]
 rfl
theorem xV (L:Array Bool) (i j:Nat):(L.setIfInBounds i true).setIfInBounds j true=(L.setIfInBounds j true).setIfInBounds i true:=by
 by_cases h:i=j
 ·rw[h]
 ·exact Array.setIfInBounds_comm true true h
def gz (L:Array Bool) (l:List Nat):Array Bool:=l.foldl (fun L i=>L.setIfInBounds i true) L
theorem yB (l:List Nat):∀ (L:Array Bool) (i:Nat),gz (L.setIfInBounds i true) l=(gz L l).setIfInBounds i true:=by
 induction l with
 | nil=>intro L i;rfl
 | cons x l ih =>
   intro L i
   show gz ((L.setIfInBounds i true).setIfInBounds x true) l=(gz (L.setIfInBounds x true) l).setIfInBounds i true
   rw[xV,ih]
theorem xK (L:Array Bool) (l1 l2:List Nat) (x:Nat):gz (L.setIfInBounds x true) (l1 ++ l2)=gz L (l1 ++ x :: l2):=by
 unfold gz;rw[List.foldl_append,List.foldl_append,List.foldl_cons];have:=yB l1 L x;unfold gz at this;rw[this]
variable {P:Program} {κ ν:Type} [DecidableEq κ] {K:KeyTy P κ} {val:ν→Value} {md:Region.Mode} {ops:Array Oper} {Q:Exit→Act→World→Prop} {S:World→Prop}
def Ih (K:KeyTy P κ) (val:ν→Value) (md:Region.Mode) (ops:Array Oper) (t:TypeId) (a:Act) (b:Nat) (L:Array Bool) (x:Nat × κ × ν):Prop :=
 (∃ o m k v,ops[x.1]?=some o∧o.guard=none∧o.dst=none∧o.op=.insert t m k v∧a.eval m=.map (some b)∧a.eval k=K.key x.2.1∧a.eval v=val x.2.2∧∀ d ∈ o.after,Region.binds md d=true→L.getD d.on false=true)∧K.wf x.2.1∧L.getD x.1 true=false
theorem yT {t e:TypeId} (ht:P.underlying t=some (.map K.k e)) (a:Act) (b:Nat) (R:World→Prop) (hRS:∀ w,R w→S w) (hR:∀ w w',R w→w.mapTurned w' b→R w') (fuel:Nat) :
  ∀ (N:Nat) (Rm:List (Nat × κ × ν)),Rm.length=N→∀ (L:Array Bool) (f:κ→Option ν) (c:Nat) (w:World),
   (∀ x ∈ Rm,Ih K val md ops t a b L x)→(Rm.map (·.1)).Nodup→(Rm.map (·.2.1)).Nodup →
   (∀ j o,ops[j]?=some o→L.getD j true=false→(∀ x ∈ Rm,x.1≠j)→∀ x ∈ Rm,∃ d ∈ o.after,Region.binds md d=true∧d.on=x.1) →
   bf K val w b c f→c+N<maxLen→R w →
   (∀ w' n g,n≤c+N→bf K val w' b n g→(∀ x ∈ Rm,g x.2.1=some x.2.2)→(∀ k,(∀ x ∈ Rm,x.2.1≠k)→g k=f k)→R w'→wpAnyH P md ops Q S fuel (gz L (Rm.map (·.1))) a w') →
   wpAnyH P md ops Q S (N+fuel) L a w:=by
 intro N
 induction N with
 | zero =>
   intro Rm hN L f c w _ _ _ _ hm _ hr hfin;have:Rm=[]:=List.length_eq_zero_iff.1 hN;subst this;have:=hfin w c f (by omega) hm (fun x hx=>by cases hx) (fun k _=>rfl) hr;rw[Nat.zero_add];exact this
 | succ N ih =>
   intro Rm hN L f c w hok hnd hkd hlate hm hc hr hfin;rw[show N+1+fuel=(N+fuel)+1 from by omega];have hready:∀ i,i ∈ Region.ready md ops L↔∃ x ∈ Rm,x.1=i:=fun i=>by
    rw[mem_ready]
    constructor
    ·rintro⟨h0,o,ho,hall⟩
     by_cases hx:∃ x ∈ Rm,x.1=i
     ·exact hx
     ·exfalso
      have hne:∀ x ∈ Rm,x.1≠i:=fun x hx1 hx2=>hx ⟨x,hx1,hx2⟩
      match Rm,hN with
      | y :: _,_ =>
        obtain⟨d,hd,hb,he⟩:=hlate i o ho h0 hne y (List.mem_cons_self ..);have h1:=hall d hd hb;rw[he] at h1;have h2:=(hok y (List.mem_cons_self ..)).2.2;have hi:y.1<L.size:=by
         rcases Nat.lt_or_ge y.1 L.size with h3 | h3
         ·exact h3
         ·rw[Array.getD_eq_getD_getElem?,Array.getElem?_eq_none h3] at h2;cases h2
        rw[Array.getD_eq_getD_getElem?,Array.getElem?_eq_getElem hi] at h1 h2
        simp at h1 h2
        rw[h1] at h2
        cases h2
    ·rintro⟨x,hx,rfl⟩
     obtain⟨⟨o,m,k,v,ho,_,_,_,_,_,_,hall⟩,_,h0⟩:=hok x hx;exact⟨h0,o,ho,hall⟩
   refine⟨fun h=>?_,fun i hi=>?_⟩
   ·match Rm,hN with
    | y :: _,_ =>
      have:=(hready y.1).2 ⟨y,List.mem_cons_self ..,rfl⟩;rw[h] at this
      cases this
   ·obtain⟨x,hx,rfl⟩:=(hready i).1 hi
    obtain⟨⟨o,m,k,v,ho,hg,hdst,hop,em,ek,ev,hall⟩,hwf,h0⟩:=hok x hx;obtain⟨w',hrun,hm',htn⟩:=hm.put ht (by omega) x.2.1 hwf x.2.2;obtain⟨l1,l2,hl⟩:=List.append_of_mem hx;have hR':=hR w w' hr htn;have hgoal:wpAnyH P md ops Q S (N+fuel) (L.setIfInBounds x.1 true) a w':=by
     subst hl;rw[List.map_append,List.map_cons] at hnd hkd;have hn1:=hnd;rw[List.nodup_append] at hn1;obtain⟨n1,n2,n3⟩:=hn1;rw[List.nodup_cons] at n2;have hk1:=hkd;rw[List.nodup_append] at hk1;obtain⟨k1,k2,k3⟩:=hk1;rw[List.nodup_cons] at k2;have hdi:∀ y ∈ l1 ++ l2,y.1≠x.1:=fun y hy e=>by
      rcases List.mem_append.1 hy with h | h
      ·exact n3 _ (List.mem_map_of_mem h) _ (List.mem_cons_self ..) e
      ·exact n2.1 (e ▸ List.mem_map_of_mem h)
     have hdk:∀ y ∈ l1 ++ l2,y.2.1≠x.2.1:=fun y hy e=>by
      rcases List.mem_append.1 hy with h | h
      ·exact k3 _ (List.mem_map_of_mem h) _ (List.mem_cons_self ..) e
      ·exact k2.1 (e ▸ List.mem_map_of_mem h)
     have hsub:∀ y ∈ l1 ++ l2,y ∈ l1 ++ x :: l2:=fun y hy=>by
      rcases List.mem_append.1 hy with h | h
      ·exact List.mem_append_left _ h
      ·exact List.mem_append_right _ (List.mem_cons_of_mem _ h)
     refine ih (l1 ++ l2) (by simp at hN ⊢;omega) _ (upd f x.2.1 (some x.2.2)) (if (f x.2.1).isSome then c else c+1) w' (fun y hy=>?_) ?_ ?_ (fun j o' ho' hj hne y hy=>?_) hm' (by split <;> omega) hR' (fun w2 n g hn hg hg1 hg2 hr2=>?_)
     ·obtain⟨⟨o',m',k',v',q1,q2,q3,q4,q5,q6,q7,q8⟩,q9,q10⟩:=hok y (hsub y hy)
      exact⟨⟨o',m',k',v',q1,q2,q3,q4,q5,q6,q7,fun d hd hb=>getD_set_true (q8 d hd hb)⟩,q9,by rw[getD_set_ne true (Ne.symm (hdi y hy))];exact q10⟩
     ·rw[List.map_append,List.nodup_append]
      exact⟨n1,n2.2,fun u hu z hz=>n3 u hu z (List.mem_cons_of_mem _ hz)⟩
     ·rw[List.map_append,List.nodup_append]
      exact⟨k1,k2.2,fun u hu z hz=>k3 u hu z (List.mem_cons_of_mem _ hz)⟩
     ·by_cases hjx:j=x.1
      ·subst hjx
       exfalso
       have:=ul h0;have hi:x.1<(L.setIfInBounds x.1 true).size:=by
        rcases Nat.lt_or_ge x.1 (L.setIfInBounds x.1 true).size with h3 | h3
        ·exact h3
        ·rw[Array.getD_eq_getD_getElem?,Array.getElem?_eq_none h3] at this;cases this
       rw[Array.getD_eq_getD_getElem?,Array.getElem?_eq_getElem hi] at hj this
       simp at hj this
      ·refine hlate j o' ho' (by rw[getD_set_ne true (Ne.symm hjx)] at hj;exact hj) (fun z hz=>?_) y (hsub y hy)
       rcases List.mem_append.1 hz with h | h
       ·exact hne z (List.mem_append_left _ h)
       ·rcases List.mem_cons.1 h with rfl | h
        ·exact fun e=>hjx e.symm
        ·exact hne z (List.mem_append_right _ h)
     ·have hlist:gz (L.setIfInBounds x.1 true) ((l1 ++ l2).map (·.1))=gz L ((l1 ++ x :: l2).map (·.1)):=by
       rw[List.map_append,List.map_append,List.map_cons,xK]
      rw[hlist];refine hfin w2 n g (Nat.le_trans hn (by split <;> omega)) hg (fun y hy=>?_) (fun k hk=>?_) hr2
      ·rcases List.mem_append.1 hy with h | h
       ·exact hg1 y (List.mem_append_left _ h)
       ·rcases List.mem_cons.1 h with rfl | h
        ·rw[hg2 _ hdk];simp[upd]
        ·exact hg1 y (List.mem_append_right _ h)
      ·rw[hg2 k (fun z hz=>hk z (hsub z hz))]
       have:k≠x.2.1:=fun e=>hk x hx e.symm
       simp[upd,this]
    have hgo:S w'∧wpAnyH P md ops Q S (N+fuel) (L.setIfInBounds x.1 true) a w':=⟨hRS w' hR',hgoal⟩;unfold wpOp;rw[ho];have hw:Region.wanted o (yielded ops a.tmps)=true:=by unfold Region.wanted;rw[hg]
    simp only[hw,if_true]
    left
    unfold Oper.wp;simp only[execOp,hop,em,ek,ev]
    simp[hrun,Result.andThen]
    rw[Oper.upon_skip,hdst];exact hgo
theorem rV {t e:TypeId} (ht:P.underlying t=some (.map K.k e)) (a:Act) (b:Nat) (R:World→Prop) (hRS:∀ w,R w→S w) (hR:∀ w w',R w→w.mapTurned w' b→R w') (fuel N:Nat) (Rm:List (Nat × κ × ν)) (hN:Rm.length=N) (L:Array Bool) (w:World)
  (hB:((Rm.map (·.1)).all fun i=>match ops[i]? with | some o=>o.guard.isNone && o.dst.isNone && o.after.all (fun d=>!Region.binds md d || L.getD d.on false) && !(L.getD i true) | none=>false)=true)
  (hop:∀ x ∈ Rm,(∃ m k v,(ops[x.1]?.map (·.op))=some (.insert t m k v)∧a.eval m=.map (some b)∧a.eval k=K.key x.2.1∧a.eval v=val x.2.2)∧K.wf x.2.1) (hnd:(Rm.map (·.1)).Nodup) (hkd:(Rm.map (·.2.1)).Nodup)
  (hlate:((List.range ops.size).all fun j=>L.getD j true || (Rm.map (·.1)).contains j || match ops[j]? with | some o=>(Rm.map (·.1)).all fun i=>o.after.any fun d=>Region.binds md d && d.on == i | none=>true)=true)
  (hm:bf K val w b 0 (fun _=>none)) (hc:N<maxLen) (hr:R w)
  (hfin:∀ w' n g,n≤N→bf K val w' b n g→(∀ x ∈ Rm,g x.2.1=some x.2.2)→(∀ k,(∀ x ∈ Rm,x.2.1≠k)→g k=none)→R w'→wpAnyH P md ops Q S fuel (gz L (Rm.map (·.1))) a w') :
  wpAnyH P md ops Q S (N+fuel) L a w:=by
 refine yT ht a b R hRS hR fuel N Rm hN L (fun _=>none) 0 w (fun x hx=>?_) hnd hkd (fun j o ho hj hne x hx=>?_) hm (by omega) hr (fun w' n g hn hg h1 h2 h3=>hfin w' n g (by omega) hg h1 h2 h3)
 ·obtain⟨⟨m,k,v,h1,h2,h3,h4⟩,hwf⟩:=hop x hx
  have hb:=List.all_eq_true.1 hB x.1 (List.mem_map_of_mem hx)
  cases ho:ops[x.1]? with
  | none=>rw[ho] at h1;cases h1
  | some o =>
    rw[ho] at h1 hb;simp only[Bool.and_eq_true,Bool.not_eq_true',Option.isNone_iff_eq_none] at hb;obtain⟨⟨⟨g1,g2⟩,g3⟩,g4⟩:=hb;refine⟨⟨o,m,k,v,ho,g1,g2,by simpa using h1,h2,h3,h4,fun d hd hbd=>?_⟩,hwf,g4⟩;rw[Array.all_eq_true] at g3;obtain⟨i,hi,rfl⟩:=Array.mem_iff_getElem.1 hd;have:=g3 i hi;rw[hbd] at this
    simpa using this
 ·have hlt:j<ops.size:=by
   rcases Nat.lt_or_ge j ops.size with h | h
   ·exact h
   ·rw[Array.getElem?_eq_none h] at ho;cases ho
  have h:=List.all_eq_true.1 hlate j (List.mem_range.2 hlt);rw[ho,hj] at h;have hnc:(Rm.map (·.1)).contains j=false:=by
   rw[Bool.eq_false_iff];intro hc;rw[List.contains_iff_mem] at hc;obtain⟨y,hy,he⟩:=List.mem_map.1 hc;exact hne y hy he
  rw[hnc] at h;simp only[Bool.false_or] at h;have:=List.all_eq_true.1 h x.1 (List.mem_map_of_mem hx);rw[Array.any_eq_true] at this;obtain⟨i,hi,hd⟩:=this;simp only[Bool.and_eq_true,beq_iff_eq] at hd;exact⟨_,Array.getElem_mem hi,hd.1,hd.2⟩
end Go.Proofs.YtlofbhoicbemnaaGreatDoor
namespace Go.Proofs.YtlofbhoicbemnaaGreatDoor
open Go.ChangeShapes Go.WideShapes Go.ChangeAt Go.RowKit
theorem A9 (x y:Ins) (w:World):(Op.equalIn 10000 63 (.agg #[.int .i64 x.op,.int .i64 x.a,.int .i64 x.b,.int .i64 x.c]) (.agg #[.int .i64 y.op,.int .i64 y.a,.int .i64 y.b,.int .i64 y.c])).run Tryz.prog w=.ok (decide (x=y)) w:=by
 obtain⟨x0,x1,x2,x3⟩:=x;obtain⟨y0,y1,y2,y3⟩:=y
 by_cases h0:x0=y0
 ·by_cases h1:x1=y1
  ·by_cases h2:x2=y2
   ·by_cases h3:x3=y3
    ·subst h0 h1 h2 h3;go_simp
    ·subst h0 h1 h2
     have:(x3 == y3)=false:=by simpa using h3
     go_simp
   ·subst h0 h1
    have:(x2 == y2)=false:=by simpa using h2
    go_simp
  ·subst h0
   have:(x1 == y1)=false:=by simpa using h1
   go_simp
 ·have:(x0 == y0)=false:=by simpa using h0
  go_simp
theorem Ca (w:World) (D D':Nat→Prop) (p q:Prg) (c0 c1 c2 d0 d1 d2:Value) (hp:aD w D p c0 c1 c2) (hq:aD w D' q d0 d1 d2) (hnp:oO p) (hnq:oO q) :
  Calls Tryz.prog 20 #[.agg #[c0,c1,c2],.agg #[d0,d1,d2]] w fun e w'=>e=.returned (.bool (decide (p=q)))∧Below w.heap.size w w':=by
 have hpq:=JO p q;rw[hpq];clear hpq;obtain⟨⟨a0,m0,rfl,hs0⟩,⟨a1,m1,rfl,hs1⟩,a2,m2,rfl,hs2⟩:=hp;obtain⟨⟨b0,n0,rfl,ht0⟩,⟨b1,n1,rfl,ht1⟩,b2,n2,rfl,ht2⟩:=hq;have hsh:∀ x ∈ p.shapes,x.length≤1000000:=fun x hx=>by have:=qR dH p.shapes x hx;unfold oO bulk at hnp;unfold dH at *;omega
 have hsh':∀ x ∈ q.shapes,x.length≤1000000:=fun x hx=>by have:=qR dH q.shapes x hx;unfold oO bulk at hnq;unfold dH at *;omega
 have hfn:∀ x ∈ p.funcs,cz x≤1000000:=fun x hx=>by have:=qR cz p.funcs x hx;unfold oO bulk at hnp;omega
 have hfn':∀ x ∈ q.funcs,cz x≤1000000:=fun x hx=>by have:=qR cz q.funcs x hx;unfold oO bulk at hnq;omega
 unfold oO bulk at hnp hnq;have i0:∀ wr,Below w.heap.size w wr→Calls Tryz.prog 54 #[.slice a0 p.globals.length m0,.slice b0 q.globals.length n0] wr fun e w'=>e=.returned (.bool (decide (p.globals=q.globals)))∧Below wr.heap.size wr w':=fun wr hb =>
  Calls.drawn (mU wr D D' a0 b0 _ _ m0 n0 (hs0.fr (fb_ hb) (fun _ _ h=>h)) (ht0.fr (fb_ hb) (fun _ _ h=>h)) (by omega) (by omega))
 have hbx:=nz w #[.slice a0 p.globals.length m0,.slice a1 p.shapes.length m1,.slice a2 p.funcs.length m2] #[.slice b0 q.globals.length n0,.slice b1 q.shapes.length n1,.slice b2 q.funcs.length n2] 48 48;have hB0:Below w.heap.size w ((w.alloc (.cells #[.slice a0 p.globals.length m0,.slice a1 p.shapes.length m1,.slice a2 p.funcs.length m2] 48)).alloc (.cells #[.slice b0 q.globals.length n0,.slice b1 q.shapes.length n1,.slice b2 q.funcs.length n2] 48)):=((Below.refl _ _).alloc (Nat.le_refl _) _).alloc (by simp) _;obtain⟨W0,hW0⟩:∃ W0,W0=(w.alloc (.cells #[.slice a0 p.globals.length m0,.slice a1 p.shapes.length m1,.slice a2 p.funcs.length m2] 48)).alloc (.cells #[.slice b0 q.globals.length n0,.slice b1 q.shapes.length n1,.slice b2 q.funcs.length n2] 48):=⟨_,rfl⟩;rw[← hW0] at hbx hB0;have hz0:W0.heap.size=w.heap.size+2:=by rw[hW0];simp
 have hlp:p.shapes.length≤1000000∧p.funcs.length≤1000000:=by omega
 have hlq:q.shapes.length≤1000000∧q.funcs.length≤1000000:=by omega
 obtain⟨hlp1,hlp2⟩:=hlp;obtain⟨hlq1,hlq2⟩:=hlq;clear hnp hnq hs0 ht0;generalize hu0:decide (p.globals=q.globals)=u0 at *;generalize hu1:decide (p.shapes=q.shapes)=u1 at *;generalize hu2:decide (p.funcs=q.funcs)=u2 at *;clear hu0;have HU1:=k_ hu1;clear hu1;have HU2:=k_ hu2;clear hu2;have HSH:=k_ hsh;clear hsh;have HSH':=k_ hsh';clear hsh';have HFN:=k_ hfn;clear hfn;have HFN':=k_ hfn';clear hfn';have I0:=k_ i0;clear i0;have HBX:=k_ hbx;clear hbx;have HB0:=k_ hB0;clear hB0;have HW0:=k_ hW0;clear hW0;have HZ0:=k_ hz0;clear hz0;have HS1:=k_ hs1;clear hs1;have HS2:=k_ hs2;clear hs2;have HT1:=k_ ht1;clear ht1;have HT2:=k_ ht2;clear ht2
 go_enter Tryz.func20,Tryz.ntmps20
 go_wp2_with fail;rw[← HW0.out];refine(I0.out _ HB0.out).mono ?_;rintro e w1 ⟨rfl,hb1⟩;rw[HZ0.out] at hb1;have hx:=HBX.out w1 hb1;obtain⟨hx1,hx2,hbw,hsz⟩:=hx;have q1:=hx1 1 _ rfl;have q2:=hx1 2 _ rfl;have r1:=hx2 1 _ rfl;have r2:=hx2 2 _ rfl;clear hx1 hx2;have HBW:=k_ hbw;clear hbw;have HB1:=k_ hb1;clear hb1
 cases u0
 ·go_wp2_with fail
  go_ret
  exact⟨rfl,HBW.out⟩
 by_cases hl1:p.shapes.length=q.shapes.length
 case neg =>
  have h1:((p.shapes.length:Int) != (q.shapes.length:Int))=true:=by rw[bne_iff_ne];omega
  have h2:decide (p.shapes=q.shapes)=false:=by simp;intro h;rw[h] at hl1;exact hl1 rfl
  rw[HU1.out] at h2;subst h2;clear hl1;go_wp2_with fail
  go_ret
  exact⟨rfl,HBW.out⟩
 by_cases hl2:p.funcs.length=q.funcs.length
 case neg =>
  have h1:((p.shapes.length:Int) != (q.shapes.length:Int))=false:=by rw[bne_eq_false_iff_eq];omega
  have h3:((p.funcs.length:Int) != (q.funcs.length:Int))=true:=by rw[bne_iff_ne];omega
  have h2:decide (p.funcs=q.funcs)=false:=by simp;intro h;rw[h] at hl2;exact hl2 rfl
  rw[HU2.out] at h2;subst h2;clear hl1 hl2;go_wp2_with fail
  go_ret
  exact⟨by cases u1 <;> rfl,HBW.out⟩
 have h1:((p.shapes.length:Int) != (q.shapes.length:Int))=false:=by rw[bne_eq_false_iff_eq];omega
 have h3:((p.funcs.length:Int) != (q.funcs.length:Int))=false:=by rw[bne_eq_false_iff_eq];omega
 have HL1:=k_ hl1;have HL2:=k_ hl2;clear hl1 hl2;go_wp2_with fail;clear h1 h3 q1 q2 r1 r2
 go_loopw [5] (fun i wr=>∃ k:Nat,k≤p.shapes.length∧i=.int .i64 k∧p.shapes.take k=q.shapes.take k∧Below (w.heap.size+2) W0 wr) (fun i _=>p.shapes.length - (intOf i).toNat)
 case atStart=>exact⟨0,Nat.zero_le _,rfl,rfl,HB1.out⟩
 case round =>
  obtain⟨k,hk,rfl,ht,hB⟩:=hrel;obtain⟨hx1,hx2,hbw,hsz2⟩:=HBX.out wr hB;have q1:=hx1 1 _ rfl;have q2:=hx1 2 _ rfl;have r1:=hx2 1 _ rfl;have r2:=hx2 2 _ rfl;clear hx1 hx2 HBW;have HBW:=k_ hbw;clear hbw
  by_cases hlt:k<p.shapes.length
  ·have hlt2:k<q.shapes.length:=by have:=HL1.out;omega
   obtain⟨b,o,rfl,_,x1,x2,hx,hxs⟩:=HS1.out k hlt;obtain⟨b',o',rfl,_,y1,y2,hy,hys⟩:=HT1.out k hlt2;have hx:=ae HBW.out hx;have hy:=ae HBW.out hy;have hst:=kT p.shapes q.shapes k hlt hlt2 ht;have ri:=fun n=>mU (wr.drewN n) D D' x1 y1 p.shapes[k] q.shapes[k] x2 y2 (hxs.fr ((fb_ HBW.out).drewN n) (fun _ _ h=>h)) (hys.fr ((fb_ HBW.out).drewN n) (fun _ _ h=>h)) (HSH.out _ (List.getElem_mem hlt)) (HSH'.out _ (List.getElem_mem hlt2))
   clear hxs hys ht;have HST:=k_ hst;clear hst;have RI:=k_ ri;clear ri;have HB:=k_ hB;clear hB
   cases hd:decide (p.shapes[k]=q.shapes[k])
   ·have hno:=HST.out.2 hd
    rw[HU1.out] at hno;rw[hd] at RI;subst hno;clear hd;go_wp2_with fail
    go_quiet ((go_at_call 54;exact Calls.quiet_of (RI.out _)))
    go_wp2_with fail
    go_ret
    exact⟨rfl,below_drewN HBW.out _⟩
   ·have hyes:=HST.out.1 hd
    rw[hd] at RI;have HYES:=k_ hyes;clear hyes;clear hd;go_wp2_with fail
    go_quiet ((go_at_call 54;exact Calls.quiet_of (RI.out _)))
    go_wp2_with fail
    go_roundw
    case rel=>exact⟨k+1,by omega,by go_num,HYES.out,below_drewN HB.out _⟩
    case measure=>simp[intOf];omega
  ·have hd:decide (p.shapes=q.shapes)=true:=by
    have h:=HL1.out;have hk2:k=p.shapes.length:=by omega
    rw[hk2,List.take_length,List.take_of_length_le (by omega)] at ht
    simpa using ht
   rw[HU1.out] at hd;subst hd;have HB:=k_ hB;clear hB;clear ht;go_wp2_with fail;clear q1 q2 r1 r2
   go_loopw [6] (fun i wr=>∃ k:Nat,k≤p.funcs.length∧i=.int .i64 k∧p.funcs.take k=q.funcs.take k∧Below (w.heap.size+2) W0 wr) (fun i _=>p.funcs.length - (intOf i).toNat)
   case atStart=>exact⟨0,Nat.zero_le _,rfl,rfl,HB.out⟩
   case round =>
    obtain⟨j,hj,rfl,ht,hB2⟩:=hrel;clear HBW;obtain⟨hx1,hx2,hbw,hsz3⟩:=HBX.out wr hB2;have q2:=hx1 2 _ rfl;have r2:=hx2 2 _ rfl;clear hx1 hx2;have HBW:=k_ hbw;clear hbw
    by_cases hlt2:j<p.funcs.length
    ·have hlt3:j<q.funcs.length:=by have:=HL2.out;omega
     obtain⟨b,o,rfl,_,x0,x1,x2,x3,x4,p0,p1,p2,p3,p4,⟨e1,e2,⟨s0,s1,e3,hxs0⟩,⟨s2,s3,e4,hxs3⟩,s4,s5,e5,hxs4⟩⟩:=HS2.out j hlt2;obtain⟨b',o',rfl,_,y0,y1,y2,y3,y4,t0,t1,t2,t3,t4,⟨g1,g2,⟨y5,y6,g3,hys0⟩,⟨y7,y8,g4,hys3⟩,y9,y10,g5,hys4⟩⟩:=HT2.out j hlt3;subst e1 e2 e3 e4 e5 g1 g2 g3 g4 g5;have p0:=ae HBW.out p0;have p1:=ae HBW.out p1;have p2:=ae HBW.out p2;have p3:=ae HBW.out p3;have p4:=ae HBW.out p4;have t0:=ae HBW.out t0;have t1:=ae HBW.out t1;have t2:=ae HBW.out t2;have t3:=ae HBW.out t3;have t4:=ae HBW.out t4;have hst:=kT p.funcs q.funcs j hlt2 hlt3 ht;have hfe:=Ju p.funcs[j] q.funcs[j];rw[hfe,HU2.out] at hst;have hb1:=HFN.out _ (List.getElem_mem hlt2);have hb2:=HFN'.out _ (List.getElem_mem hlt3);unfold cz at hb1 hb2;have call0:=fun W (hb:Below wr.heap.size wr W)=>mU W D D' s0 y5 p.funcs[j].args q.funcs[j].args s1 y6 (hxs0.fr ((fb_ HBW.out).trans (fb_ hb) (fun _ _ h=>h)) (fun _ _ h=>h)) (hys0.fr ((fb_ HBW.out).trans (fb_ hb) (fun _ _ h=>h)) (fun _ _ h=>h)) (by omega) (by omega)
     have call3:=fun W (hb:Below wr.heap.size wr W)=>mU W D D' s2 y7 p.funcs[j].objects q.funcs[j].objects s3 y8 (hxs3.fr ((fb_ HBW.out).trans (fb_ hb) (fun _ _ h=>h)) (fun _ _ h=>h)) (hys3.fr ((fb_ HBW.out).trans (fb_ hb) (fun _ _ h=>h)) (fun _ _ h=>h)) (by omega) (by omega)
     have code1:=fun W (hb:Below wr.heap.size wr W)=>hxs4.fr ((fb_ HBW.out).trans (fb_ hb) (fun _ _ h=>h)) (fun _ _ h=>h)
     have code2:=fun W (hb:Below wr.heap.size wr W)=>hys4.fr ((fb_ HBW.out).trans (fb_ hb) (fun _ _ h=>h)) (fun _ _ h=>h)
     clear ht hfe hxs0 hxs3 hxs4 hys0 hys3 hys4;generalize hv0:decide (p.funcs[j].args=q.funcs[j].args)=v0 at *;generalize hv3:decide (p.funcs[j].objects=q.funcs[j].objects)=v3 at *;generalize hv4:decide (p.funcs[j].code=q.funcs[j].code)=v4 at *;generalize p.funcs[j].result=r1 at *;generalize q.funcs[j].result=r2 at *;generalize p.funcs[j].slots=l1 at *;generalize q.funcs[j].slots=l2 at *;generalize p.funcs[j].args=ar1 at *;generalize q.funcs[j].args=ar2 at *;generalize p.funcs[j].objects=ob1 at *;generalize q.funcs[j].objects=ob2 at *;generalize p.funcs[j].code=cd1 at *;generalize q.funcs[j].code=cd2 at *;have hcl1:cd1.length≤1000000:=by omega
     have hcl2:cd2.length≤1000000:=by omega
     clear hb1 hb2 hv0 hv3;have HST:=k_ hst;clear hst;have HB2:=k_ hB2;clear hB2;have HV4:=k_ hv4;clear hv4;have CALL0:=k_ call0;clear call0;have CALL3:=k_ call3;clear call3;have CODE1:=k_ code1;clear code1;have CODE2:=k_ code2;clear code2;have z0:w.heap.size<wr.heap.size:=by omega
     have z1:w.heap.size+1<wr.heap.size:=by omega
     have z2:=World.block_lt p0;have z3:=World.block_lt t0
     dsimp only at z2 z3
     go_upto_region 11 with fail
     go_cut [7,8] (fun s7 s8 wx=>∃ F G:Nat,s7=.pointer (some ⟨F,0,none⟩)∧s8=.pointer (some ⟨G,0,none⟩)∧(wx.cell? ⟨F,0,none⟩=some (.slice s0 ar1.length s1)∧wx.cell? ⟨F,1,none⟩=some (.int .i64 r1)∧wx.cell? ⟨F,2,none⟩=some (.int .i64 l1)∧wx.cell? ⟨F,3,none⟩=some (.slice s2 ob1.length s3)∧wx.cell? ⟨F,4,none⟩=some (.slice s4 cd1.length s5))∧(wx.cell? ⟨G,0,none⟩=some (.slice y5 ar2.length y6)∧wx.cell? ⟨G,1,none⟩=some (.int .i64 r2)∧wx.cell? ⟨G,2,none⟩=some (.int .i64 l2)∧wx.cell? ⟨G,3,none⟩=some (.slice y7 ob2.length y8)∧wx.cell? ⟨G,4,none⟩=some (.slice y9 cd2.length y10))∧Below wr.heap.size wr wx)
     case first =>
      go_region
      all_goals
       go_wp2_with fail
       go_meet
       case rel =>
        have h1:=J5 wr #[.slice s0 ar1.length s1,.int .i64 r1,.int .i64 l1,.slice s2 ob1.length s3,.slice s4 cd1.length s5] #[.slice y5 ar2.length y6,.int .i64 r2,.int .i64 l2,.slice y7 ob2.length y8,.slice y9 cd2.length y10] 66 66;have h2:=J5 wr #[.slice y5 ar2.length y6,.int .i64 r2,.int .i64 l2,.slice y7 ob2.length y8,.slice y9 cd2.length y10] #[.slice s0 ar1.length s1,.int .i64 r1,.int .i64 l1,.slice s2 ob1.length s3,.slice s4 cd1.length s5] 66 66
        first
        | exact⟨_,_,rfl,rfl,⟨h1.1 0 _ rfl,h1.1 1 _ rfl,h1.1 2 _ rfl,h1.1 3 _ rfl,h1.1 4 _ rfl⟩,⟨h1.2.1 0 _ rfl,h1.2.1 1 _ rfl,h1.2.1 2 _ rfl,h1.2.1 3 _ rfl,h1.2.1 4 _ rfl⟩,h1.2.2⟩
        | exact⟨_,_,rfl,rfl,⟨h2.2.1 0 _ rfl,h2.2.1 1 _ rfl,h2.2.1 2 _ rfl,h2.2.1 3 _ rfl,h2.2.1 4 _ rfl⟩,⟨h2.1 0 _ rfl,h2.1 1 _ rfl,h2.1 2 _ rfl,h2.1 3 _ rfl,h2.1 4 _ rfl⟩,h2.2.2⟩
     case rest =>
      obtain⟨F,G,rfl,rfl,⟨f0,f1,f2,f3,f4⟩,⟨g0,g1,g2,g3,g4⟩,hbl⟩:=hcut;have HBL:=k_ hbl;clear hbl;clear p0 p1 p2 p3 p4 t0 t1 t2 t3 t4 z0 z1 z2 z3;go_wp2_with fail;refine(CALL0.out _ HBL.out).mono ?_;rintro e w1 ⟨rfl,n1,rfl⟩
      cases v0
      ·skip
       have hno:=HST.out.2 (by simp[*]);subst hno;go_wp2_with fail
       go_ret
       exact⟨rfl,by first | exact below_drewN (HBW.out.trans (HBL.out.mono HBW.out.size)) _ | exact below_drewN (below_drewN (HBW.out.trans (HBL.out.mono HBW.out.size)) _) _⟩
      by_cases h1:r1=r2
      case neg =>
       have h1':(r1 == r2)=false:=by simpa using h1
       have h1'':(r1 != r2)=true:=by simpa using h1
       have hno:=HST.out.2 (by simp[*]);subst hno;go_wp2_with fail
       go_ret
       exact⟨rfl,by first | exact below_drewN (HBW.out.trans (HBL.out.mono HBW.out.size)) _ | exact below_drewN (below_drewN (HBW.out.trans (HBL.out.mono HBW.out.size)) _) _⟩
      subst h1
      by_cases h2:l1=l2
      case neg =>
       have h2':(l1 == l2)=false:=by simpa using h2
       have h2'':(l1 != l2)=true:=by simpa using h2
       have hno:=HST.out.2 (by simp[*]);subst hno;go_wp2_with fail
       go_ret
       exact⟨rfl,by first | exact below_drewN (HBW.out.trans (HBL.out.mono HBW.out.size)) _ | exact below_drewN (below_drewN (HBW.out.trans (HBL.out.mono HBW.out.size)) _) _⟩
      subst h2;go_wp2_with fail;refine(CALL3.out _ (below_drewN HBL.out _)).mono ?_;rintro e w1 ⟨rfl,n2,rfl⟩
      cases v3
      ·skip
       have hno:=HST.out.2 (by simp[*]);subst hno;go_wp2_with fail
       go_ret
       exact⟨rfl,by first | exact below_drewN (HBW.out.trans (HBL.out.mono HBW.out.size)) _ | exact below_drewN (below_drewN (HBW.out.trans (HBL.out.mono HBW.out.size)) _) _⟩
      by_cases h3:cd1.length=cd2.length
      case neg =>
       have h3':((cd1.length:Int) != (cd2.length:Int))=true:=by rw[bne_iff_ne];omega
       have h4:v4=false:=by rw[← HV4.out];simp;intro h;rw[h] at h3;exact h3 rfl
       subst h4;clear h3;have hno:=HST.out.2 (by simp[*]);subst hno;go_wp2_with fail
       go_ret
       exact⟨rfl,by first | exact below_drewN (HBW.out.trans (HBL.out.mono HBW.out.size)) _ | exact below_drewN (below_drewN (HBW.out.trans (HBL.out.mono HBW.out.size)) _) _⟩
      have h3':((cd1.length:Int) != (cd2.length:Int))=false:=by rw[bne_eq_false_iff_eq];omega
      have H3:=k_ h3;clear h3;go_wp2_with fail;clear h3'
      go_loopw [9] (fun i wx=>∃ m:Nat,m≤cd1.length∧i=.int .i64 m∧cd1.take m=cd2.take m∧wx.cell? ⟨F,4,none⟩=some (.slice s4 cd1.length s5)∧wx.cell? ⟨G,4,none⟩=some (.slice y9 cd2.length y10)∧Below wr.heap.size wr wx) (fun i _=>cd1.length - (intOf i).toNat)
      case atStart=>exact⟨0,Nat.zero_le _,rfl,rfl,f4,g4,by first | exact below_drewN HBL.out _ | exact below_drewN (below_drewN HBL.out _) _⟩
      case round =>
       obtain⟨m,hm,rfl,ht,c1,c2,hBx⟩:=hrel
       by_cases hlt:m<cd1.length
       ·have hlt2:m<cd2.length:=by have:=H3.out;omega
        obtain⟨b1,o1,rfl,_,e0,e1,e2,e3⟩:=CODE1.out _ hBx m hlt;obtain⟨b2,o2,rfl,_,g0,g1,g2,g3⟩:=CODE2.out _ hBx m hlt2;have hs:=kT cd1 cd2 m hlt hlt2 ht;rw[HV4.out] at hs;clear ht;generalize cd1[m]=x at *;generalize cd2[m]=y at *
        by_cases hxy:x=y
        ·subst hxy
         have hs2:=hs.1 (by simp);clear hs;have HS2:=k_ hs2;clear hs2;have HBX:=k_ hBx;clear hBx;go_wp2_with fail
         go_quiet (fail)
         go_wp2_with fail
         go_roundw
         case rel=>exact⟨m+1,by omega,by go_num,HS2.out,c1,c2,below_drewN HBX.out _⟩
         case measure=>simp[intOf];omega
        ·have h4:=hs.2 (by simpa using hxy)
         subst h4;clear hs;have hno:=HST.out.2 (by simp);subst hno;have HBX:=k_ hBx;clear hBx;have he:=A9 x y;rw[show decide (x=y)=false from by simpa using hxy] at he;clear hxy;go_wp2_with fail
         go_quiet (fail)
         go_wp2_with fail
         go_ret
         exact⟨rfl,HBW.out.trans ((below_drewN HBX.out _).mono HBW.out.size)⟩
       ·have h4:v4=true:=by
         rw[← HV4.out];have h:=H3.out;have hk2:m=cd1.length:=by omega
         rw[hk2,List.take_length,List.take_of_length_le (by omega)] at ht
         simpa using ht
        subst h4;have hyes:=HST.out.1 (by simp);have HYES:=k_ hyes;clear hyes;have HBX:=k_ hBx;clear hBx;clear ht;go_wp2_with fail
        go_roundw
        case rel=>exact⟨j+1,by omega,by go_num,HYES.out,HB2.out.trans (HBX.out.mono (by have:=HB2.out.size;omega))⟩
        case measure=>simp[intOf];omega
    ·have hd:decide (p.funcs=q.funcs)=true:=by
      have h:=HL2.out;have hk2:j=p.funcs.length:=by omega
      rw[hk2,List.take_length,List.take_of_length_le (by omega)] at ht
      simpa using ht
     rw[HU2.out] at hd;subst hd;clear ht hB2;go_wp2_with fail
     go_ret
     exact⟨rfl,HBW.out⟩
end Go.Proofs.YtlofbhoicbemnaaGreatDoor
