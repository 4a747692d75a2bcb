/- A function's flow, step by step, plainly; rows that are made and copied into. What holds while a function's flow is found. -/
import Derived.Test.YtbkkhmafheimfaaGreatDoorVBe
set_option linter.unusedVariables false
set_option linter.unusedSimpArgs false
set_option maxRecDepth 100000
namespace Go.Proofs.YtbkkhmafheimfaaGreatDoor
open Go.ChangeShapes Go.WideShapes Go.ChangeAt Go.RowKit Go.Maps
theorem least_ex {R:Nat→Prop} (n:Nat) (h:R n):∃ k,R k∧∀ m,R m→k≤m:=by
 induction n using Nat.strongRecOn with
 | _ n ih =>
   by_cases hl:∃ m,m<n∧R m
   ·obtain⟨m,h1,h2⟩:=hl
    exact ih m h1 h2
   ·exact⟨n,h,fun m hm=>Nat.le_of_not_lt (fun hlt=>hl ⟨m,hlt,hm⟩)⟩
open Classical in
noncomputable def leastN (R:Nat→Prop):Nat:=if h:∃ k,R k∧∀ m,R m→k≤m then Classical.choose h else 0
theorem leastN_spec {R:Nat→Prop} (h:∃ n,R n):R (leastN R):=by
 obtain⟨n,hn⟩:=h;have h:=least_ex n hn;unfold leastN;rw[dif_pos h];exact(Classical.choose_spec h).1
theorem leastN_le {R:Nat→Prop} {n:Nat} (hn:R n):leastN R≤n:=by
 have h:=least_ex n hn;unfold leastN;rw[dif_pos h];exact(Classical.choose_spec h).2 n hn
def withM (C:Pl→Option (List Int)) (j:Nat) (M:Flo):Pl→Option (List Int):=fun x=>if x.1.1=j then (if 0≤x.1.2 then M x.1.2.toNat else none) else C x
theorem withM_at (C:Pl→Option (List Int)) (j:Nat) (M:Flo) (q:Nat) (h:i64B (j:Int)∧i64B (q:Int)):withM C j M ⟨((j:Int),(q:Int)),h⟩=M q:=by
 unfold withM
 simp
theorem withM_come (C:Pl→Option (List Int)) (j:Nat) (M:Flo) (q:Nat) (K:List Int) (h:i64B (j:Int)∧i64B (q:Int)):upd (withM C j M) ⟨((j:Int),(q:Int)),h⟩ (some (nowK (M q) K))=withM C j (comeM M q K):=by
 funext x
 obtain⟨⟨x1,x2⟩,hx⟩:=x;unfold upd withM comeM nowK
 by_cases h1:x1=(j:Int)
 ·subst h1
  by_cases h2:0≤x2
  ·by_cases h3:x2=(q:Int)
   ·subst h3
    rw[if_pos rfl]
    simp
    cases M q <;> rfl
   ·have h4:x2.toNat≠q:=by omega
    rw[if_neg (by intro e;injection e with e;injection e with _ e;exact h3 e)]
    simp[h2,h4]
  ·rw[if_neg (by intro e;injection e with e;injection e with _ e;omega)]
   simp[h2]
 ·rw[if_neg (by intro e;injection e with e;injection e with e;exact h1 e)]
  simp[h1]
theorem withM_start (C:Pl→Option (List Int)) (j:Nat) (hC:∀ x:Pl,x.1.1=j→C x=none):withM C j (fun _=>none)=C:=by
 funext x
 unfold withM
 by_cases h:x.1.1=j
 ·rw[if_pos h,hC x h]
  split <;> rfl
 ·rw[if_neg h]
theorem chgB_iff (M:Flo) (q:Nat) (K:List Int):chgB (M q) K=true↔changes M q K:=by
 unfold chgB changes
 cases h:M q with
 | none=>simp
 | some was =>
   simp only[Bool.not_eq_true',decide_eq_false_iff_not];exact⟨fun h1 was' h2 e=>by injection h2 with h2;subst h2;exact h1 e.symm,fun h1 e=>h1 was rfl e.symm⟩
theorem FInv.from' {p:Prg} {f:Fun} {M:Flo} {Q:List Nat} {pc m0:Nat} {K0:List Int} {i:Ins} {rem:List Int} (h:FInv p f M (fun q m=>q ∈ Q∨(q=pc∧m ∈ (m0:Int) :: rem))) (h0:M pc=some K0∨pc ∈ Q) (hi:f.code[pc]?=some i) (hm:m0<f.code.length)
  (hK:(outK p f i K0).length=f.slots.toNat) (hlow:∀ S,Sol p f S→∃ L,S m0=some L∧Le L (outK p f i K0)) :
  FInv p f (comeM M m0 (outK p f i K0)) (fun q m=>q ∈ (if chgB (M m0) (outK p f i K0) then Q ++ [m0] else Q)∨(q=pc∧m ∈ rem))∧(comeM M m0 (outK p f i K0) pc=some K0∨pc ∈ (if chgB (M m0) (outK p f i K0) then Q ++ [m0] else Q)):=by
 obtain⟨h1,L,hL,hle⟩:=h.come m0 _ hm hK hlow;have hQ:∀ q,q ∈ Q→q ∈ (if chgB (M m0) (outK p f i K0) then Q ++ [m0] else Q):=fun q hq=>by
  split
  ·exact List.mem_append_left _ hq
  ·exact hq
 have hC:changes M m0 (outK p f i K0)→m0 ∈ (if chgB (M m0) (outK p f i K0) then Q ++ [m0] else Q):=fun hc=>by
  rw[if_pos ((chgB_iff _ _ _).2 hc)]
  simp
 have hpc:comeM M m0 (outK p f i K0) pc=some K0∨pc ∈ (if chgB (M m0) (outK p f i K0) then Q ++ [m0] else Q):=by
  rcases h0 with h0 | h0
  ·by_cases hc:changes M m0 (outK p f i K0)
   ·by_cases e:pc=m0
    ·exact .inr (e ▸ hC hc)
    ·exact .inl (by rw[comeM_other e];exact h0)
   ·exact .inl (by rw[comeM_same hc];exact h0)
  ·exact .inr (hQ _ h0)
 refine⟨⟨h1.low,h1.first,h1.len,fun q K' i' hq hi' m hm1 hml hn=>?_⟩,hpc⟩
 by_cases hP:(q ∈ Q∨(q=pc∧(m:Int) ∈ (m0:Int) :: rem))∨(q=m0∧changes M m0 (outK p f i K0))
 ·rcases hP with (hP | ⟨e1,e2⟩) | ⟨e1,e2⟩
  ·exact absurd (.inl (hQ q hP)) hn
  ·rcases List.mem_cons.1 e2 with e3 | e3
   ·have e3:m=m0:=by omega
    subst e3 e1
    rcases hpc with h2 | h2
    ·rw[h2] at hq
     injection hq with hq
     subst hq;rw[hi] at hi'
     injection hi' with hi'
     subst hi';exact⟨L,hL,hle⟩
    ·exact absurd (.inl h2) hn
   ·exact absurd (.inr ⟨e1,e3⟩) hn
  ·exact absurd (.inl (e1 ▸ hC e2)) hn
 ·exact h1.step q K' i' hq hi' m hm1 hml hP
theorem FInv.skip {p:Prg} {f:Fun} {M:Flo} {Q:List Nat} {pc:Nat} {m0:Int} {rem:List Int} (h:FInv p f M (fun q m=>q ∈ Q∨(q=pc∧m ∈ m0 :: rem))) (hm:¬ m0<f.code.length):FInv p f M (fun q m=>q ∈ Q∨(q=pc∧m ∈ rem)) :=
 ⟨h.low,h.first,h.len,fun q K' i' hq hi' m hm1 hml hn=>h.step q K' i' hq hi' m hm1 hml (fun hP=>by
  rcases hP with hP | ⟨e1,e2⟩
  ·exact hn (.inl hP)
  ·rcases List.mem_cons.1 e2 with e3 | e3
   ·omega
   ·exact hn (.inr ⟨e1,e3⟩))⟩
theorem FInv.pop {p:Prg} {f:Fun} {M:Flo} {Q:List Nat} {pc:Nat} {NL:List Int} {i:Ins} (h:FInv p f M (fun q _=>q ∈ pc :: Q)) (hi:f.code[pc]?=some i) (hN:nextK i pc=NL):FInv p f M (fun q m=>q ∈ Q∨(q=pc∧m ∈ NL)) :=
 ⟨h.low,h.first,h.len,fun q K' i' hq hi' m hm1 hml hn=>h.step q K' i' hq hi' m hm1 hml (fun hP=>by
  rcases List.mem_cons.1 hP with e | e
  ·subst e
   rw[hi] at hi'
   injection hi' with hi'
   subst hi';exact hn (.inr ⟨rfl,hN ▸ hm1⟩)
  ·exact hn (.inl e))⟩
theorem row_sets {q:Nat} {t:TypeId}:∀ (vs:List Value) (w:World) (o:Nat) (cs:List Value),w.heap[q]?=some (.cells cs.toArray t)→o+vs.length≤cs.length→(w.setCells q o vs).heap[q]?=some (.cells (cs.take o ++ vs ++ cs.drop (o+vs.length)).toArray t)
 | [],w,o,cs,h,_=>by
   simp only[World.setCells,List.length_nil,Nat.add_zero,List.append_nil,List.take_append_drop];exact h
 | v :: vs,w,o,cs,h,hl=>by
   have hl:o+(vs.length+1)≤cs.length:=hl;have h1:=row_set h o v;have e1:cs.toArray.setIfInBounds o v=(cs.set o v).toArray:=by simp
   rw[e1] at h1;have h2:=row_sets vs (w.setCell ⟨q,o,none⟩ v) (o+1) (cs.set o v) h1 (by simp;omega);have e2:(cs.set o v).take (o+1)=cs.take o ++ [v]:=by
    rw[List.take_add_one,List.take_set_of_le (Nat.le_refl _),List.getElem?_set_self (by omega)]
    rfl
   have e3:(cs.set o v).drop (o+1+vs.length)=cs.drop (o+(v :: vs).length):=by
    rw[List.drop_set_of_lt (by omega)]
    congr 1
    simp
    omega
   rw[e2,e3] at h2
   show ((w.setCell ⟨q,o,none⟩ v).setCells q (o+1) vs).heap[q]?=_
   rw[h2]
   simp
theorem sets_fr {q:Nat}:∀ (vs:List Value) (w:World) (o:Nat),Fr (onB q) w (w.setCells q o vs)
 | [],w,o=>Fr.refl _ _
 | v :: vs,w,o=>((Fr.refl (onB q) w).setCell (p:=⟨q,o,none⟩) (fun _=>rfl) v).trans (sets_fr vs _ _) (fun _ _ h=>h)
def intsV (l:List Int):List Value:=l.map (Value.int .i64)
theorem make_fl (w:World) (n:Nat) (hn:n≤100000):(Instr.makeSlice 34 (.int .i64 n) (.int .i64 n)).run Tryz.prog w=.ok (.slice (some ⟨w.heap.size,0,none⟩) n n) (w.alloc (.cells (intsV (List.replicate n 0)).toArray 3)):=by
 obtain⟨i0,hi,hz0,hz1,hz2⟩:=info_parts intE.info;have h:=run_makeSlice (P:=Tryz.prog) (w:=w) 34 3 i0 (.int .i64 0) Tryz.underlying34 hi hz0 .i64 .i64 (n:Int) (n:Int) (by omega) (Int.le_refl _) (by rw[hz1];show (n:Int).toNat * 1≤16777216;omega) (by rw[hz2];show (8:Int) * (n:Int)≤281474976710656;omega) (by omega);rw[h];simp only[Int.toNat_natCast,hz1];have e:madeCells (Value.int .i64 0).cells (n * intE.size)=(intsV (List.replicate n 0)).toArray:=by
  show madeCells #[Value.int .i64 0] (n * 1)=_
  unfold madeCells intsV
  apply Array.ext
  ·simp
  ·intro i h1 h2
   simp[Nat.mod_one]
 rw[e]
theorem copy_fl (w:World) (ty:TypeId) (g n:Nat) (R:List Int) (hR:R.length=n) (hrow:w.heap[g]?=some (.cells (intsV R).toArray 3)) (D:Nat→Prop) (xa:Option Addr) (l:List Int) (c:Nat) (hl:IntSl w D xa l) (hln:l.length≤n) :
  ∃ w',(Builtin.copy_ #[34,34] ty #[.slice (some ⟨g,0,none⟩) n n,.slice xa l.length c]).run Tryz.prog w=.ok (goInt l.length) w'∧w'.heap[g]?=some (.cells (intsV (l ++ R.drop l.length)).toArray 3)∧Fr (onB g) w w':=by
 have hsz:(Tryz.prog.info? 3).map (·.size)=some 1:=by kernel_rfl
 by_cases h0:l.length=0
 ·have hl0:l=[]:=List.length_eq_zero_iff.1 h0
  subst hl0;have hr:=run_copy_none (P:=Tryz.prog) w 34 34 ty 3 (some ⟨g,0,none⟩) xa n n 0 c Tryz.underlying34 hsz (by show min 0 n=0;omega);exact⟨w,hr,by simpa using hrow,Fr.refl _ _⟩
 ·obtain⟨b,oo,rfl,_,_⟩:=hl 0 (by omega)
  have hcell:∀ j v,(intsV l)[j]?=some v→w.cell? ((⟨b,oo,none⟩:Addr).add j)=some v:=fun j v hj=>by
   rw[addr_add _ rfl];unfold intsV at hj;rw[List.getElem?_map] at hj;have hjl:j<l.length:=by
    rcases Nat.lt_or_ge j l.length with h | h
    ·exact h
    ·rw[List.getElem?_eq_none h] at hj;cases hj
   rw[List.getElem?_eq_getElem hjl] at hj;obtain⟨b',o',e,_,hc⟩:=hl j hjl
   injection e with e
   injection e with e1 e2
   subst e1 e2;rw[hc];exact hj
  have hlen:(intsV l).length=l.length:=by simp[intsV]
  have hRl:(intsV R).length=n:=by simp[intsV,hR]
  have hr:=run_copy_cells (P:=Tryz.prog) w 34 34 ty 3 g 0 n n ⟨b,oo,none⟩ l.length c (intsV l) Tryz.underlying34 hsz (by rw[hlen];show l.length=min l.length n;omega) hcell (fun j hj=>by
   rw[(row_cell hrow _).1];rw[hlen] at hj;simp only[Nat.zero_add];rw[Array.getElem?_eq_getElem (by simp;omega)]
   rfl) (fun j hj=>(row_cell hrow _).2) (fun v hv=>by
   unfold intsV at hv;obtain⟨z,_,rfl⟩:=List.mem_map.1 hv
   rfl)
  rw[hlen] at hr;have hs2:=row_sets (intsV l) w 0 (intsV R) hrow (by rw[hlen,hRl];omega);refine⟨_,hr,?_,sets_fr _ _ _⟩;rw[hs2]
  simp[intsV]
theorem own_row {w:World} {g n:Nat} {R:List Int} {B:Nat} (hrow:w.heap[g]?=some (.cells (intsV R).toArray 3)) (hR:R.length=n) (hn:n≤100000) (hB:B≤g):Own intE w B (.slice (some ⟨g,0,none⟩) R.length n) R:=by
 have hfl:∀ m:List Int,m.flatMap intE.enc=intsV m:=fun m=>by
  unfold intsV
  induction m with
  | nil=>rfl
  | cons y m ih=>rw[List.flatMap_cons,ih];rfl
 refine⟨intE.len R,.inr ⟨g,n,_,rfl,hB,hrow,by omega,by unfold maxLen;omega,by simp only[intsV,List.size_toArray,List.length_map,hR];show n=n * 1;omega,?_⟩⟩;rw[hfl];have:intE.size=1:=rfl;rw[this,List.take_of_length_le (by simp[intsV])]
def qv (Q:List Nat):List Int:=Q.map fun q:Nat=>(q:Int)
theorem qv_if (b:Bool) (Q:List Nat) (m:Nat):(if b=true then qv Q ++ [(m:Int)] else qv Q)=qv (if b=true then Q ++ [m] else Q):=by
 cases b <;> simp[qv]
def RI (p:Prg) (f:Fun) (C0:Pl→Option (List Int)) (j B wb b nn:Nat) (c0 c1 c2:Value) (w0:World) (tv0:Value) (w:World) (M:Flo) (Q:List Nat) (P:Nat→Int→Prop):Prop :=
 ∃ n V tv,WalkV w B wb b n V c0 c1 c2 (j:Int) (withM C0 j M) tv (qv Q)∧FInv p f M P∧(∀ q ∈ Q,(M q).isSome=true)∧Fr (WF wb b tv0) w0 w∧(∀ k,tv.ownBlock=some k→tv0.ownBlock=some k∨w0.heap.size≤k)∧n+pot f.slots.toNat M f.code.length≤nn
def msr (f:Fun) (M:Flo) (Q:List Nat):Nat:=2 * pot f.slots.toNat M f.code.length+Q.length
theorem withM_len {C0:Pl→Option (List Int)} {j:Nat} {M:Flo} {p:Prg} {f:Fun} {P:Nat→Int→Prop} (h:FInv p f M P) (hs:f.slots≤16) (hC:∀ x K,C0 x=some K→K.length≤100000):∀ x K,withM C0 j M x=some K→K.length≤100000:=fun x K hx=>by
 unfold withM at hx
 split at hx
 ·split at hx
  ·have:=(h.len _ _ hx).2
   omega
  ·cases hx
 ·exact hC x K hx
theorem come_pot {p:Prg} {f:Fun} {M:Flo} {P:Nat→Int→Prop} (h:FInv p f M P) {m0:Nat} {K:List Int} (hm:m0<f.code.length) (hK:K.length=f.slots.toNat) (Q:List Nat) (n:Nat) :
  msr f (comeM M m0 K) (if chgB (M m0) K=true then Q ++ [m0] else Q)≤msr f M Q∧(if (M m0).isSome=true then n else n+1)+pot f.slots.toNat (comeM M m0 K) f.code.length≤n+pot f.slots.toNat M f.code.length:=by
 have hp:=pot_come (M:=M) (s:=f.slots.toNat) (n:=f.code.length) (K:=K) hm hK (fun was hw=>(h.len _ _ hw).2);unfold msr
 by_cases hc:chgB (M m0) K=true
 ·have hlt:=hp.2 ((chgB_iff _ _ _).1 hc)
  rw[if_pos hc,List.length_append,List.length_singleton];refine⟨by omega,?_⟩
  split <;> omega
 ·rw[if_neg hc]
  have hs:(M m0).isSome=true:=by
   cases hm0:M m0 with
   | none=>rw[hm0] at hc;exact absurd rfl hc
   | some _=>rfl
  rw[if_pos hs]
  omega
theorem ri_come {p:Prg} {f:Fun} {C0:Pl→Option (List Int)} {j B wb b nn n:Nat} {V:Nat→Prop} {tv:Value} {c0 c1 c2:Value} {w0 w w':World} {tv0:Value} {M:Flo} {Q:List Nat} {pc m0:Nat} {K0:List Int} {i:Ins} {rem:List Int} {hpl:i64B (j:Int)∧i64B (m0:Int)} {e:Ending}
  (hF:FInv p f M (fun q m=>q ∈ Q∨(q=pc∧m ∈ (m0:Int) :: rem))) (hQ:∀ q ∈ Q,(M q).isSome=true) (hfr:Fr (WF wb b tv0) w0 w) (htv:∀ k,tv.ownBlock=some k→tv0.ownBlock=some k∨w0.heap.size≤k) (hnn:n+pot f.slots.toNat M f.code.length≤nn)
  (h0:M pc=some K0∨pc ∈ Q) (hi:f.code[pc]?=some i) (hm:m0<f.code.length) (hK:(outK p f i K0).length=f.slots.toNat) (hlow:∀ S,Sol p f S→∃ L,S m0=some L∧Le L (outK p f i K0))
  (h:ComePost w B wb b n V c0 c1 c2 (j:Int) (withM C0 j M) tv (qv Q) ⟨((j:Int),(m0:Int)),hpl⟩ (outK p f i K0) e w') :
  e=.returned (.tuple #[])∧RI p f C0 j B wb b nn c0 c1 c2 w0 tv0 w' (comeM M m0 (outK p f i K0)) (if chgB (M m0) (outK p f i K0)=true then Q ++ [m0] else Q) (fun q m=>q ∈ (if chgB (M m0) (outK p f i K0)=true then Q ++ [m0] else Q)∨(q=pc∧m ∈ rem)) ∧
   (comeM M m0 (outK p f i K0) pc=some K0∨pc ∈ (if chgB (M m0) (outK p f i K0)=true then Q ++ [m0] else Q))∧msr f (comeM M m0 (outK p f i K0)) (if chgB (M m0) (outK p f i K0)=true then Q ++ [m0] else Q)≤msr f M Q:=by
 obtain⟨he,V',tv',h1,h2,h3⟩:=h;rw[withM_at,withM_come] at h1;have e1:(⟨((j:Int),(m0:Int)),hpl⟩:Pl).1.2=(m0:Int):=rfl;rw[e1,qv_if] at h1;obtain⟨f1,f2⟩:=hF.from' h0 hi hm hK hlow;obtain⟨g1,g2⟩:=come_pot hF hm hK Q n;refine⟨he,⟨_,V',tv',h1,f1,fun q hq=>?_,?_,fun k hk=>?_,by omega⟩,f2,g1⟩
 ·by_cases hqm:q=m0
  ·subst hqm
   unfold comeM
   simp
  ·rw[comeM_other hqm]
   split at hq
   ·rcases List.mem_append.1 hq with hq | hq
    ·exact hQ q hq
    ·simp at hq;exact absurd hq hqm
   ·exact hQ q hq
 ·exact hfr.trans h2 (fun k hk hw=>by
   rcases hw with hw | hw | hw
   ·exact .inl hw
   ·exact .inr (.inl hw)
   ·exact(htv k hw).elim (fun h=>.inr (.inr h)) (fun h=>by omega))
 ·rcases h3 k hk with h3 | h3
  ·exact htv k h3
  ·exact .inr (by have:=hfr.size;omega)
theorem pop_fin {w:World} {B wb b n:Nat} {V:Nat→Prop} {c0 c1 c2:Value} {fn:Int} {C:Pl→Option (List Int)} {tv v':Value} {x:Int} {l:List Int} (h:WalkV w B wb b n V c0 c1 c2 fn C tv (x :: l)) (hq:Que w B v' l) (hs:∀ k,v'.ownBlock=some k→tv.ownBlock=some k) :
  WalkV (w.setCell ⟨wb,5,none⟩ v') B wb b n V c0 c1 c2 fn C v' l∧Fr (WF wb b tv) w (w.setCell ⟨wb,5,none⟩ v'):=by
 obtain⟨b1,b2,b3,b4,b5⟩:=h.bs;have f45:Fr (fun k=>k=wb) w (w.setCell ⟨wb,5,none⟩ v'):=(Fr.refl (fun k=>k=wb) w).setCell (p:=⟨wb,5,none⟩) (fun _=>rfl) v';refine⟨⟨row_set h.row 5 v',h.map.fr f45 (fun e=>b3 e.symm) (fun k hk e=>(h.vlo k hk).2.2.1 e),hq.fr f45 (fun k hk e=>b4 (e ▸ hs k hk)),fun k hk=>?_,b1,b2,b3,fun e=>b4 (hs _ e),fun e=>b5 (hs _ e)⟩,f45.mono (fun k hk=>.inl hk)⟩;obtain⟨a1,a2,a3,a4,a5⟩:=h.vlo k hk;exact⟨a1,by have:=f45.size;omega,a3,a4,fun e=>a5 (hs _ e)⟩
theorem FlMap.some_runs {w:World} {b n:Nat} {V:Nat→Prop} {C:Pl→Option (List Int)} (h:FlMap w b n V C) (x:Pl) (K:List Int) (hx:C x=some K):∃ a c,IntSl w V a K∧∀ W',Below w.heap.size w W' →
  (Instr.lookup 132 (.map (some b)) (plA x) true).run Tryz.prog W'=.ok (.tuple #[.slice a K.length c,.bool true]) W'∧(Instr.lookup 132 (.map (some b)) (plA x) false).run Tryz.prog W'=.ok (.slice a K.length c) W':=by
 obtain⟨g,h1,h2⟩:=h;obtain⟨a,c,h3,h4⟩:=(h2 x).2 K hx;refine⟨a,c,h4,fun W' hb=>?_⟩;have hl:=((h1.below hb).look map_ty (zero_ints W') x trivial).1 _ h3;exact⟨hl.2,hl.1⟩
end Go.Proofs.YtbkkhmafheimfaaGreatDoor
