/- Families of lists that one owns, none of which lies in another's memory. Nothing of the program's text stands here. -/
import Derived.Test.YtmmdppjbofbjhaaReadP
import Derived.Test.YtmmdppjbofbjhaaBox
namespace Go.Proofs.Ytmmdppjbofbjhaa
open Go.RowKit

variable {P : Program} {α : Type}
/-- an append onto one's own, told with what the elder slice still is -/
theorem run_append_keep (E : Elem P α) (w : World) (ty : TypeId) (B : Nat) (l m : List α) (v : Value) (hown : Own E w B v l) (b of c : Nat)
    (hm : CellsAt w b of (m.flatMap E.enc)) (hlen : l.length + m.length ≤ 100000000) (hB : B ≤ w.heap.size) :
    ∃ v' w', (Builtin.append_ #[E.t, E.t] ty #[v, .slice (some ⟨b, of, none⟩) m.length c]).run P w = .ok v' w' ∧ Own E w' B v' (l ++ m) ∧ w.grownBy w' v.ownBlock ∧ Fresh w v v' ∧ Own E w' B v l := by
  obtain ⟨v', w', hr, h2, h3, h4⟩ := run_append_fresh E w ty B l m v hown b of c hm hlen hB
  refine ⟨v', w', hr, h2, h3, h4, ?_⟩
  obtain ⟨i0, hi, hz0, hz1, hz2⟩ := info_parts E.info
  have hnews : ∀ j u, (m.flatMap E.enc)[j]? = some u → w.cell? ((⟨b, of, none⟩ : Addr).add j) = some u := by
    intro j u hj
    have := hm j u hj
    unfold Addr.add
    by_cases h0 : j = 0
    · subst h0; rw [if_pos rfl]; exact this
    · rw [if_neg h0]; exact this
  have h1 : ∀ u ∈ m.flatMap E.enc, u.oneCell' = true := by
    intro u hu
    obtain ⟨y, _, hy⟩ := List.mem_flatMap.1 hu
    exact E.hone y u hy
  have hby : (l.length + m.length) * E.bytes ≤ 140737488355328 := by
    have h1 := E.hby
    have h2 : (l.length + m.length) * E.bytes ≤ 100000000 * 1000 := Nat.mul_le_mul hlen h1
    omega
  have hown0 := hown
  obtain ⟨hxl, hrow⟩ := hown
  refine ⟨hxl, ?_⟩
  rcases hrow with hnil | ⟨g, cap, cur, rfl, hbg, hg, hnc, hcm, hcs, htake⟩
  · exact .inl hnil
  · right
    by_cases hroom : l.length + m.length ≤ cap
    · have hfit : l.length * i0.size + (m.flatMap E.enc).length ≤ cur.size := by rw [E.len m, hcs, hz1, ← Nat.add_mul]; exact Nat.mul_le_mul_right _ hroom
      have hr2 := run_append_room (P := P) w E.t ty E.e i0 E.ht hi g l.length cap cur hg ⟨b, of, none⟩ m.length c (m.flatMap E.enc) (by rw [hz1]; exact E.len m) hnews h1 hroom hfit
      rw [hr] at hr2
      injection hr2 with e1 e2
      subst e1
      obtain ⟨_, hrow2⟩ := h2
      rcases hrow2 with ⟨hc, _⟩ | ⟨g2, cap2, cur2, hv2, hbg2, hg2, hnc2, hcm2, hcs2, htake2⟩
      · cases hc
      · injection hv2 with q1 q2 q3
        injection q1 with q1
        injection q1 with q1
        subst q1 q3
        refine ⟨g, cap, cur2, rfl, hbg, hg2, hnc, hcm, hcs2, ?_⟩
        have : (cur2.toList.take ((l ++ m).length * E.size)).take (l.length * E.size) = l.flatMap E.enc := by
          rw [htake2, List.flatMap_append, List.take_append_of_le_length (by rw [E.len l]; exact Nat.le_refl _), List.take_of_length_le (by rw [E.len l]; exact Nat.le_refl _)]
        rw [List.take_take] at this
        rw [← this]
        congr 1
        rw [Nat.min_eq_left]
        exact Nat.mul_le_mul_right _ (by simp)
    · have holds : ∀ j u, (l.flatMap E.enc)[j]? = some u → w.cell? ((⟨g, 0, none⟩ : Addr).add j) = some u := World.ownsRow.cells (g := g) hown0 rfl
      have hr2 := run_append_grow (P := P) w E.t ty E.e i0 E.zero E.ht hi hz0 ⟨g, 0, none⟩ l.length cap (l.flatMap E.enc) (by rw [hz1]; exact E.len l) holds ⟨b, of, none⟩ m.length c (m.flatMap E.enc) (by rw [hz1]; exact E.len m) hnews (by omega) (by omega) (growslice_fits (by omega) (by rw [hz2]; exact hby))
      rw [hr] at hr2
      injection hr2 with e1 e2
      refine ⟨g, cap, cur, rfl, hbg, ?_, hnc, hcm, hcs, htake⟩
      rw [e2, Below.heap_alloc _ _ _ (heap_lt (w := w.drew) hg)]
      exact hg
/-- as an operation -/
theorem append_keep (E : Elem P α) {ops : Array Oper} {rest : List Oper} {o : Oper} {a : Act} {Q : Exit → Act → World → Prop} {w : World} (hgd : o.guard = none) (s x : Operand)
    (ho : o.op = .call { callee := .builtin .append, args := #[s, x], argTypes := #[E.t, E.t] })
    (B : Nat) (l m : List α) (v : Value) (hs : a.eval s = v) (hown : Own E w B v l) (b of c : Nat) (hx : a.eval x = .slice (some ⟨b, of, none⟩) m.length c)
    (hm : CellsAt w b of (m.flatMap E.enc)) (hlen : l.length + m.length ≤ 100000000) (hB : B ≤ w.heap.size)
    (h : ∀ v' w', Own E w' B v' (l ++ m) → w.grownBy w' v.ownBlock → Fresh w v v' → Own E w' B v l → wpList P ops Q rest (a.put o.dst v') w') : wpList P ops Q (o :: rest) a w :=
  wpList_plain hgd fun _ hK => by
    obtain ⟨v', w', hr, h2, h3, h4, h5⟩ := run_append_keep E w o.type B l m v hown b of c hm hlen hB
    unfold Oper.wp execOp
    simp only [ho, resolve, invoke, builtin, Sem.run_bind, Sem.run_pure, Result.andThen_ok, List.map_toArray, List.map_cons, List.map_nil, hs, hx, hr]
    exact hK _ _ (h v' w' h2 h3 h4 h5)
/-- one's own elements, as cells -/
theorem Own.cells {E : Elem P α} {w : World} {B : Nat} {v : Value} {l : List α} (h : Own E w B v l) (hne : 1 ≤ l.length) : ∃ g c, v = .slice (some ⟨g, 0, none⟩) l.length c ∧ B ≤ g ∧ g < w.heap.size ∧ CellsAt w g 0 (l.flatMap E.enc) := by
  have hc := fun g hg => World.ownsRow.cells (g := g) h hg
  have hlt := fun k hk => h.lt (k := k) hk
  obtain ⟨h1, h2⟩ := h
  rcases h2 with ⟨rfl, h0⟩ | ⟨g, cap, cur, rfl, hg, hh, hr⟩
  · omega
  · refine ⟨g, cap, rfl, hg, (hlt g rfl).2, fun j u hj => ?_⟩
    have := hc g rfl j u hj
    unfold Addr.add at this
    split at this
    · subst j; exact this
    · simpa using this
/-- a cell of one's own is set -/
theorem ownsRow_set {w : World} {base : Nat} {e : TypeId} {size g n c : Nat} {xs : List Value} (h : w.ownsRow base e size (.slice (some ⟨g, 0, none⟩) n c) n xs) (m : Nat) (u : Value) :
    (w.setCell ⟨g, m, none⟩ u).ownsRow base e size (.slice (some ⟨g, 0, none⟩) n c) n (xs.set m u) := by
  obtain ⟨h1, h2⟩ := h
  refine ⟨by rw [List.length_set]; exact h1, ?_⟩
  rcases h2 with ⟨hc, _⟩ | ⟨g', cap, cur, hv, hbg, hg, hnc, hcm, hcs, htake⟩
  · cases hc
  · injection hv with q1 q2 q3
    injection q1 with q1
    injection q1 with q1
    subst q1 q3
    refine .inr ⟨g, c, cur.setIfInBounds m u, rfl, hbg, ?_, hnc, hcm, by simpa using hcs, ?_⟩
    · simp only [World.setCell, Array.getElem?_modify, if_pos rfl, hg, Option.map]
      rfl
    · rw [← htake]
      simp [List.take_set]
def Disj (hs : List Hd) : Prop := ∀ i j (hi : i < hs.length) (hj : j < hs.length), i ≠ j → ∀ k, hs[i].val.ownBlock = some k → hs[j].val.ownBlock ≠ some k
/-- the lists ls lie at the heads hs, in the slice v; all of it in the blocks X -/
structure Fam (E : Elem P α) (HE : Elem P Hd) (w : World) (B : Nat) (X : Nat → Prop) (v : Value) (hs : List Hd) (ls : List (List α)) : Prop where
  own : Own HE w B v hs
  len : hs.length = ls.length
  each : ∀ j (h : j < hs.length) (h' : j < ls.length), Own E w B hs[j].val ls[j]
  apart : Disj hs
  row : ∀ k, v.ownBlock = some k → X k
  mem : ∀ j (h : j < hs.length) k, hs[j].val.ownBlock = some k → X k ∧ v.ownBlock ≠ some k
variable {E : Elem P α} {HE : Elem P Hd} {w w' : World} {B : Nat} {X : Nat → Prop} {v : Value} {hs : List Hd} {ls : List (List α)}
theorem Fam.nil (E : Elem P α) (HE : Elem P Hd) (w : World) (B : Nat) (X : Nat → Prop) : Fam E HE w B X (.slice none 0 0) [] [] :=
  ⟨Own.nil _ _ _, rfl, fun j hj _ => (by cases hj), fun i j hi _ _ => (by cases hi), fun k h => (by simp [Value.ownBlock] at h), fun j hj => (by cases hj)⟩
theorem Fam.fr {F : Nat → Prop} (h : Fam E HE w B X v hs ls) (hf : Fr F w w') (hX : ∀ k, X k → ¬ F k) : Fam E HE w' B X v hs ls :=
  ⟨h.own.fr hf (fun k hk => hX k (h.row k hk)), h.len, fun j hj hj' => (h.each j hj hj').fr hf (fun k hk => hX k (h.mem j hj k hk).1), h.apart, h.row, h.mem⟩
theorem Fam.slice (h : Fam E HE w B X v hs ls) : ∃ a c, v = .slice a ls.length c := by
  obtain ⟨a, c, hv, _⟩ := own_elems h.own
  exact ⟨a, c, by rw [hv, h.len]⟩
/-- head j, as it lies -/
theorem Fam.head (h : Fam E HE w B X v hs ls) (hsz : HE.size = 1) (henc : ∀ x, HE.enc x = [x.val]) (j : Nat) (hj : j < ls.length) :
    ∃ g c, v = .slice (some ⟨g, 0, none⟩) ls.length c ∧ X g ∧ ∃ hj' : j < hs.length, w.cell? ⟨g, j, none⟩ = some hs[j].val ∧ Own E w B hs[j].val ls[j] := by
  obtain ⟨a, c, hv, hel⟩ := own_elems h.own
  have hj' : j < hs.length := by rw [h.len]; exact hj
  obtain ⟨b, h1, h2, h3⟩ := hel j hj'
  refine ⟨b, c, by rw [hv, h1, h.len], h.row b h2, hj', ?_, h.each j hj' hj⟩
  have := h3 0 hs[j].val (by rw [henc]; rfl)
  rw [hsz] at this
  simpa using this
/-- list i is another one -/
theorem Fam.upd (h : Fam E HE w B X v hs ls) (i : Nat) (hi : i < hs.length) (l' : List α) (hf : Fr (fun k => hs[i].val.ownBlock = some k) w w') (ho : Own E w' B hs[i].val l') : Fam E HE w' B X v hs (ls.set i l') := by
  refine ⟨h.own.fr hf (fun k hk hk2 => (h.mem i hi k hk2).2 hk), by rw [List.length_set]; exact h.len, fun j hj hj' => ?_, h.apart, h.row, h.mem⟩
  by_cases hij : i = j
  · subst hij; rw [List.getElem_set_self]; exact ho
  · rw [List.getElem_set_ne hij]
    exact (h.each j hj (by simpa using hj')).fr hf (fun k hk hk2 => h.apart i j hi hj hij k hk2 hk)
end Go.Proofs.Ytmmdppjbofbjhaa
