/- A list that is grown, and the slice that it was grown from. Nothing of the program's text stands here. -/
import Derived.Test.YtmmdppjbofbjhaaFam
namespace Go.Proofs.Ytmmdppjbofbjhaa
open Go.RowKit

variable {P : Program} {α : Type}
/-- vl was grown from h0: h0 still has l0 -/
structure GS (E : Elem P α) (w : World) (B : Nat) (h0 : Value) (l0 : List α) (vl : Value) (l : List α) : Prop where
  old : Own E w B h0 l0
  cur : Own E w B vl l
  rel : (∃ g c r, h0 = .slice (some ⟨g, 0, none⟩) l0.length c ∧ vl = .slice (some ⟨g, 0, none⟩) l.length c ∧ l = l0 ++ r) ∨ ∀ k, h0.ownBlock = some k → vl.ownBlock ≠ some k
variable {E : Elem P α} {w w' : World} {B : Nat} {h0 vl v' : Value} {l0 l m : List α}
theorem GS.init (h : Own E w B h0 l0) : GS E w B h0 l0 h0 l0 := by
  refine ⟨h, h, ?_⟩
  rcases h.2 with ⟨rfl, h1⟩ | ⟨g, cap, cur, rfl, _⟩
  · exact .inr fun k hk => by simp [Value.ownBlock] at hk
  · exact .inl ⟨g, cap, [], rfl, rfl, by simp⟩
theorem GS.fr {F : Nat → Prop} (h : GS E w B h0 l0 vl l) (hf : Fr F w w') (h1 : ∀ k, h0.ownBlock = some k → ¬ F k) (h2 : ∀ k, vl.ownBlock = some k → ¬ F k) : GS E w' B h0 l0 vl l :=
  ⟨h.old.fr hf h1, h.cur.fr hf h2, h.rel⟩
theorem GS.below (h : GS E w B h0 l0 vl l) (hb : Below w.heap.size w w') : GS E w' B h0 l0 vl l := h.fr (Fr.of_below hb (fun _ => False)) (fun _ _ h => h) (fun _ _ h => h)
theorem own_prefix {g n c : Nat} {r : List α} (h : Own E w B (.slice (some ⟨g, 0, none⟩) n c) (l0 ++ r)) (hc : l0.length ≤ c) : Own E w B (.slice (some ⟨g, 0, none⟩) l0.length c) l0 := by
  obtain ⟨h1, h2⟩ := h
  refine ⟨E.len l0, ?_⟩
  rcases h2 with ⟨hc, _⟩ | ⟨g', cap, cur, hv, hbg, hg, hnc, hcm, hcs, htake⟩
  · cases hc
  · injection hv with q1 q2 q3
    injection q1 with q1
    injection q1 with q1
    subst q1 q3
    refine .inr ⟨g, c, cur, rfl, hbg, hg, hc, hcm, hcs, ?_⟩
    have h3 : (cur.toList.take ((l0 ++ r).length * E.size)).take (l0.length * E.size) = l0.flatMap E.enc := by
      rw [htake, List.flatMap_append, List.take_append_of_le_length (by rw [E.len l0]; exact Nat.le_refl _), List.take_of_length_le (by rw [E.len l0]; exact Nat.le_refl _)]
    rw [List.take_take] at h3
    rw [← h3]
    congr 1
    rw [Nat.min_eq_left]
    exact Nat.mul_le_mul_right _ (by simp)
theorem own_cap {g n c : Nat} (h : Own E w B (.slice (some ⟨g, 0, none⟩) n c) l) : ∃ cur : Array Value, w.heap[g]? = some (.cells cur E.e (0, 0)) ∧ cur.size = c * E.size ∧ n = l.length ∧ l.length ≤ c := by
  obtain ⟨h1, h2⟩ := h
  rcases h2 with ⟨hc, _⟩ | ⟨g', cap, cur, hv, hbg, hg, hnc, hcm, hcs, htake⟩
  · cases hc
  · injection hv with q1 q2 q3
    injection q1 with q1
    injection q1 with q1
    subst q1 q3
    exact ⟨cur, hg, hcs, q2, hnc⟩
theorem GS.step (h : GS E w B h0 l0 vl l) (ho : Own E w' B v' (l ++ m)) (hg : w.grownBy w' vl.ownBlock) (hf : Fresh w vl v') (hk : Own E w' B vl l) : GS E w' B h0 l0 v' (l ++ m) := by
  have hlt0 := fun k hk => h.old.lt (k := k) hk
  obtain ⟨h1, h2, h3⟩ := h
  rcases h3 with ⟨g, c, r, rfl, rfl, rfl⟩ | h3
  · obtain ⟨cur, hc1, hc2, _, hc3⟩ := own_cap hk
    refine ⟨own_prefix hk (by simp at hc3; omega), ho, ?_⟩
    rcases ho.2 with ⟨rfl, h4⟩ | ⟨g', cap', cur', rfl, _, hg', _, _, hcs', _⟩
    · exact .inr fun k hk h => by simp [Value.ownBlock] at h
    · rcases hf g' rfl with h5 | h5
      · have h5 : g = g' := by simpa [Value.ownBlock] using h5
        subst h5
        rw [hc1] at hg'
        injection hg' with hg'
        injection hg' with hg' _ _
        subst hg'
        have : c = cap' := by
          have h6 : c * E.size = cap' * E.size := by rw [← hc2, hcs']
          exact Nat.eq_of_mul_eq_mul_right E.hsz h6
        subst this
        exact .inl ⟨g, c, r ++ m, rfl, rfl, by rw [List.append_assoc]⟩
      · exact .inr fun k hk h => by
          have h6 : g = k := by simpa [Value.ownBlock] using hk
          have h7 : g' = k := by simpa [Value.ownBlock] using h
          have := (hlt0 g rfl).2
          omega
  · have hf1 : Fr (fun k => vl.ownBlock = some k) w w' := (Fr.refl _ _).grown hg (fun k hk _ => hk)
    refine ⟨h1.fr hf1 h3, ho, .inr fun k hk h => ?_⟩
    rcases hf k h with h5 | h5
    · exact h3 k hk h5
    · have := (hlt0 k hk).2; omega
end Go.Proofs.Ytmmdppjbofbjhaa
