/- Walks: a slot is set, and read. -/
import Derived.Test.YtmanoclahcpaoaaTkH
namespace Go.Proofs.Ytmanoclahcpaoaa
open Go.ChangeShapes Go.WideShapes Go.ChangeAt Go.RowKit Go.Maps

theorem cells_ne {w : World} {a b : Nat} {cs cs' : Array Value} {t t' : TypeId} {f f' : Nat × Nat} (h : w.heap[a]? = some (.cells cs t f)) (h' : w.heap[b]? = some (.cells cs' t' f')) (ht : t ≠ t') : a ≠ b := by
  rintro rfl
  rw [h] at h'
  injection h' with e
  injection e with _ e2 _
  exact ht e2
theorem own_row {P : Program} {α : Type} {E : Elem P α} {w : World} {B : Nat} {v : Value} {l : List α} (h : Own E w B v l) {k : Nat} (hk : v.ownBlock = some k) : ∃ cur f, w.heap[k]? = some (.cells cur E.e f) := by
  rcases h.2 with ⟨rfl, _⟩ | ⟨g, cap, cur, rfl, hg, hh, _⟩
  · cases hk
  · simp [Value.ownBlock] at hk
    subst hk
    exact ⟨cur, _, hh⟩
theorem TaskAt.distinct {w : World} {F : Nat → Prop} {tb : Nat} {p : TPrg} {T : Tk} {X : TB} (h : TaskAt w F tb p T X) :
    tb ≠ X.sb ∧ tb ≠ X.wb ∧ X.sb ≠ X.wb ∧ (∀ k, X.pv.ownBlock = some k → k ≠ tb ∧ k ≠ X.sb ∧ k ≠ X.wb) ∧ (∀ k, X.mv.ownBlock = some k → k ≠ tb ∧ k ≠ X.sb ∧ k ≠ X.wb) ∧ ∀ k, X.pv.ownBlock = some k → X.mv.ownBlock ≠ some k := by
  have hw := h.wrow
  unfold intRow at hw
  refine ⟨cells_ne h.row h.srow (by decide), cells_ne h.row hw (by decide), cells_ne h.srow hw (by decide), fun k hk => ?_, fun k hk => ?_, fun k hk hk2 => ?_⟩
  · obtain ⟨cur, f, hc⟩ := own_row h.parts hk
    exact ⟨cells_ne hc h.row (by decide), cells_ne hc h.srow (by decide), cells_ne hc hw (by decide)⟩
  · obtain ⟨cur, f, hc⟩ := own_row h.marks hk
    exact ⟨cells_ne hc h.row (by decide), cells_ne hc h.srow (by decide), cells_ne hc hw (by decide)⟩
  · obtain ⟨cur, f, hc⟩ := own_row h.parts hk
    obtain ⟨cur2, f2, hc2⟩ := own_row h.marks hk2
    exact cells_ne hc hc2 (by decide) rfl
/-- a task of which the words are others -/
theorem TaskAt.words {w w' : World} {F : Nat → Prop} {tb : Nat} {p : TPrg} {T : Tk} {X : TB} (h : TaskAt w F tb p T X) (hf : Fr (fun k => k = X.wb) w w') (l : List Int) (hl : l.length = T.words.length) (hw : w'.heap[X.wb]? = some (intRow l 3)) : TaskAt w' F tb p ⟨T.base, l, T.parts, T.marks⟩ X where
  row := hf.heap h.row h.distinct.2.1
  prg := h.prg.fr hf fun k hk e => (h.out k hk).1 (e ▸ h.fw)
  out := fun k hk => ⟨(h.out k hk).1, Nat.lt_of_lt_of_le (h.out k hk).2 hf.size⟩
  srow := by
    show w'.heap[X.sb]? = some (.cells #[.int .i64 T.base, .slice (some ⟨X.wb, 0, none⟩) l.length l.length] _)
    rw [hl]
    exact hf.heap h.srow h.distinct.2.2.1
  wrow := hw
  parts := h.parts.fr hf fun k hk => (h.distinct.2.2.2.1 k hk).2.2
  marks := h.marks.fr hf fun k hk => (h.distinct.2.2.2.2.1 k hk).2.2
  kb := Nat.lt_of_lt_of_le h.kb hf.size
  kept := h.kept.imp fun n hm => hm.fr hf (by have hw := h.wrow; unfold intRow at hw; exact map_ne hm hw)
  ft := h.ft
  fs := h.fs
  fw := h.fw
  fk := h.fk
  fp := h.fp
  fm := h.fm
  flt := fun k hk => Nat.lt_of_lt_of_le (h.flt k hk) hf.size
theorem TaskAt.store {w : World} {F : Nat → Prop} {tb : Nat} {p : TPrg} {T : Tk} {X : TB} (h : TaskAt w F tb p T X) (k : Nat) (v : Int) : TaskAt (w.setCell ⟨X.wb, k, none⟩ (.int .i64 v)) F tb p ⟨T.base, T.words.set k v, T.parts, T.marks⟩ X :=
  h.words ((Fr.refl (fun k => k = X.wb) w).setCell (p := ⟨X.wb, k, none⟩) (fun _ => rfl) _) _ (by simp) (intRow_set h.wrow k v)
end Go.Proofs.Ytmanoclahcpaoaa
