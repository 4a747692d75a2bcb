/- A task has one more frame, one more mark. Nothing of the program's text is walked here. -/
import Derived.Test.YtmanoclahcpaoaaTkM
namespace Go.Proofs.Ytmanoclahcpaoaa
open Go.ChangeShapes Go.WideShapes Go.ChangeAt Go.RowKit Go.Maps

theorem TaskAt.push {w w5 : World} {F : Nat → Prop} {tb : Nat} {p : TPrg} {T : Tk} {X : TB} {ob : Obj} {v5 : Value} {l : List Part} (h : TaskAt w F tb p T X) (ho : Own partE w5 0 v5 l) (hg : (w.alloc ob).grownBy w5 X.pv.ownBlock) (hf : Fresh (w.alloc ob) X.pv v5) :
    TaskAt (w5.setCell ⟨tb, 4, none⟩ v5) (fun k => F k ∨ v5.ownBlock = some k) tb p ⟨T.base, T.words, l, T.marks⟩ { X with pv := v5 } ∧ Fr F w (w5.setCell ⟨tb, 4, none⟩ v5) := by
  have hfr : Fr (fun k => X.pv.ownBlock = some k) w w5 := ((Fr.refl (fun k => X.pv.ownBlock = some k) w).alloc ob).grown hg (fun k hk _ => hk)
  have hfr2 : Fr (fun k => X.pv.ownBlock = some k ∨ k = tb) w (w5.setCell ⟨tb, 4, none⟩ v5) := (hfr.mono fun k hk => .inl hk).setCell (p := ⟨tb, 4, none⟩) (fun _ => .inr rfl) _
  obtain ⟨d1, d2, d3, d4, d5, d6⟩ := h.distinct
  have hrow := hfr.heap h.row (fun e => (d4 _ e).1 rfl)
  have hv : ∀ k, v5.ownBlock = some k → k ≠ tb := fun k hk e => by
    rcases hf k hk with h1 | h1
    · exact (d4 k h1).1 e
    · have := h.lt
      simp at h1
      omega
  have hvl : ∀ k, v5.ownBlock = some k → k < w5.heap.size := fun k hk => (ho.lt hk).2
  have hfs : Fr (fun k => k = tb) w5 (w5.setCell ⟨tb, 4, none⟩ v5) := (Fr.refl (fun k => k = tb) w5).setCell (p := ⟨tb, 4, none⟩) (fun _ => rfl) _
  refine ⟨?_, hfr2.mono (fun k hk => hk.elim (h.fp k) (fun e => e ▸ h.ft))⟩
  constructor
  · have := row_set hrow 4 v5
    simpa using this
  · exact h.prg.fr hfr2 fun k hk hk2 => (h.out k hk).1 (hk2.elim (h.fp k) (fun e => e ▸ h.ft))
  · intro k hk
    refine ⟨fun hk2 => ?_, Nat.lt_of_lt_of_le (h.out k hk).2 hfr2.size⟩
    rcases hk2 with h1 | h1
    · exact (h.out k hk).1 h1
    · rcases hf k h1 with h2 | h2
      · exact (h.out k hk).1 (h.fp k h2)
      · have := (h.out k hk).2
        simp at h2
        omega
  · exact hfr2.heap h.srow (fun e => e.elim (fun e => (d4 _ e).2.1 rfl) (fun e => d1 e.symm))
  · exact hfr2.heap h.wrow (fun e => e.elim (fun e => (d4 _ e).2.2 rfl) (fun e => d2 e.symm))
  · exact ho.fr hfs (fun k hk e => hv k hk e)
  · exact h.marks.fr hfr2 (fun k hk e => e.elim (fun e => d6 k e hk) (fun e => (d5 k hk).1 e))
  · exact Nat.lt_of_lt_of_le h.kb hfr2.size
  · exact h.kept.imp fun n hm => hm.fr hfr2 (fun e => e.elim (fun e => by obtain ⟨cur, f, hc⟩ := own_row h.parts e; exact map_ne hm hc rfl) (fun e => map_ne hm h.row e))
  · exact .inl h.ft
  · exact .inl h.fs
  · exact .inl h.fw
  · exact .inl h.fk
  · exact fun k hk => .inr hk
  · exact fun k hk => .inl (h.fm k hk)
  · intro k hk
    rcases hk with h1 | h1
    · exact Nat.lt_of_lt_of_le (h.flt k h1) hfr2.size
    · exact Nat.lt_of_lt_of_le (hvl k h1) hfs.size
theorem TaskAt.mark {w : World} {F : Nat → Prop} {tb : Nat} {p : TPrg} {T : Tk} {X : TB} {B : Nat} {v : Value} {l : List Mark} (h : TaskAt w F tb p T X) (ho : Own markE w B v l) (hB : ∀ k, F k ∨ X.D k → k < B) :
    TaskAt ((w.setCell ⟨tb, 5, none⟩ v).setCell ⟨tb, 6, none⟩ (.slice none 0 0)) (fun k => F k ∨ v.ownBlock = some k) tb p ⟨T.base, T.words, T.parts, l⟩ { X with mv := v } ∧ Fr F w ((w.setCell ⟨tb, 5, none⟩ v).setCell ⟨tb, 6, none⟩ (.slice none 0 0)) := by
  have hfs : Fr (fun k => k = tb) w ((w.setCell ⟨tb, 5, none⟩ v).setCell ⟨tb, 6, none⟩ (.slice none 0 0)) := ((Fr.refl (fun k => k = tb) w).setCell (p := ⟨tb, 5, none⟩) (fun _ => rfl) _).setCell (p := ⟨tb, 6, none⟩) (fun _ => rfl) _
  obtain ⟨d1, d2, d3, d4, d5, d6⟩ := h.distinct
  have hv : ∀ k, v.ownBlock = some k → B ≤ k := fun k hk => (ho.lt hk).1
  have htb := hB tb (.inl h.ft)
  refine ⟨?_, hfs.mono (fun k e => e ▸ h.ft)⟩
  constructor
  · have := row_set (row_set h.row 5 v) 6 (.slice none 0 0)
    simpa using this
  · exact h.prg.fr hfs fun k hk e => (h.out k hk).1 (e ▸ h.ft)
  · intro k hk
    refine ⟨fun hk2 => ?_, Nat.lt_of_lt_of_le (h.out k hk).2 hfs.size⟩
    rcases hk2 with h1 | h1
    · exact (h.out k hk).1 h1
    · have h2 := hv k h1
      have h3 := hB k (.inr hk)
      omega
  · exact hfs.heap h.srow (fun e => d1 e.symm)
  · exact hfs.heap h.wrow (fun e => d2 e.symm)
  · exact h.parts.fr hfs (fun k hk e => (d4 k hk).1 e)
  · exact (ho.fr hfs (fun k hk e => by have := hv k hk; omega)).base (fun k _ => Nat.zero_le _)
  · exact Nat.lt_of_lt_of_le h.kb hfs.size
  · exact h.kept.imp fun n hm => hm.fr hfs (fun e => map_ne hm h.row e)
  · exact .inl h.ft
  · exact .inl h.fs
  · exact .inl h.fw
  · exact .inl h.fk
  · exact fun k hk => .inl (h.fp k hk)
  · exact fun k hk => .inr hk
  · intro k hk
    rcases hk with h1 | h1
    · exact Nat.lt_of_lt_of_le (h.flt k h1) hfs.size
    · exact Nat.lt_of_lt_of_le (ho.lt h1).2 hfs.size
end Go.Proofs.Ytmanoclahcpaoaa
