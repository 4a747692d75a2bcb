/- Walk: TaskNeeds, behind its first call. -/
import Derived.Test.YtmanoclahcpaoaaTkS
namespace Go.Proofs.Ytmanoclahcpaoaa
open Go.ChangeShapes Go.WideShapes Go.ChangeAt Go.RowKit Go.Maps

theorem w10 : wordsN p1 (0 : Nat) = 7 := by decide
theorem w11 : wordsN p1 (1 : Nat) = 7 := by decide
/-- d frames of seven words -/
def Inv (T : Tk) (d wl : Nat) : Prop := T.words.length = wl ∧ T.parts.length = d ∧ T.marks.length = d ∧ ∀ k (hk : k < T.parts.length), T.parts[k].base = ((7 * k : Nat) : Int) ∧ (T.parts[k].fn = ((0 : Nat) : Int) ∨ T.parts[k].fn = ((1 : Nat) : Int))
theorem Inv.ok {T : Tk} {d wl : Nat} (h : Inv T d wl) (hd : d ≤ 100) (hw : wl ≤ 1000) : TkOk T := by
  obtain ⟨h1, h2, h3, h4⟩ := h
  refine ⟨by omega, by omega, by omega, fun q hq => ?_⟩
  obtain ⟨k, hk, rfl⟩ := List.getElem_of_mem hq
  rw [(h4 k hk).1]
  omega
theorem Inv.used {T : Tk} {d wl : Nat} (h : Inv T d wl) (hd : 1 ≤ d) : usedN p1 T = ((7 * d : Nat) : Int) := by
  obtain ⟨h1, h2, h3, h4⟩ := h
  obtain ⟨n, rfl⟩ : ∃ n, d = n + 1 := ⟨d - 1, by omega⟩
  rw [usedN_last h2, (h4 n (by omega)).1]
  rcases (h4 n (by omega)).2 with e | e
  · rw [e, w10]; omega
  · rw [e, w11]; omega
theorem Inv.start (wl : Nat) (base : Int) : Inv (enterT ⟨base, List.replicate wl 0, [], []⟩ 0 7 0 (-1) []) 1 wl := by
  refine ⟨?_, rfl, rfl, fun k hk => ?_⟩
  · show (setArgs (clearL (List.replicate wl 0) 0 7) 0 [] 0).length = wl
    rw [setArgs_len, clearL_len, List.length_replicate]
  · have hk2 : k < 1 := hk
    obtain rfl : k = 0 := by omega
    exact ⟨rfl, .inl rfl⟩
theorem Inv.step {T : Tk} {d wl : Nat} (h : Inv T d wl) (al : List Int) : Inv (enterT T (7 * d) 7 1 (-1) al) (d + 1) wl := by
  obtain ⟨h1, h2, h3, h4⟩ := h
  refine ⟨?_, ?_, ?_, fun k hk => ?_⟩
  · show (setArgs (clearL T.words (7 * d) 7) (7 * d) al al.length).length = wl
    rw [setArgs_len, clearL_len, h1]
  · show (T.parts ++ [_]).length = d + 1
    rw [List.length_append, h2]; rfl
  · show (T.marks ++ [_]).length = d + 1
    rw [List.length_append, h3]; rfl
  · by_cases hkd : k < T.parts.length
    · have e : (enterT T (7 * d) 7 1 (-1) al).parts[k] = T.parts[k] := List.getElem_append_left hkd
      rw [e]
      exact h4 k hkd
    · have hk2 : k < (T.parts ++ [(⟨(1 : Nat), 0, (7 * d : Nat), -1, none, 0, 0⟩ : Part)]).length := hk
      rw [List.length_append] at hk2
      have hk3 : k = T.parts.length := by simp at hk2; omega
      subst hk3
      have e : (enterT T (7 * d) 7 1 (-1) al).parts[T.parts.length] = ⟨(1 : Nat), 0, (7 * d : Nat), -1, none, 0, 0⟩ := by
        show (T.parts ++ [(⟨(1 : Nat), 0, (7 * d : Nat), -1, none, 0, 0⟩ : Part)])[T.parts.length] = _
        simp
      rw [e, h2]
      exact ⟨rfl, .inr rfl⟩
end Go.Proofs.Ytmanoclahcpaoaa
