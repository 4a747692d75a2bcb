/- What comes in: numbers. -/
import Derived.Test.YtmanoclahcpaoaaTkC
import Derived.ProofKit
import Derived.Deep.Slices
namespace Go.Proofs.Ytmanoclahcpaoaa
open Go.ChangeShapes Go.WideShapes Go.ChangeAt Go.RowKit

variable {H : Type} {enc : TypeId × Value → H}
theorem cells_int : Try.prog.cellsOf 3 = 1 := by kernel_rfl
theorem trod_one {w : World} {base : Nat} {sp : Nat → Bool} {hd : Bool} {n : Nat} {u : Value} {x : DataW H × List MemPlace} (h : DataW.trod enc Try.prog w base sp hd n 3 [u] = some x) : ∃ z, u = .int .i64 z ∧ -9223372036854775808 ≤ z ∧ z ≤ 9223372036854775807 := by
  obtain ⟨z, h1, _, h3⟩ := DataW.trod_int Try.underlying3 h
  simp only [List.cons.injEq, and_true] at h1
  have := bounds_i64 h3
  exact ⟨z, h1, this⟩
theorem plain_addr {w : World} {a : Addr} {v : Value} (h : w.cell? a = some v) : a = ⟨a.block, a.off, none⟩ := by
  obtain ⟨b, o, s⟩ := a
  cases s with
  | none => rfl
  | some s =>
    unfold World.cell? at h
    split at h
    · cases h
    · cases h
theorem addr_add (a : Addr) (hs : a.spot = none) (n : Nat) : a.add n = ⟨a.block, a.off + n, none⟩ := by
  unfold Addr.add
  split
  · subst n; obtain ⟨b, o, s⟩ := a; dsimp only at hs; subst hs; rfl
  · obtain ⟨b, o, s⟩ := a; dsimp only at hs; subst hs; rfl
set_option maxRecDepth 100000 in
/-- numbers that come in -/
theorem open_ints {w : World} {base b : Nat} {v : Value} {sp : Nat → Bool} {d : DataW H} {p : List MemPlace} (hv : Value.okWide Try.prog w .any base 23 v)
    (h : DataW.Trod enc Try.prog w b sp true 23 v d p) : ∃ (a : Option Addr) (l : List Int) (c : Nat), v = .slice a l.length c ∧ IntSl w (fun k => k < w.heap.size) a l := by
  obtain ⟨fuel, hf⟩ := h
  obtain ⟨a0, len0, cap0, rfl⟩ := okWide_slice Try.underlying23 hv
  rcases Go.Deep.open_slice Try.underlying23 hf with ⟨hcs, hx⟩ | ⟨a, len, cap, m, n, D, Pl, hcs, hb, hl, hm, hmm, hx, hel⟩
  · simp [Value.cells] at hcs
    obtain ⟨rfl, rfl, rfl⟩ := hcs
    exact ⟨none, [], 0, rfl, (fun j hj => by cases hj)⟩
  · simp [Value.cells] at hcs
    obtain ⟨rfl, rfl, rfl⟩ := hcs
    have hle : len0 ≤ m := by rw [hmm]; split <;> omega
    rw [cells_int] at hel
    obtain ⟨f, hF⟩ := Go.Deep.choose_lt (α := Int) (p := fun i y => w.cell? (a.add i) = some (.int .i64 y)) (n := len0) (fun i hi => by
      obtain ⟨cs', h1, h2⟩ := hel i (by omega)
      obtain ⟨_, hlen, hc⟩ := World.cells?_some h1
      have h0 := hc 0 (by omega)
      match cs', hlen with
      | [u], _ =>
        obtain ⟨z, rfl, _⟩ := trod_one h2
        have hp : (a.add (i * 1)).add 0 = a.add (i * 1) := rfl
        rw [hp, Nat.mul_one] at h0
        exact ⟨z, by simpa using h0⟩)
    refine ⟨some a, (List.range len0).map f, cap0, by simp, fun j hj => ?_⟩
    simp at hj
    have h0 := hF 0 (by omega)
    have ha0 : a.add 0 = a := rfl
    rw [ha0] at h0
    have hp := plain_addr h0
    have hj2 := hF j hj
    obtain ⟨bb, oo, ss⟩ := a
    injection hp with _ _ hss
    subst hss
    rw [addr_add _ rfl] at hj2
    exact ⟨bb, oo, rfl, World.block_lt h0, by simpa using hj2⟩
end Go.Proofs.Ytmanoclahcpaoaa
