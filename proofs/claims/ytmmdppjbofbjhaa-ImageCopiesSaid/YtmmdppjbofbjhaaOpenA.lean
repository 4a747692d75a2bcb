/- What comes in: an instruction, a slice of instructions, of numbers. -/
import Derived.Test.YtmmdppjbofbjhaaElems
import Derived.ProofKit
import Derived.Deep.Slices
namespace Go.Proofs.Ytmmdppjbofbjhaa
open Go.ChangeShapes Go.WideShapes Go.ChangeAt Go.RowKit

def Ins.wf (x : Ins) : Prop := (-9223372036854775808 ≤ x.op ∧ x.op ≤ 9223372036854775807) ∧ (-9223372036854775808 ≤ x.a ∧ x.a ≤ 9223372036854775807) ∧ (-9223372036854775808 ≤ x.b ∧ x.b ≤ 9223372036854775807) ∧ (-9223372036854775808 ≤ x.c ∧ x.c ≤ 9223372036854775807)
instance : Inhabited Ins := ⟨⟨0, 0, 0, 0⟩⟩
variable {H : Type} {enc : TypeId × Value → H}
theorem cells_ints : Try.prog.cellsOf 3 = 1 ∧ Try.prog.cellsOf 58 = 4 := ⟨by kernel_rfl, by kernel_rfl⟩
theorem trod_one {w : World} {base : Nat} {sp : Nat → Bool} {hd : Bool} {n : Nat} {u : Value} {x : DataW H × List MemPlace} (h : DataW.trod enc Try.prog w base sp hd n 3 [u] = some x) : ∃ z, u = .int .i64 z ∧ -9223372036854775808 ≤ z ∧ z ≤ 9223372036854775807 := by
  obtain ⟨z, h1, _, h3⟩ := DataW.trod_int Try.underlying3 h
  simp only [List.cons.injEq, and_true] at h1
  have := bounds_i64 h3
  exact ⟨z, h1, this⟩
set_option maxRecDepth 100000 in
theorem trod_ins {w : World} {base : Nat} {sp : Nat → Bool} {hd : Bool} {n : Nat} {cs : List Value} {x : DataW H × List MemPlace} (h : DataW.trod enc Try.prog w base sp hd n 58 cs = some x) : ∃ y : Ins, cs = y.cells ∧ y.wf := by
  obtain ⟨xs, m, _, _, hl, hlen, hf⟩ := DataW.trod_struct Try.underlying58 h
  rw [cells_ints.2] at hl
  match cs, hl, xs, hlen with
  | [c0, c1, c2, c3], _, [y0, y1, y2, y3], _ =>
    have f0 : DataW.trod enc Try.prog w base sp hd m 3 (([c0, c1, c2, c3].drop 0).take (Try.prog.cellsOf 3)) = some y0 := hf 0 _ rfl
    have f1 : DataW.trod enc Try.prog w base sp hd m 3 (([c0, c1, c2, c3].drop 1).take (Try.prog.cellsOf 3)) = some y1 := hf 1 _ rfl
    have f2 : DataW.trod enc Try.prog w base sp hd m 3 (([c0, c1, c2, c3].drop 2).take (Try.prog.cellsOf 3)) = some y2 := hf 2 _ rfl
    have f3 : DataW.trod enc Try.prog w base sp hd m 3 (([c0, c1, c2, c3].drop 3).take (Try.prog.cellsOf 3)) = some y3 := hf 3 _ rfl
    rw [cells_ints.1] at f0 f1 f2 f3
    obtain ⟨z0, rfl, b0⟩ := trod_one f0
    obtain ⟨z1, rfl, b1⟩ := trod_one f1
    obtain ⟨z2, rfl, b2⟩ := trod_one f2
    obtain ⟨z3, rfl, b3⟩ := trod_one f3
    exact ⟨⟨z0, z1, z2, z3⟩, rfl, b0, b1, b2, b3⟩

/-- an address whose cell is there is a plain one -/
theorem plain_addr {w : World} {a : Addr} {v : Value} (h : w.cell? a = some v) : a = ⟨a.block, a.off, none⟩ := by
  obtain ⟨b, o, s⟩ := a
  cases s with
  | none => rfl
  | some s =>
    unfold World.cell? at h
    split at h
    · cases h
    · cases h
theorem addr_add (a : Addr) (hs : a.spot = none) (n : Nat) : a.add n = ⟨a.block, a.off + n, none⟩ := by
  unfold Addr.add
  split
  · subst n; obtain ⟨b, o, s⟩ := a; dsimp only at hs; subst hs; rfl
  · obtain ⟨b, o, s⟩ := a; dsimp only at hs; subst hs; rfl
theorem cells_four {w : World} {base : Nat} {a : Addr} {x : Ins} (h : w.cells? base a 4 = some x.cells) : a.spot = none ∧ InsAt w a.block a.off x := by
  obtain ⟨_, _, hc⟩ := World.cells?_some h
  have h0 := hc 0 (by omega)
  have hp : a.add 0 = a := rfl
  rw [hp] at h0
  have hs : a.spot = none := by have := plain_addr (v := .int .i64 x.op) h0; rw [this]
  have h1 := hc 1 (by omega)
  have h2 := hc 2 (by omega)
  have h3 := hc 3 (by omega)
  rw [addr_add a hs] at h1 h2 h3
  have := plain_addr (v := .int .i64 x.op) h0
  rw [this] at h0
  exact ⟨hs, h0, h1, h2, h3⟩

set_option maxRecDepth 100000 in
/-- a slice of instructions that comes in -/
theorem open_instrs {w : World} {base b : Nat} {v : Value} {sp : Nat → Bool} {d : DataW H} {p : List MemPlace} (hv : Value.okWide Try.prog w .any base 35 v)
    (h : DataW.Trod enc Try.prog w b sp true 35 v d p) : ∃ (a : Option Addr) (l : List Ins) (c : Nat), v = .slice a l.length c ∧ InsSl w a l ∧ ∀ x ∈ l, x.wf := by
  obtain ⟨fuel, hf⟩ := h
  obtain ⟨a0, len0, cap0, rfl⟩ := okWide_slice Try.underlying35 hv
  rcases Go.Deep.open_slice Try.underlying35 hf with ⟨hcs, hx⟩ | ⟨a, len, cap, m, n, D, Pl, hcs, hb, hl, hm, hmm, hx, hel⟩
  · simp [Value.cells] at hcs
    obtain ⟨rfl, rfl, rfl⟩ := hcs
    exact ⟨none, [], 0, rfl, (fun j hj => by cases hj), (fun x hx => by cases hx)⟩
  · simp [Value.cells] at hcs
    obtain ⟨rfl, rfl, rfl⟩ := hcs
    have hle : len0 ≤ m := by rw [hmm]; split <;> omega
    rw [cells_ints.2] at hel
    obtain ⟨f, hF⟩ := Go.Deep.choose_lt (α := Ins) (p := fun i y => (a.add (i * 4)).spot = none ∧ InsAt w (a.add (i * 4)).block (a.add (i * 4)).off y ∧ y.wf) (n := len0) (fun i hi => by
      obtain ⟨cs', h1, h2⟩ := hel i (by omega)
      obtain ⟨y, rfl, hwf⟩ := trod_ins h2
      obtain ⟨h3, h4⟩ := cells_four h1
      exact ⟨y, h3, h4, hwf⟩)
    refine ⟨some a, (List.range len0).map f, cap0, by simp, fun j hj => ?_, fun x hx => ?_⟩
    · simp at hj
      have h0 := (hF 0 (by omega)).1
      have ha0 : a.add (0 * 4) = a := by unfold Addr.add; simp
      rw [ha0] at h0
      have hj2 := (hF j hj).2.1
      rw [addr_add a h0] at hj2
      obtain ⟨bb, oo, ss⟩ := a
      dsimp only at h0
      subst h0
      exact ⟨bb, oo, rfl, by simpa using hj2⟩
    · simp at hx
      obtain ⟨i, hi, rfl⟩ := hx
      exact (hF i hi).2.2
end Go.Proofs.Ytmmdppjbofbjhaa
