/- Walk: the first call of chapter 9's statements; and what is laid is read again. -/
import Derived.Test.YtmmdppjbofbjhaaRead
import Derived.Test.YtmmdppjbofbjhaaOpenA
namespace Go.Proofs.Ytmmdppjbofbjhaa
open Go.ChangeShapes Go.WideShapes Go.ChangeAt Go.RowKit

theorem bytesS_size (l : List Int) : (bytesS l).size = l.length := by
  show (List.map _ l).toArray.size = _
  simp
theorem gb_bytesS (l : List Int) (i : Nat) (h : i < l.length) (hb : 0 ≤ l[i] ∧ l[i] < 256) : gb (bytesS l) i = l[i] := by
  unfold gb bytesS
  simp [Array.getD_eq_getD_getElem?, h]
  omega
theorem gb_extract (b : ByteArray) (k i : Nat) (h : i < k) (hk : k ≤ b.size) : gb (b.extract 0 k) i = gb b i := by
  have hs : i < (b.extract 0 k).size := by simp; omega
  rw [← gb_get _ i hs, ← gb_get b i (by omega), ByteArray.getElem_extract]
  simp
theorem layL_get (l : List Ins) (j : Nat) (hj : j < l.length) (r : Nat) (hr : r < 7) : (layL l)[7 * j + r]? = (layI l[j])[r]? := by
  induction l generalizing j with
  | nil => cases hj
  | cons x l ih =>
    have e : layL (x :: l) = layI x ++ layL l := rfl
    rw [e]
    cases j with
    | zero =>
      rw [Nat.mul_zero, Nat.zero_add, List.getElem?_append_left (by simpa [layI] using hr)]; rfl
    | succ j =>
      rw [List.getElem?_append_right (by simp [layI]; omega)]
      have : 7 * (j + 1) + r - (layI x).length = 7 * j + r := by simp [layI]; omega
      rw [this, ih j (by simpa using hj)]
      rfl
theorem layI_bd (x : Ins) (hx : rightB x = true) : ∀ y ∈ layI x, 0 ≤ y ∧ y < 256 := by
  intro y hy
  simp only [layI, List.mem_cons, List.not_mem_nil, or_false] at hy
  rcases hy with rfl | rfl | rfl | rfl | rfl | rfl | rfl <;> (try unfold byteOf) <;> omega
theorem gb_lay (l : List Ins) (hl : laid l = true) (j : Nat) (hj : j < l.length) (r : Nat) (hr : r < 7) : gb (bytesS (layL l)) (7 * j + r) = (layI l[j])[r]'(by simpa [layI] using hr) := by
  have h1 := layL_get l j hj r hr
  have hr' : r < (layI l[j]).length := by simpa [layI] using hr
  rw [List.getElem?_eq_getElem hr'] at h1
  obtain ⟨hlt, h2⟩ := List.getElem?_eq_some_iff.1 h1
  have hx : rightB l[j] = true := by
    unfold laid at hl
    exact List.all_eq_true.1 hl _ (List.getElem_mem hj)
  rw [gb_bytesS _ _ hlt (by rw [h2]; exact layI_bd _ hx _ (List.getElem_mem hr')), h2]
theorem right_parts {x : Ins} (h : rightB x = true) : (0 ≤ x.op ∧ x.op ≤ 29) ∧ (0 ≤ x.a ∧ x.a ≤ 255) ∧ (0 ≤ x.c ∧ x.c ≤ 255) ∧ wrap32 x.b = x.b := by
  simp [rightB, knownS] at h
  omega
theorem rd_lay (l : List Ins) (hl : laid l = true) (j : Nat) (hj : j < l.length) : rdAt (bytesS (layL l)) (7 * j) = l[j] := by
  have hx : rightB l[j] = true := by
    unfold laid at hl
    exact List.all_eq_true.1 hl _ (List.getElem_mem hj)
  obtain ⟨h1, h2, h3, h4⟩ := right_parts hx
  have g := gb_lay l hl j hj
  have g0 := g 0 (by omega)
  have g1 := g 1 (by omega)
  have g2 := g 2 (by omega)
  have g3 := g 3 (by omega)
  have g4 := g 4 (by omega)
  have g5 := g 5 (by omega)
  have g6 := g 6 (by omega)
  simp only [layI, List.getElem_cons_zero, List.getElem_cons_succ, Nat.add_zero] at g0 g1 g2 g3 g4 g5 g6
  unfold rdAt
  rw [g0, g1, g2, g3, g4, g5, g6, read_bytes, h4]
  have e : ∀ x : Ins, (0 ≤ x.op ∧ x.op ≤ 29) → (0 ≤ x.a ∧ x.a ≤ 255) → (0 ≤ x.c ∧ x.c ≤ 255) → (⟨x.op % 256, x.a % 256, x.b, x.c % 256⟩ : Ins) = x := by
    rintro ⟨op, a, b, c⟩ h1 h2 h3
    dsimp only at h1 h2 h3
    simp
    omega
  exact e _ h1 h2 h3
theorem rd_prefix (b : ByteArray) (k j : Nat) (hk : k ≤ b.size) (hj : 7 * j + 7 ≤ k) : rdAt (b.extract 0 k) (7 * j) = rdAt b (7 * j) := by
  unfold rdAt
  rw [gb_extract b k _ (by omega) hk, gb_extract b k _ (by omega) hk, gb_extract b k _ (by omega) hk, gb_extract b k _ (by omega) hk, gb_extract b k _ (by omega) hk, gb_extract b k _ (by omega) hk, gb_extract b k _ (by omega) hk]
theorem rdAll_prefix (l : List Ins) (hl : laid l = true) (k n : Nat) (hk : k ≤ 7 * l.length) (hn : 7 * n ≤ k) : rdAll ((bytesS (layL l)).extract 0 k) n = l.take n := by
  apply List.ext_getElem
  · rw [rdAll_len, List.length_take]; omega
  · intro i h1 h2
    rw [rdAll_len] at h1
    simp only [rdAll, List.getElem_map, List.getElem_range, List.getElem_take]
    rw [rd_prefix _ k i (by rw [bytesS_size, layL_len]; exact hk) (by omega), rd_lay l hl i (by omega)]
theorem laid_take (l : List Ins) (hl : laid l = true) (n : Nat) : (l.take n).all rightB = true := by
  rw [List.all_eq_true] at *
  unfold laid at hl
  rw [List.all_eq_true] at hl
  exact fun x hx => hl x (List.mem_of_mem_take hx)
/-- what is laid, cut behind k bytes, reads as the first instructions, or as none -/
theorem read_prefix (l : List Ins) (hl : laid l = true) (k : Nat) (hk : k ≤ 7 * l.length) :
    readOk ((bytesS (layL l)).extract 0 k) = (k % 7 == 0) ∧ (k % 7 = 0 → readL ((bytesS (layL l)).extract 0 k) = l.take (k / 7)) := by
  have hs : ((bytesS (layL l)).extract 0 k).size = k := by
    rw [ByteArray.size_extract, bytesS_size, layL_len]; omega
  have hok : readOk ((bytesS (layL l)).extract 0 k) = (k % 7 == 0) := by
    unfold readOk
    rw [hs, rdAll_prefix l hl k (k / 7) hk (by omega), laid_take l hl, Bool.and_true]
  refine ⟨hok, fun h7 => ?_⟩
  unfold readL
  rw [hok, hs, rdAll_prefix l hl k (k / 7) hk (by omega), if_pos (by simpa using h7)]
theorem extract_all (b : ByteArray) : b.extract 0 b.size = b := by
  apply ByteArray.ext
  simp
theorem read_lay (l : List Ins) (hl : laid l = true) : readOk (bytesS (layL l)) = true ∧ readL (bytesS (layL l)) = l := by
  have h := read_prefix l hl (7 * l.length) (Nat.le_refl _)
  have e : (bytesS (layL l)).extract 0 (7 * l.length) = bytesS (layL l) := by
    have := extract_all (bytesS (layL l))
    rw [bytesS_size, layL_len] at this
    exact this
  rw [e] at h
  refine ⟨by rw [h.1]; simp, ?_⟩
  have := h.2 (by omega)
  rw [this, show 7 * l.length / 7 = l.length from by omega, List.take_length]

set_option maxRecDepth 100000 in
set_option maxHeartbeats 1600000 in
theorem alive9 (w : World) :
    Calls Try.prog 34 #[] w fun e w' => e = .returned (.bool true) ∧ Below w.heap.size w w' := by
  have hlaid : laid [⟨1, 1, -1, 0⟩] = true := by decide +kernel
  have hres : layRes [⟨1, 1, -1, 0⟩] = .tuple #[.string ⟨#[1, 1, 0, 255, 255, 255, 255]⟩, .int .i64 0] := by
    unfold layRes
    rw [if_pos hlaid, show bytesS (layL [⟨1, 1, -1, 0⟩]) = ⟨#[1, 1, 0, 255, 255, 255, 255]⟩ from by decide +kernel]
  have hok : readOk ⟨#[1, 1, 0, 255, 255, 255, 255]⟩ = true := by decide +kernel
  have hrl : readL ⟨#[1, 1, 0, 255, 255, 255, 255]⟩ = [⟨1, 1, -1, 0⟩] := by
    have h := (read_lay [⟨1, 1, -1, 0⟩] hlaid).2
    rw [show bytesS (layL [⟨1, 1, -1, 0⟩]) = ⟨#[1, 1, 0, 255, 255, 255, 255]⟩ from by decide +kernel] at h
    exact h
  have ly := fun (w : World) => lay_any [⟨1, 1, -1, 0⟩] (some ⟨w.heap.size, 0, none⟩) 1 (w.alloc (.cells #[.int .i64 1, .int .i64 1, .int .i64 (-1), .int .i64 0] 58)) (by decide) (by
    intro j hj
    have : j = 0 := by simpa using hj
    subst this
    exact ⟨w.heap.size, 0, rfl, cell_new w _ _ _ 0, cell_new w _ _ _ 1, cell_new w _ _ _ 2, cell_new w _ _ _ 3⟩)
  rw [hres] at ly
  have rd := fun w => read_code ⟨#[1, 1, 0, 255, 255, 255, 255]⟩ w (by decide)
  have k1 := known_any 29
  have k2 := known_any 30
  rw [show knownS 29 = true from by decide +kernel] at k1
  rw [show knownS 30 = false from by decide +kernel] at k2
  have LY := Lib.hid ly; clear ly
  have RD := Lib.hid rd; clear rd
  have K1 := Lib.hid k1; clear k1
  have K2 := Lib.hid k2; clear k2
  have HOK := Lib.hid hok; clear hok
  have HRL := Lib.hid hrl; clear hrl
  clear hres hlaid
  go_enter Try.func34, Try.ntmps34
  go_wp2_with fail
  refine (LY.out _).mono ?_
  rintro e w1 ⟨rfl, hb1⟩
  have HB1 := Lib.hid (((Below.refl w.heap.size w).alloc (Nat.le_refl _) _).trans (hb1.mono (by simp)))
  clear hb1
  go_wp2_with fail
  refine (RD.out _).mono ?_
  rintro e w2 ⟨v, rfl, hown, hb2⟩
  rw [HOK.out, HRL.out] at *
  obtain ⟨a, c, rfl, hsl⟩ := own_ins hown
  obtain ⟨b, o, rfl, _, _, hc, _⟩ := hsl 0 (by decide)
  have HB2 := Lib.hid (HB1.out.trans (hb2.mono HB1.out.size))
  have hc : w2.cell? ⟨b, o + 2, none⟩ = some (.int .i64 (-1)) := by simpa using hc
  clear hb2 hown hsl
  go_wp2_with fail
  refine (K1.out _).mono ?_
  rintro e w3 ⟨rfl, rfl⟩
  go_wp2_with fail
  refine (K2.out _).mono ?_
  rintro e w3 ⟨rfl, rfl⟩
  go_wp2_with fail
  go_ret
  exact ⟨rfl, HB2.out⟩
end Go.Proofs.Ytmmdppjbofbjhaa
