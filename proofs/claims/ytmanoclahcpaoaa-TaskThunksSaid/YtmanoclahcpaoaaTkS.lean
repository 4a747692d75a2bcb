/- Walk: the statements' program of two functions. -/
import Derived.Test.YtmanoclahcpaoaaTkR
namespace Go.Proofs.Ytmanoclahcpaoaa
open Go.ChangeShapes Go.WideShapes Go.ChangeAt Go.RowKit Go.Maps

def p1 : TPrg := ⟨[2], [⟨0, 3, [0]⟩, ⟨2, 3, [0]⟩]⟩
theorem p1_small : PSmall p1 := by
  unfold PSmall p1
  simp
set_option maxRecDepth 100000 in
set_option maxHeartbeats 3200000 in
theorem one_any (w : World) :
    Calls Try.prog 7 #[] w fun e w' => ∃ c0 c1 c2, e = .returned (.agg #[c0, c1, c2]) ∧ PV w' (fun k => w.heap.size ≤ k ∧ k < w'.heap.size) p1 c0 c1 c2 ∧ Below w.heap.size w w' := by
  obtain ⟨W1, h1⟩ : ∃ W1, W1 = w.alloc (.cells #[.slice none 0 0, .slice (some ⟨w.heap.size + 1 + 1 + 1, 0, none⟩) 1 1, .slice (some ⟨w.heap.size + 1 + 1 + 1 + 1 + 1 + 1 + 1, 0, none⟩) 2 2] 27) := ⟨_, rfl⟩
  have s1 : W1.heap.size = w.heap.size + 1 := by rw [h1]; simp
  have b1 : Below w.heap.size w W1 := by rw [h1]; exact (Below.refl _ _).alloc (Nat.le_refl _) _
  have r0 : W1.heap[w.heap.size]? = some (.cells #[.slice none 0 0, .slice (some ⟨w.heap.size + 1 + 1 + 1, 0, none⟩) 1 1, .slice (some ⟨w.heap.size + 1 + 1 + 1 + 1 + 1 + 1 + 1, 0, none⟩) 2 2] 27) := by rw [h1]; exact heap_new _ _
  obtain ⟨W2, h2⟩ : ∃ W2, W2 = W1.alloc (.cells #[.int .i64 18, .int .i64 2, .int .i64 0, .int .i64 0, .int .i64 27, .int .i64 0, .int .i64 0, .int .i64 0] 42) := ⟨_, rfl⟩
  have s2 : W2.heap.size = w.heap.size + 1 + 1 := by rw [h2]; simp [s1]
  have b2 : Below W1.heap.size W1 W2 := by rw [h2]; exact (Below.refl _ _).alloc (Nat.le_refl _) _
  have r1 : W2.heap[w.heap.size + 1]? = some (.cells #[.int .i64 18, .int .i64 2, .int .i64 0, .int .i64 0, .int .i64 27, .int .i64 0, .int .i64 0, .int .i64 0] 42) := by rw [h2, ← s1]; exact heap_new _ _
  obtain ⟨W3, h3⟩ : ∃ W3, W3 = W2.alloc (.cells #[.int .i64 1, .int .i64 1] 3) := ⟨_, rfl⟩
  have s3 : W3.heap.size = w.heap.size + 1 + 1 + 1 := by rw [h3]; simp [s2]
  have b3 : Below W2.heap.size W2 W3 := by rw [h3]; exact (Below.refl _ _).alloc (Nat.le_refl _) _
  have r2 : W3.heap[w.heap.size + 1 + 1]? = some (.cells #[.int .i64 1, .int .i64 1] 3) := by rw [h3, ← s2]; exact heap_new _ _
  obtain ⟨W4, h4⟩ : ∃ W4, W4 = W3.alloc (.cells #[.slice (some ⟨w.heap.size + 1 + 1, 0, none⟩) 2 2] 55) := ⟨_, rfl⟩
  have s4 : W4.heap.size = w.heap.size + 1 + 1 + 1 + 1 := by rw [h4]; simp [s3]
  have b4 : Below W3.heap.size W3 W4 := by rw [h4]; exact (Below.refl _ _).alloc (Nat.le_refl _) _
  have r3 : W4.heap[w.heap.size + 1 + 1 + 1]? = some (.cells #[.slice (some ⟨w.heap.size + 1 + 1, 0, none⟩) 2 2] 55) := by rw [h4, ← s3]; exact heap_new _ _
  obtain ⟨W5, h5⟩ : ∃ W5, W5 = W4.alloc (.cells #[.int .i64 0] 3) := ⟨_, rfl⟩
  have s5 : W5.heap.size = w.heap.size + 1 + 1 + 1 + 1 + 1 := by rw [h5]; simp [s4]
  have b5 : Below W4.heap.size W4 W5 := by rw [h5]; exact (Below.refl _ _).alloc (Nat.le_refl _) _
  have r4 : W5.heap[w.heap.size + 1 + 1 + 1 + 1]? = some (.cells #[.int .i64 0] 3) := by rw [h5, ← s4]; exact heap_new _ _
  obtain ⟨W6, h6⟩ : ∃ W6, W6 = W5.alloc (.cells #[.int .i64 1, .int .i64 1] 3) := ⟨_, rfl⟩
  have s6 : W6.heap.size = w.heap.size + 1 + 1 + 1 + 1 + 1 + 1 := by rw [h6]; simp [s5]
  have b6 : Below W5.heap.size W5 W6 := by rw [h6]; exact (Below.refl _ _).alloc (Nat.le_refl _) _
  have r5 : W6.heap[w.heap.size + 1 + 1 + 1 + 1 + 1]? = some (.cells #[.int .i64 1, .int .i64 1] 3) := by rw [h6, ← s5]; exact heap_new _ _
  obtain ⟨W7, h7⟩ : ∃ W7, W7 = W6.alloc (.cells #[.int .i64 0] 3) := ⟨_, rfl⟩
  have s7 : W7.heap.size = w.heap.size + 1 + 1 + 1 + 1 + 1 + 1 + 1 := by rw [h7]; simp [s6]
  have b7 : Below W6.heap.size W6 W7 := by rw [h7]; exact (Below.refl _ _).alloc (Nat.le_refl _) _
  have r6 : W7.heap[w.heap.size + 1 + 1 + 1 + 1 + 1 + 1]? = some (.cells #[.int .i64 0] 3) := by rw [h7, ← s6]; exact heap_new _ _
  obtain ⟨W8, h8⟩ : ∃ W8, W8 = W7.alloc (.cells #[.slice none 0 0, .int .i64 0, .int .i64 3, .slice (some ⟨w.heap.size + 1 + 1 + 1 + 1, 0, none⟩) 1 1, .slice (some ⟨w.heap.size + 1, 0, none⟩) 2 2, .slice (some ⟨w.heap.size + 1 + 1 + 1 + 1 + 1, 0, none⟩) 2 2, .int .i64 1, .int .i64 3, .slice (some ⟨w.heap.size + 1 + 1 + 1 + 1 + 1 + 1, 0, none⟩) 1 1, .slice (some ⟨w.heap.size + 1, 0, none⟩) 2 2] 45) := ⟨_, rfl⟩
  have s8 : W8.heap.size = w.heap.size + 1 + 1 + 1 + 1 + 1 + 1 + 1 + 1 := by rw [h8]; simp [s7]
  have b8 : Below W7.heap.size W7 W8 := by rw [h8]; exact (Below.refl _ _).alloc (Nat.le_refl _) _
  have r7 : W8.heap[w.heap.size + 1 + 1 + 1 + 1 + 1 + 1 + 1]? = some (.cells #[.slice none 0 0, .int .i64 0, .int .i64 3, .slice (some ⟨w.heap.size + 1 + 1 + 1 + 1, 0, none⟩) 1 1, .slice (some ⟨w.heap.size + 1, 0, none⟩) 2 2, .slice (some ⟨w.heap.size + 1 + 1 + 1 + 1 + 1, 0, none⟩) 2 2, .int .i64 1, .int .i64 3, .slice (some ⟨w.heap.size + 1 + 1 + 1 + 1 + 1 + 1, 0, none⟩) 1 1, .slice (some ⟨w.heap.size + 1, 0, none⟩) 2 2] 45) := by rw [h8, ← s7]; exact heap_new _ _
  have r0 := (Fr.of_below b2 (fun _ => False)).heap r0 (fun h => h)
  have r0 := (Fr.of_below b3 (fun _ => False)).heap r0 (fun h => h)
  have r0 := (Fr.of_below b4 (fun _ => False)).heap r0 (fun h => h)
  have r0 := (Fr.of_below b5 (fun _ => False)).heap r0 (fun h => h)
  have r0 := (Fr.of_below b6 (fun _ => False)).heap r0 (fun h => h)
  have r0 := (Fr.of_below b7 (fun _ => False)).heap r0 (fun h => h)
  have r0 := (Fr.of_below b8 (fun _ => False)).heap r0 (fun h => h)
  have r1 := (Fr.of_below b3 (fun _ => False)).heap r1 (fun h => h)
  have r1 := (Fr.of_below b4 (fun _ => False)).heap r1 (fun h => h)
  have r1 := (Fr.of_below b5 (fun _ => False)).heap r1 (fun h => h)
  have r1 := (Fr.of_below b6 (fun _ => False)).heap r1 (fun h => h)
  have r1 := (Fr.of_below b7 (fun _ => False)).heap r1 (fun h => h)
  have r1 := (Fr.of_below b8 (fun _ => False)).heap r1 (fun h => h)
  have r2 := (Fr.of_below b4 (fun _ => False)).heap r2 (fun h => h)
  have r2 := (Fr.of_below b5 (fun _ => False)).heap r2 (fun h => h)
  have r2 := (Fr.of_below b6 (fun _ => False)).heap r2 (fun h => h)
  have r2 := (Fr.of_below b7 (fun _ => False)).heap r2 (fun h => h)
  have r2 := (Fr.of_below b8 (fun _ => False)).heap r2 (fun h => h)
  have r3 := (Fr.of_below b5 (fun _ => False)).heap r3 (fun h => h)
  have r3 := (Fr.of_below b6 (fun _ => False)).heap r3 (fun h => h)
  have r3 := (Fr.of_below b7 (fun _ => False)).heap r3 (fun h => h)
  have r3 := (Fr.of_below b8 (fun _ => False)).heap r3 (fun h => h)
  have r4 := (Fr.of_below b6 (fun _ => False)).heap r4 (fun h => h)
  have r4 := (Fr.of_below b7 (fun _ => False)).heap r4 (fun h => h)
  have r4 := (Fr.of_below b8 (fun _ => False)).heap r4 (fun h => h)
  have r5 := (Fr.of_below b7 (fun _ => False)).heap r5 (fun h => h)
  have r5 := (Fr.of_below b8 (fun _ => False)).heap r5 (fun h => h)
  have r6 := (Fr.of_below b8 (fun _ => False)).heap r6 (fun h => h)
  have hb : Below w.heap.size w W8 := b1|>.trans (b2.mono (by omega))|>.trans (b3.mono (by omega))|>.trans (b4.mono (by omega))|>.trans (b5.mono (by omega))|>.trans (b6.mono (by omega))|>.trans (b7.mono (by omega))|>.trans (b8.mono (by omega))
  have hpv : PV W8 (fun k => w.heap.size ≤ k ∧ k < W8.heap.size) p1 (.slice none 0 0) (.slice (some ⟨w.heap.size + 1 + 1 + 1, 0, none⟩) 1 1) (.slice (some ⟨w.heap.size + 1 + 1 + 1 + 1 + 1 + 1 + 1, 0, none⟩) 2 2) := by
    refine ⟨⟨none, 0, 0, rfl⟩, ⟨_, 1, rfl, fun j hj => ?_⟩, _, 2, rfl, fun j hj => ?_⟩
    · obtain rfl : j = 0 := by have : j < 1 := hj; omega
      exact ⟨_, 0, rfl, ⟨by omega, by omega⟩, _, 2, (row_cell r3 0).1⟩
    · have hj2 : j = 0 ∨ j = 1 := by have : j < 2 := hj; omega
      rcases hj2 with rfl | rfl
      · refine ⟨_, 0, rfl, ⟨by omega, by omega⟩, _, _, _, _, _, (row_cell r7 0).1, (row_cell r7 1).1, (row_cell r7 2).1, (row_cell r7 3).1, (row_cell r7 4).1, ⟨none, 0, rfl⟩, ⟨0, rfl⟩, rfl, ⟨_, 1, rfl, fun i hi => ?_⟩, _, _, _, rfl⟩
        obtain rfl : i = 0 := by have : i < 1 := hi; omega
        exact ⟨_, 0, rfl, ⟨by omega, by omega⟩, (row_cell r4 0).1⟩
      · refine ⟨_, 0, rfl, ⟨by omega, by omega⟩, _, _, _, _, _, (row_cell r7 5).1, (row_cell r7 6).1, (row_cell r7 7).1, (row_cell r7 8).1, (row_cell r7 9).1, ⟨_, _, rfl⟩, ⟨1, rfl⟩, rfl, ⟨_, 1, rfl, fun i hi => ?_⟩, _, _, _, rfl⟩
        obtain rfl : i = 0 := by have : i < 1 := hi; omega
        exact ⟨_, 0, rfl, ⟨by omega, by omega⟩, (row_cell r6 0).1⟩
  have k0 : W8.cell? ⟨w.heap.size, 0, none⟩ = some (.slice none 0 0) := (row_cell r0 0).1
  have k1 : W8.cell? ⟨w.heap.size, 1, none⟩ = some (.slice (some ⟨w.heap.size + 1 + 1 + 1, 0, none⟩) 1 1) := (row_cell r0 1).1
  have k2 : W8.cell? ⟨w.heap.size, 2, none⟩ = some (.slice (some ⟨w.heap.size + 1 + 1 + 1 + 1 + 1 + 1 + 1, 0, none⟩) 2 2) := (row_cell r0 2).1
  have hW : (((((((w.alloc (.cells #[.slice none 0 0, .slice (some ⟨w.heap.size + 1 + 1 + 1, 0, none⟩) 1 1, .slice (some ⟨w.heap.size + 1 + 1 + 1 + 1 + 1 + 1 + 1, 0, none⟩) 2 2] 27)).alloc (.cells #[.int .i64 18, .int .i64 2, .int .i64 0, .int .i64 0, .int .i64 27, .int .i64 0, .int .i64 0, .int .i64 0] 42)).alloc (.cells #[.int .i64 1, .int .i64 1] 3)).alloc (.cells #[.slice (some ⟨w.heap.size + 1 + 1, 0, none⟩) 2 2] 55)).alloc (.cells #[.int .i64 0] 3)).alloc (.cells #[.int .i64 1, .int .i64 1] 3)).alloc (.cells #[.int .i64 0] 3)).alloc (.cells #[.slice none 0 0, .int .i64 0, .int .i64 3, .slice (some ⟨w.heap.size + 1 + 1 + 1 + 1, 0, none⟩) 1 1, .slice (some ⟨w.heap.size + 1, 0, none⟩) 2 2, .slice (some ⟨w.heap.size + 1 + 1 + 1 + 1 + 1, 0, none⟩) 2 2, .int .i64 1, .int .i64 3, .slice (some ⟨w.heap.size + 1 + 1 + 1 + 1 + 1 + 1, 0, none⟩) 1 1, .slice (some ⟨w.heap.size + 1, 0, none⟩) 2 2] 45) = W8 := by rw [h8, h7, h6, h5, h4, h3, h2, h1]

  have HK := Lib.hid (And.intro k0 (And.intro k1 k2))
  have HP := Lib.hid (And.intro hpv hb)
  clear r0 r1 r2 r3 r4 r5 r6 r7 b1 b2 b3 b4 b5 b6 b7 b8 s1 s2 s3 s4 s5 s6 s7 s8 k0 k1 k2 hpv hb h1 h2 h3 h4 h5 h6 h7 h8
  have HW := Lib.hid hW
  clear hW
  go_enter Try.func7, Try.ntmps7
  go_upto_region 2 with fail
  go_wp2_with fail
  rw [HW.out]
  obtain ⟨k0, k1, k2⟩ := HK.out
  refine bodyPost_ret ?_ rfl ⟨_, _, _, rfl, HP.out.1, HP.out.2⟩
  simp [results, Try.results7, go_sem, k0, k1, k2]
end Go.Proofs.Ytmanoclahcpaoaa
