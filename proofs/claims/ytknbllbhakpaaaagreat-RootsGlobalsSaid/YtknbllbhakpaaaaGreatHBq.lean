/- Walk: the first call of chapter 17's statements. A map's size; the globals of the law on globals. A map's size, as a step of the walk. A law's end: it answered true, and below the heap's old size nothing has turned: then each argument reads as it did. Nothing of the program stands here. -/
import Derived.Test.YtknbllbhakpaaaaGreatHBp
import Derived.Test.YtknbllbhakpaaaaGreatHAg
import Derived.Test.YtknbllbhakpaaaaGreatHAa
import Derived.ProofKit
set_option linter.unusedVariables false
set_option linter.unusedSimpArgs false
namespace Go.Proofs.YtknbllbhakpaaaaGreat
open Go.ChangeShapes Go.WideShapes Go.ChangeAt Go.RowKit Go.Maps
set_option maxRecDepth 100000 in
set_option maxHeartbeats 3200000 in
theorem alive17 (w : World) :
    Calls Tryz.prog 8 #[] w fun e w' => e = .returned (.bool true) ∧ Below w.heap.size w w' := by
  obtain ⟨W1, h1⟩ : ∃ W1, W1 = w.alloc (.cells #[.int .i64 1] 3) := ⟨_, rfl⟩
  have s1 : W1.heap.size = w.heap.size + 1 := by rw [h1]; simp
  have b1 : Below w.heap.size w W1 := by rw [h1]; exact (Below.refl _ _).alloc (Nat.le_refl _) _
  have r0 : W1.heap[w.heap.size]? = some (.cells #[.int .i64 1] 3) := by rw [h1]; exact heap_new _ _
  obtain ⟨W2, h2⟩ : ∃ W2, W2 = W1.alloc (.cells #[.slice (some ⟨w.heap.size, 0, none⟩) 1 1] 25) := ⟨_, rfl⟩
  have s2 : W2.heap.size = w.heap.size + 1 + 1 := by rw [h2]; simp [s1]
  have b2 : Below W1.heap.size W1 W2 := by rw [h2]; exact (Below.refl _ _).alloc (Nat.le_refl _) _
  have r0 := (Fr.of_below b2 (fun _ => False)).heap r0 (fun h => h)
  have r1 : W2.heap[w.heap.size + 1]? = some (.cells #[.slice (some ⟨w.heap.size, 0, none⟩) 1 1] 25) := by rw [h2, ← s1]; exact heap_new _ _
  obtain ⟨W3, h3⟩ : ∃ W3, W3 = W2.alloc (.cells #[.int .i64 11, .int .i64 0, .int .i64 0, .int .i64 0, .int .i64 27, .int .i64 0, .int .i64 0, .int .i64 0] 28) := ⟨_, rfl⟩
  have s3 : W3.heap.size = w.heap.size + 1 + 1 + 1 := by rw [h3]; simp [s2]
  have b3 : Below W2.heap.size W2 W3 := by rw [h3]; exact (Below.refl _ _).alloc (Nat.le_refl _) _
  have r0 := (Fr.of_below b3 (fun _ => False)).heap r0 (fun h => h)
  have r1 := (Fr.of_below b3 (fun _ => False)).heap r1 (fun h => h)
  have r2 : W3.heap[w.heap.size + 1 + 1]? = some (.cells #[.int .i64 11, .int .i64 0, .int .i64 0, .int .i64 0, .int .i64 27, .int .i64 0, .int .i64 0, .int .i64 0] 28) := by rw [h3, ← s2]; exact heap_new _ _
  obtain ⟨W4, h4⟩ : ∃ W4, W4 = W3.alloc (.cells #[.slice none 0 0, .int .i64 0, .int .i64 1, .slice none 0 0, .slice (some ⟨w.heap.size + 1 + 1, 0, none⟩) 2 2] 31) := ⟨_, rfl⟩
  have s4 : W4.heap.size = w.heap.size + 1 + 1 + 1 + 1 := by rw [h4]; simp [s3]
  have b4 : Below W3.heap.size W3 W4 := by rw [h4]; exact (Below.refl _ _).alloc (Nat.le_refl _) _
  have r0 := (Fr.of_below b4 (fun _ => False)).heap r0 (fun h => h)
  have r1 := (Fr.of_below b4 (fun _ => False)).heap r1 (fun h => h)
  have r2 := (Fr.of_below b4 (fun _ => False)).heap r2 (fun h => h)
  have r3 : W4.heap[w.heap.size + 1 + 1 + 1]? = some (.cells #[.slice none 0 0, .int .i64 0, .int .i64 1, .slice none 0 0, .slice (some ⟨w.heap.size + 1 + 1, 0, none⟩) 2 2] 31) := by rw [h4, ← s3]; exact heap_new _ _
  obtain ⟨W5, h5⟩ : ∃ W5, W5 = W4.alloc (.cells #[.slice none 0 0, .slice (some ⟨w.heap.size + 1, 0, none⟩) 1 1, .slice (some ⟨w.heap.size + 1 + 1 + 1, 0, none⟩) 1 1] 34) := ⟨_, rfl⟩
  have s5 : W5.heap.size = w.heap.size + 1 + 1 + 1 + 1 + 1 := by rw [h5]; simp [s4]
  have b5 : Below W4.heap.size W4 W5 := by rw [h5]; exact (Below.refl _ _).alloc (Nat.le_refl _) _
  have r0 := (Fr.of_below b5 (fun _ => False)).heap r0 (fun h => h)
  have r1 := (Fr.of_below b5 (fun _ => False)).heap r1 (fun h => h)
  have r2 := (Fr.of_below b5 (fun _ => False)).heap r2 (fun h => h)
  have r3 := (Fr.of_below b5 (fun _ => False)).heap r3 (fun h => h)
  have r4 : W5.heap[w.heap.size + 1 + 1 + 1 + 1]? = some (.cells #[.slice none 0 0, .slice (some ⟨w.heap.size + 1, 0, none⟩) 1 1, .slice (some ⟨w.heap.size + 1 + 1 + 1, 0, none⟩) 1 1] 34) := by rw [h5, ← s4]; exact heap_new _ _
  have hb : Below w.heap.size w W5 := b1|>.trans (b2.mono (by omega))|>.trans (b3.mono (by omega))|>.trans (b4.mono (by omega))|>.trans (b5.mono (by omega))
  have hW : W5 = ((((w.alloc (.cells #[.int .i64 1] 3)).alloc (.cells #[.slice (some ⟨w.heap.size, 0, none⟩) 1 1] 25)).alloc (.cells #[.int .i64 11, .int .i64 0, .int .i64 0, .int .i64 0, .int .i64 27, .int .i64 0, .int .i64 0, .int .i64 0] 28)).alloc (.cells #[.slice none 0 0, .int .i64 0, .int .i64 1, .slice none 0 0, .slice (some ⟨w.heap.size + 1 + 1, 0, none⟩) 2 2] 31)).alloc (.cells #[.slice none 0 0, .slice (some ⟨w.heap.size + 1, 0, none⟩) 1 1, .slice (some ⟨w.heap.size + 1 + 1 + 1, 0, none⟩) 1 1] 34) := by rw [h5, h4, h3, h2, h1]
  have hpg : PrgVal W5 (fun k => w.heap.size ≤ k ∧ k < W5.heap.size) p17 (.slice none 0 0) (.slice (some ⟨w.heap.size + 1, 0, none⟩) 1 1) (.slice (some ⟨w.heap.size + 1 + 1 + 1, 0, none⟩) 1 1) := by
    refine ⟨⟨none, 0, rfl, fun j hj => by cases hj⟩, ⟨_, 1, rfl, fun j hj => ?_⟩, _, 1, rfl, fun j hj => ?_⟩
    · obtain rfl : j = 0 := by have : j < 1 := hj; omega
      refine ⟨_, 0, rfl, ⟨by omega, by omega⟩, _, _, (row_cell r1 0).1, fun i hi => ?_⟩
      obtain rfl : i = 0 := by have : i < 1 := hi; omega
      exact ⟨_, 0, rfl, ⟨by omega, by omega⟩, (row_cell r0 0).1⟩
    · obtain rfl : j = 0 := by have : j < 1 := hj; omega
      refine ⟨_, 0, rfl, ⟨by omega, by omega⟩, _, _, _, _, _, (row_cell r3 0).1, (row_cell r3 1).1, (row_cell r3 2).1, (row_cell r3 3).1, (row_cell r3 4).1, rfl, rfl, ⟨none, 0, rfl, fun i hi => by cases hi⟩, ⟨none, 0, rfl, fun i hi => by cases hi⟩, _, 2, rfl, fun i hi => ?_⟩
      have hi3 : i = 0 ∨ i = 1 := by have : i < 2 := hi; omega
      rcases hi3 with rfl | rfl
      · exact ⟨_, 0, rfl, ⟨by omega, by omega⟩, (row_cell r2 0).1, (row_cell r2 1).1, (row_cell r2 2).1, (row_cell r2 3).1⟩
      · exact ⟨_, 0, rfl, ⟨by omega, by omega⟩, (row_cell r2 4).1, (row_cell r2 5).1, (row_cell r2 6).1, (row_cell r2 7).1⟩
  have hk0 : ∀ wr, Below W5.heap.size W5 wr → wr.cell? ⟨w.heap.size + 1 + 1 + 1 + 1, 0, none⟩ = some (.slice none 0 0) := fun wr hx => below_cell hx (row_cell r4 0).1
  have hk1 : ∀ wr, Below W5.heap.size W5 wr → wr.cell? ⟨w.heap.size + 1 + 1 + 1 + 1, 1, none⟩ = some (.slice (some ⟨w.heap.size + 1, 0, none⟩) 1 1) := fun wr hx => below_cell hx (row_cell r4 1).1
  have hk2 : ∀ wr, Below W5.heap.size W5 wr → wr.cell? ⟨w.heap.size + 1 + 1 + 1 + 1, 2, none⟩ = some (.slice (some ⟨w.heap.size + 1 + 1 + 1, 0, none⟩) 1 1) := fun wr hx => below_cell hx (row_cell r4 2).1
  have fp := flowProg_any W5 _ (fun k hk => hk.2) p17 _ _ _ hpg p17_B.1 p17_B.2
  have HW := Lib.hid hW
  have HK := Lib.hid (And.intro hk0 (And.intro hk1 hk2))
  have HB := Lib.hid hb
  have FP := Lib.hid fp
  have HPG := Lib.hid hpg
  have HS5 := Lib.hid s5
  have k0 := hk0 W5 (Below.refl _ _)
  have k1 := hk1 W5 (Below.refl _ _)
  have k2 := hk2 W5 (Below.refl _ _)
  clear r0 r1 r2 r3 r4 b1 b2 b3 b4 b5 s1 s2 s3 s4 s5 h1 h2 h3 h4 h5 hW hk0 hk1 hk2 hb fp hpg
  go_enter Tryz.func8, Tryz.ntmps8
  go_upto_region 2 with fail
  rw [← HW.out]
  go_wp2_with fail
  refine FP.out.mono ?_
  intro e w6 hpost
  obtain ⟨hb6, Ms, mb, b, nm, V, hMs, rfl, hmp⟩ := tab_flow (tb := t17) (by rw [p17_S]) p17_tab hpost
  clear k0 k1 k2
  have hI : i64B 0 ∧ i64B 1 := ⟨⟨by omega, by omega⟩, ⟨by omega, by omega⟩⟩
  have hC : allM p17.funcs.length Ms ⟨((0 : Int), (1 : Int)), hI⟩ = some [16] := by
    unfold allM
    rw [if_pos (by simp [p17]), if_pos (by simp)]
    show Ms 0 1 = _
    rw [hMs 0 (by decide)]
    rfl
  have hcl : ∀ x K, allM p17.funcs.length Ms x = some K → K.length ≤ 16 := fun x K hx => by
    unfold allM at hx
    split at hx
    · next h1 =>
      split at hx
      · have h2 : x.1.1.toNat < p17.funcs.length := by omega
        rw [hMs _ h2] at hx
        have hrow : ∀ q K, tblF (t17 0) q = some K → K.length ≤ 16 := fun q K h => by
          unfold tblF t17 at h
          rcases q with _ | _ | q
          · injection h with h; rw [← h]; simp
          · injection h with h; rw [← h]; simp
          · cases h
        exact hrow _ _ hx
      · cases hx
    · cases hx
  have hb7 : Below w6.heap.size w6 (w6.alloc (.cells #[.int .i64 0, .int .i64 0] 50)) := (Below.refl _ _).alloc (Nat.le_refl _) _
  obtain ⟨w7, hw7⟩ : ∃ w7, w7 = w6.alloc (.cells #[.int .i64 0, .int .i64 0] 50) := ⟨_, rfl⟩
  rw [← hw7] at hb7
  have HW7 := Lib.hid hw7
  have HB7 := Lib.hid (hb6.trans (hb7.mono hb6.size))
  have HMP := Lib.hid (hmp.below hb7)
  have HC := Lib.hid hC
  have HCL := Lib.hid hcl
  clear hpost hb6 hmp hC hcl hw7 hb7 hMs
  generalize allM p17.funcs.length Ms = C at *
  obtain ⟨L1, h1⟩ : ∃ L1, L1 = w7.alloc (.cells #[.int .i64 1048580] 3) := ⟨_, rfl⟩
  have s1 : L1.heap.size = w7.heap.size + 1 := by rw [h1]; simp
  have b1 : Below w7.heap.size w7 L1 := by rw [h1]; exact (Below.refl _ _).alloc (Nat.le_refl _) _
  have r0 : L1.heap[w7.heap.size]? = some (.cells #[.int .i64 1048580] 3) := by rw [h1]; exact heap_new _ _
  obtain ⟨L2, h2⟩ : ∃ L2, L2 = L1.alloc (.cells #[.int .i64 0, .int .i64 1, .int .i64 0, .bool false, .bool false, .int .i64 0, .bool false, .slice (some ⟨w7.heap.size, 0, none⟩) 1 1, .slice none 0 0] 36) := ⟨_, rfl⟩
  have s2 : L2.heap.size = w7.heap.size + 1 + 1 := by rw [h2]; simp [s1]
  have b2 : Below L1.heap.size L1 L2 := by rw [h2]; exact (Below.refl _ _).alloc (Nat.le_refl _) _
  have r0 := (Fr.of_below b2 (fun _ => False)).heap r0 (fun h => h)
  have r1 : L2.heap[w7.heap.size + 1]? = some (.cells #[.int .i64 0, .int .i64 1, .int .i64 0, .bool false, .bool false, .int .i64 0, .bool false, .slice (some ⟨w7.heap.size, 0, none⟩) 1 1, .slice none 0 0] 36) := by rw [h2, ← s1]; exact heap_new _ _
  obtain ⟨L3, h3⟩ : ∃ L3, L3 = L2.alloc (.cells #[.slice none 0 0] 40) := ⟨_, rfl⟩
  have s3 : L3.heap.size = w7.heap.size + 1 + 1 + 1 := by rw [h3]; simp [s2]
  have b3 : Below L2.heap.size L2 L3 := by rw [h3]; exact (Below.refl _ _).alloc (Nat.le_refl _) _
  have r0 := (Fr.of_below b3 (fun _ => False)).heap r0 (fun h => h)
  have r1 := (Fr.of_below b3 (fun _ => False)).heap r1 (fun h => h)
  have r2 : L3.heap[w7.heap.size + 1 + 1]? = some (.cells #[.slice none 0 0] 40) := by rw [h3, ← s2]; exact heap_new _ _
  obtain ⟨L4, h4⟩ : ∃ L4, L4 = L3.alloc (.cells #[.int .i64 0, .int .i64 1073741824, .int .i64 3, .slice (some ⟨w7.heap.size + 1, 0, none⟩) 1 1, .slice (some ⟨w7.heap.size + 1 + 1, 0, none⟩) 1 1, .slice none 0 0, .bool false] 46) := ⟨_, rfl⟩
  have s4 : L4.heap.size = w7.heap.size + 1 + 1 + 1 + 1 := by rw [h4]; simp [s3]
  have b4 : Below L3.heap.size L3 L4 := by rw [h4]; exact (Below.refl _ _).alloc (Nat.le_refl _) _
  have r0 := (Fr.of_below b4 (fun _ => False)).heap r0 (fun h => h)
  have r1 := (Fr.of_below b4 (fun _ => False)).heap r1 (fun h => h)
  have r2 := (Fr.of_below b4 (fun _ => False)).heap r2 (fun h => h)
  have r3 : L4.heap[w7.heap.size + 1 + 1 + 1]? = some (.cells #[.int .i64 0, .int .i64 1073741824, .int .i64 3, .slice (some ⟨w7.heap.size + 1, 0, none⟩) 1 1, .slice (some ⟨w7.heap.size + 1 + 1, 0, none⟩) 1 1, .slice none 0 0, .bool false] 46) := by rw [h4, ← s3]; exact heap_new _ _
  have hbl : Below w7.heap.size w7 L4 := b1|>.trans (b2.mono (by omega))|>.trans (b3.mono (by omega))|>.trans (b4.mono (by omega))
  have hL : L4 = (((w7.alloc (.cells #[.int .i64 1048580] 3)).alloc (.cells #[.int .i64 0, .int .i64 1, .int .i64 0, .bool false, .bool false, .int .i64 0, .bool false, .slice (some ⟨w7.heap.size, 0, none⟩) 1 1, .slice none 0 0] 36)).alloc (.cells #[.slice none 0 0] 40)).alloc (.cells #[.int .i64 0, .int .i64 1073741824, .int .i64 3, .slice (some ⟨w7.heap.size + 1, 0, none⟩) 1 1, .slice (some ⟨w7.heap.size + 1 + 1, 0, none⟩) 1 1, .slice none 0 0, .bool false] 46) := by rw [h4, h3, h2, h1]
  have hz : W5.heap.size ≤ w7.heap.size := HB7.out.size
  have hlv : LifeVal L4 (fun k => w.heap.size ≤ k ∧ k < L4.heap.size) l17 (some ⟨w7.heap.size + 1, 0, none⟩) 1 (some ⟨w7.heap.size + 1 + 1, 0, none⟩) 1 none 0 := by
    have := HS5.out
    refine ⟨fun j hj => ?_, fun j hj => ?_, fun j hj => by cases hj⟩
    · obtain rfl : j = 0 := by have : j < 1 := hj; omega
      refine ⟨_, 0, rfl, ⟨by omega, by omega⟩, _, _, _, _, ⟨(row_cell r1 0).1, (row_cell r1 1).1, (row_cell r1 2).1, (row_cell r1 3).1, (row_cell r1 4).1, (row_cell r1 5).1, (row_cell r1 6).1, (row_cell r1 7).1, (row_cell r1 8).1⟩, fun i hi => ?_, fun i hi => by cases hi⟩
      obtain rfl : i = 0 := by have : i < 1 := hi; omega
      exact ⟨_, 0, rfl, ⟨by omega, by omega⟩, (row_cell r0 0).1⟩
    · obtain rfl : j = 0 := by have : j < 1 := hj; omega
      exact ⟨_, 0, rfl, ⟨by omega, by omega⟩, _, _, (row_cell r2 0).1, fun i hi => by cases hi⟩
  have hlk : ∀ wr, Below L4.heap.size L4 wr → wr.cell? ⟨w7.heap.size + 1 + 1 + 1, 0, none⟩ = some (.int .i64 0) ∧ wr.cell? ⟨w7.heap.size + 1 + 1 + 1, 1, none⟩ = some (.int .i64 1073741824) ∧ wr.cell? ⟨w7.heap.size + 1 + 1 + 1, 2, none⟩ = some (.int .i64 3) ∧ wr.cell? ⟨w7.heap.size + 1 + 1 + 1, 3, none⟩ = some (.slice (some ⟨w7.heap.size + 1, 0, none⟩) 1 1) ∧ wr.cell? ⟨w7.heap.size + 1 + 1 + 1, 4, none⟩ = some (.slice (some ⟨w7.heap.size + 1 + 1, 0, none⟩) 1 1) ∧ wr.cell? ⟨w7.heap.size + 1 + 1 + 1, 5, none⟩ = some (.slice none 0 0) ∧ wr.cell? ⟨w7.heap.size + 1 + 1 + 1, 6, none⟩ = some (.bool false) := fun wr hx => ⟨below_cell hx (row_cell r3 0).1, below_cell hx (row_cell r3 1).1, below_cell hx (row_cell r3 2).1, below_cell hx (row_cell r3 3).1, below_cell hx (row_cell r3 4).1, below_cell hx (row_cell r3 5).1, below_cell hx (row_cell r3 6).1⟩
  have hbW := HB7.out.trans (hbl.mono hz)
  have hgv : PrgVal L4 (fun k => w.heap.size ≤ k ∧ k < L4.heap.size) p17 (.slice none 0 0) (.slice (some ⟨w.heap.size + 1, 0, none⟩) 1 1) (.slice (some ⟨w.heap.size + 1 + 1 + 1, 0, none⟩) 1 1) := (HPG.out.fr (Fr.of_below hbW (fun _ => False)) (fun _ _ h => h)).dom (fun k hk => ⟨hk.1, Nat.lt_of_lt_of_le hk.2 hbW.size⟩)
  have hmL := HMP.out.below hbl
  have hpc : ∀ wr, Below L4.heap.size L4 wr → _ := fun wr hx => (precise_any wr (fun k => w.heap.size ≤ k ∧ k < L4.heap.size) (fun k hk => Nat.lt_of_lt_of_le hk.2 hx.size) p17 _ _ _ (hgv.fr (Fr.of_below hx (fun _ => False)) (fun _ _ h => h)) p17_small p17_B.1 p17_slots l17 _ _ _ 1 1 0 (hlv.below hx) l17_ok _ mb b nm V C (hmL.below hx) HCL.out).mono (fun e w' h => scan17 hI HC.out h)
  have hrc : ∀ wr, Below L4.heap.size L4 wr → _ := fun wr hx => (records_any wr (fun k => w.heap.size ≤ k ∧ k < L4.heap.size) (fun k hk => Nat.lt_of_lt_of_le hk.2 hx.size) p17 _ _ _ (hgv.fr (Fr.of_below hx (fun _ => False)) (fun _ _ h => h)) p17_small p17_B.1 l17 _ _ _ 1 1 0 (hlv.below hx) l17_ok).mono (fun e w' h => recs17 h)
  have hoc : ∀ wr, Below L4.heap.size L4 wr → _ := fun wr hx => (objects_any wr (fun k => w.heap.size ≤ k ∧ k < L4.heap.size) (fun k hk => Nat.lt_of_lt_of_le hk.2 hx.size) p17 _ _ _ (hgv.fr (Fr.of_below hx (fun _ => False)) (fun _ _ h => h)) p17_small l17 _ _ _ 1 1 0 (hlv.below hx) l17_ok _ mb b nm V C (hmL.below hx) HCL.out).mono (fun e w' h => objs17 h)
  have HL := Lib.hid hL
  have HLK := Lib.hid hlk
  have PC := Lib.hid hpc
  have RC := Lib.hid hrc
  have OC := Lib.hid hoc
  have HBW := Lib.hid hbW
  have HBF := Lib.hid (HB.out.trans (hbW.mono HB.out.size))
  clear r0 r1 r2 r3 b1 b2 b3 b4 s1 s2 s3 s4 h1 h2 h3 h4 hL hlk hpc hrc hoc hbW hbl hlv hgv hmL hz
  go_upto_region 3 with fail
  rw [← HW7.out]
  go_upto_region 6 with fail
  rw [← HL.out]
  obtain ⟨hk0, hk1, hk2⟩ := HK.out
  have k0 := hk0 L4 HBW.out
  have k1 := hk1 L4 HBW.out
  have k2 := hk2 L4 HBW.out
  obtain ⟨j0, j1, j2, j3, j4, j5, j6⟩ := HLK.out L4 (Below.refl _ _)
  clear hk0 hk1 hk2
  go_wp2_with fail
  refine (PC.out L4 (Below.refl _ _)).mono ?_
  rintro e w8 ⟨v, rfl, ho, hb8⟩
  obtain ⟨va, vc, rfl, hvs⟩ := own_int ho
  obtain ⟨vb, vo, rfl, _, hvc⟩ := hvs 0 (by decide)
  have hvc : w8.cell? ⟨vb, vo, none⟩ = some (.int .i64 1048580) := hvc
  clear k0 k1 k2 j0 j1 j2 j3 j4 j5 j6
  obtain ⟨hk0, hk1, hk2⟩ := HK.out
  have h8 := HBW.out.trans (hb8.mono HBW.out.size)
  have k0 := hk0 w8 h8
  have k1 := hk1 w8 h8
  have k2 := hk2 w8 h8
  obtain ⟨j0, j1, j2, j3, j4, j5, j6⟩ := HLK.out w8 hb8
  have HB8 := Lib.hid hb8
  have HBF8 := Lib.hid (HBF.out.trans (hb8.mono HBF.out.size))
  clear hk0 hk1 hk2 h8 ho hvs hb8
  rw [show ([1048580] : List Int).length = 1 from rfl]
  go_wp2_with fail
  refine (RC.out w8 HB8.out).mono ?_
  rintro e w9 ⟨ra, rc, rfl, hb9⟩
  clear k0 k1 k2 j0 j1 j2 j3 j4 j5 j6
  obtain ⟨hk0, hk1, hk2⟩ := HK.out
  have h9 := HB8.out.trans (hb9.mono HB8.out.size)
  have h9w := HBW.out.trans (h9.mono HBW.out.size)
  have k0 := hk0 w9 h9w
  have k1 := hk1 w9 h9w
  have k2 := hk2 w9 h9w
  obtain ⟨j0, j1, j2, j3, j4, j5, j6⟩ := HLK.out w9 h9
  have HB9 := Lib.hid h9
  have HBF9 := Lib.hid (HBF8.out.trans (hb9.mono HBF8.out.size))
  clear hk0 hk1 hk2 h9 h9w hb9
  go_wp2_with fail
  refine (OC.out w9 HB9.out).mono ?_
  rintro e w10 ⟨qa, qc, rfl, hb10⟩
  have HBF10 := Lib.hid (HBF9.out.trans (hb10.mono HBF9.out.size))
  clear hb10 k0 k1 k2 j0 j1 j2 j3 j4 j5 j6
  go_wp2_with fail
  go_ret
  exact ⟨rfl, HBF10.out⟩
end Go.Proofs.YtknbllbhakpaaaaGreat
namespace Go.Proofs.YtknbllbhakpaaaaGreat
open Go.ChangeShapes Go.WideShapes Go.ChangeAt Go.RowKit Go.Maps
theorem count_keys {ν : Type} {val : ν → Value} {w : World} {b n : Nat} {f : Int → Option ν} (h : MapIs intK val w b n f) {L : List Int} (hL : L.Nodup) (hm : ∀ x, x ∈ L ↔ (i64B x ∧ (f x).isSome = true)) : n = L.length := by
  obtain ⟨Dt, hown, hsz, hat⟩ := h
  have hku : Tryz.prog.underlying 3 = some (.int .i64) := Tryz.underlying3
  obtain ⟨es, hes, hpw, _⟩ := hown.entries intK.law
  obtain ⟨es', hes', hko⟩ := hown.keysOf
  obtain rfl : es = es' := by rw [hes] at hes'; simpa using hes'
  have hwf := intKeys_wf hown hku
  have hks : ∀ p ∈ es, ∃ x, p.1 = .int .i64 x := fun p hp => by obtain ⟨v, hv⟩ := hko p hp; obtain ⟨x, _, hx, _⟩ := Maps.keyOf_i64 hku hv; exact ⟨x, hx⟩
  have hmem : ∀ x, x ∈ intKeys Dt ↔ has Dt (.int .i64 x) = true := fun x => by
    rw [hes, has_eq, List.any_eq_true]
    show x ∈ es.map (fun p => Go.intOf p.1) ↔ _
    rw [List.mem_map]
    constructor
    · rintro ⟨p, hp', rfl⟩
      obtain ⟨a, ha⟩ := hks p hp'
      exact ⟨p, hp', by rw [ha]; simp [Lit.sameKey, Go.intOf]⟩
    · rintro ⟨p, hp', hs⟩
      obtain ⟨a, ha⟩ := hks p hp'
      rw [ha] at hs
      exact ⟨p, hp', by rw [ha]; simpa [Lit.sameKey, Go.intOf] using hs⟩
  have hwf2 : ∀ x, (Lit.int .i64 x).wf = true → i64B x := fun x hx => by
    simp [Lit.wf, IntKind.min, IntKind.max, IntKind.signed, IntKind.bits] at hx
    unfold i64B; omega
  have hset : ∀ x, x ∈ intKeys Dt ↔ x ∈ L := fun x => by
    rw [hm]
    constructor
    · intro hx
      have hb := hwf2 x (hwf x hx)
      refine ⟨hb, ?_⟩
      cases hf : f x with
      | none =>
        have h9 : has Dt (.int .i64 x) = false := has_false_of_atKey ((hat x hb).2 hf)
        rw [(hmem x).1 hx] at h9
        cases h9
      | some y => rfl
    · rintro ⟨hb, hp⟩
      cases hf : f x with
      | none => rw [hf] at hp; cases hp
      | some y => exact (hmem x).2 (has_true_of_atKey ((hat x hb).1 y hf))
  have hnd : (intKeys Dt).Nodup := by
    rw [hes]
    show (es.map fun p => Go.intOf p.1).Nodup
    refine List.pairwise_map.2 (hpw.imp_of_mem fun {p q} hp' hq' hne e => hne ?_)
    obtain ⟨a, ha⟩ := hks p hp'
    obtain ⟨b, hb⟩ := hks q hq'
    rw [ha, hb] at e ⊢
    exact congrArg _ e
  have hlen : (intKeys Dt).length = n := by
    rw [← hsz, hes]
    show (es.map fun p => Go.intOf p.1).length = es.length
    simp
  rw [← hlen]
  exact ((List.perm_ext_iff_of_nodup hnd hL).2 hset).length_eq
theorem step_append_freshR {P : Program} {α : Type} (E : Elem P α) {ops : Array Oper} {o : Oper} {a : Act} {w : World} {K : Act → World → Prop} {Q : Exit → Act → World → Prop} {F : Prop} (hgd : o.guard = none) (s x : Operand)
    (ho : o.op = .call { callee := .builtin .append, args := #[s, x], argTypes := #[E.t, E.t] })
    (B : Nat) (l m : List α) (v : Value) (hs : a.eval s = v) (hown : Own E w B v l) (b of c : Nat) (hx : a.eval x = .slice (some ⟨b, of, none⟩) m.length c)
    (hm : CellsAt w b of (m.flatMap E.enc)) (hlen : l.length + m.length ≤ 100000000) (hB : B ≤ w.heap.size)
    (h : ∀ v' w', Own E w' B v' (l ++ m) → w.grownBy w' v.ownBlock → Fresh w v v' → K (a.put o.dst v') w') : if Region.wanted o (yielded ops a.tmps) = true then Oper.wp P o a w K Q else F := by
  have hw : Region.wanted o (yielded ops a.tmps) = true := by simp [Region.wanted, hgd]
  rw [if_pos hw]
  obtain ⟨v', w', hr, h2, h3, h4⟩ := run_append_fresh E w o.type B l m v hown b of c hm hlen hB
  unfold Oper.wp execOp
  simp only [ho, resolve, invoke, builtin, Sem.run_bind, Sem.run_pure, Result.andThen_ok, List.map_toArray, List.map_cons, List.map_nil, hs, hx, hr]
  exact h v' w' h2 h3 h4
theorem Rising.nodup {L : List Int} (h : Rising L) : L.Nodup := h.imp fun {a b} h e => by omega
def glW (n : Nat) : List Int := (List.range n).map (fun i => if i % 2 = 0 then 1 else 16)
theorem glW_succ (n : Nat) : glW (n + 1) = glW n ++ [if n % 2 = 0 then 1 else 16] := by
  unfold glW
  rw [List.range_succ, List.map_append]
  rfl
theorem glW_len (n : Nat) : (glW n).length = n := by unfold glW; simp
/-- the words of odd places ahead of n -/
def oddW (l : List Int) (n : Nat) (x : Int) : Prop := x ≠ 0 ∧ ∃ k, k < n ∧ k % 2 = 1 ∧ l[k]? = some x
theorem glo_odd (l : List Int) (x : Int) : GloS (glW l.length) l (glW l.length).length x ↔ oddW l l.length x := by
  rw [glW_len]
  unfold GloS oddW
  constructor
  · rintro ⟨h0, k, g, hk, hg, hp, hx⟩
    refine ⟨h0, k, hk, ?_, hx⟩
    unfold glW at hg
    rw [List.getElem?_map, List.getElem?_range hk] at hg
    simp only [Option.map_some, Option.some.injEq] at hg
    by_cases h : k % 2 = 0
    · rw [if_pos h] at hg; subst hg; exact absurd hp (by decide)
    · omega
  · rintro ⟨h0, k, hk, ho, hx⟩
    refine ⟨h0, k, 16, hk, ?_, by decide, hx⟩
    unfold glW
    rw [List.getElem?_map, List.getElem?_range hk]
    simp only [Option.map_some, Option.some.injEq]
    rw [if_neg (by omega)]
theorem oddW_step {l : List Int} {n : Nat} {x : Int} (hn : l[n]? = some x) (ho : n % 2 = 1) (y : Int) : oddW l (n + 2) y ↔ oddW l n y ∨ (y ≠ 0 ∧ y = x) := by
  unfold oddW
  constructor
  · rintro ⟨h0, k, hk, h1, h2⟩
    by_cases h : k < n
    · exact .inl ⟨h0, k, h, h1, h2⟩
    · obtain rfl : k = n := by omega
      rw [hn] at h2
      injection h2 with h2
      exact .inr ⟨h0, h2.symm⟩
  · rintro (⟨h0, k, hk, h1, h2⟩ | ⟨h0, rfl⟩)
    · exact ⟨h0, k, by omega, h1, h2⟩
    · exact ⟨h0, n, by omega, ho, hn⟩
end Go.Proofs.YtknbllbhakpaaaaGreat
namespace Go.Proofs.YtknbllbhakpaaaaGreat
open Go.Maps
theorem len_mapL {P : Program} {κ ν : Type} {K : KeyTy P κ} {val : ν → Value} {w : World} {b n : Nat} {f : κ → Option ν} {ops : Array Oper} {rest : List Oper} {o : Oper} {a : Act} {Q : Exit → Act → World → Prop} (hg : o.guard = none) (m : Operand) (t e : TypeId) (hop : o.op = Op.call { callee := Callee.builtin Builtin.len, args := #[m], argTypes := #[t] }) (h : MapIs K val w b n f) (ht : P.underlying t = some (.map K.k e))
    (hm : a.eval m = .map (some b)) (hK : wpList P ops Q rest (a.put o.dst (.int .i64 n)) w) : wpList P ops Q (o :: rest) a w := by
  obtain ⟨D, h1, h2, h3⟩ := h
  exact wpList_len_own w hg m t hop K.k e ht tokR b n D hm h1 (by rw [h2]; exact hK)
end Go.Proofs.YtknbllbhakpaaaaGreat
namespace Go.Proofs.YtknbllbhakpaaaaGreat
open Go.RowKit
theorem trodAll_stays {H : Type} {enc : TypeId × Value → H} {P : Program} (hl : laidOutB P = true) {W W' : World} (hb : Below W.heap.size W W') :
    ∀ (ts : List TypeId) (vs : List Value) (ds : List (DataW H)) (ps : List MemPlace), (∀ t ∈ ts, P.readableRec t = true ∧ t < P.types.size) →
      DataW.TrodAll enc P W 0 (fun _ => true) true ts vs ds ps → (∀ x ∈ ps, x.block < W.heap.size) → DataW.TrodAll enc P W' 0 (fun b => decide (b < W.heap.size)) true ts vs ds ps
  | [], [], [], _, _, h, _ => h
  | t :: ts, v :: vs, d :: ds, _, ht, ⟨p, q, h1, h2, he⟩, hlt => by
    subst he
    exact ⟨p, q, Below.trod hl (ht t (List.mem_cons_self ..)).1 (ht t (List.mem_cons_self ..)).2 h1 hb (fun x hx => hlt x (List.mem_append_left _ hx)),
      trodAll_stays hl hb ts vs ds q (fun t' h' => ht t' (List.mem_cons_of_mem _ h')) h2 (fun x hx => hlt x (List.mem_append_right _ hx)), rfl⟩

theorem trodAll_length {H : Type} {enc : TypeId × Value → H} {P : Program} {W : World} {b : Nat} {sp : Nat → Bool} {hd : Bool} :
    ∀ (ts : List TypeId) (vs : List Value) (ds : List (DataW H)) (ps : List MemPlace), DataW.TrodAll enc P W b sp hd ts vs ds ps → ds.length = ts.length
  | [], [], [], _, _ => rfl
  | _ :: ts, _ :: vs, _ :: ds, _, ⟨_, q, _, h, _⟩ => congrArg (· + 1) (trodAll_length ts vs ds q h)

theorem law_post {H : Type} {enc : TypeId × Value → H} {P : Program} {f : Func} {s : ChangeSpec} {W W' : World} {args : Array Value} {ds gs : List (DataW H)} {before : List MemPlace} {T : TypeId}
    (hl : laidOutB P = true) (hps : f.params.toList.all (fun t => P.readableRec t && decide (t < P.types.size)) = true) (hrt : f.resultTypes = #[T]) (hT : P.underlying T = some .bool)
    (hW : DataW.Whole enc P f.params.toList s.vars false W args.toList ds gs before) (hv : s.vars = [])
    (hs : ∀ ds : List (DataW H), ds.length = f.params.toList.length → s.fn H ds = { results := [.lit (.bool true)], args := ds }) (hb : Below W.heap.size W W') :
    s.post enc P f false true false false W args (.bool true) W' := by
  have hW0 := hW
  obtain ⟨p, q, hA, hV, hpq, hz, hn⟩ := hW
  rw [hv] at hV
  match gs, hV with
  | [], hV =>
    have hq : q = [] := hV
    subst hq
    rw [List.append_nil] at hpq
    subst hpq
    have hfn := hs ds (trodAll_length _ _ _ _ hA)
    have hps' : ∀ t ∈ f.params.toList, P.readableRec t = true ∧ t < P.types.size := fun t ht => by
      have := List.all_eq_true.1 hps t ht
      simpa using this
    refine ⟨ds, [], before, [], before, [], hW0, ?_, ?_, ?_, ?_, fun h => by cases h⟩
    · rw [List.append_nil, hfn, hrt]
      exact ⟨[], [], ⟨1, by simp [DataW.trod, hT, Value.cells]⟩, rfl, rfl⟩
    · rw [List.append_nil, hfn]
      exact trodAll_stays hl hb _ _ _ _ hps' hA hW0.lt
    · rw [List.append_nil, hfn, hv]
      exact rfl
    · exact hb.frame _
  | _ :: _, hV => exact hV.elim
end Go.Proofs.YtknbllbhakpaaaaGreat
