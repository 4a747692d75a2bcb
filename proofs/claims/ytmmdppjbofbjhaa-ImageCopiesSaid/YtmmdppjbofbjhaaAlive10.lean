/- Walk: the first call of chapter 10's statements. -/
import Derived.Test.YtmmdppjbofbjhaaSmallB
import Derived.Test.YtmmdppjbofbjhaaReadP
namespace Go.Proofs.Ytmmdppjbofbjhaa
open Go.ChangeShapes Go.WideShapes Go.ChangeAt Go.RowKit

def pr0 : Prg := ⟨[], [], [⟨[], 0, 0, [], [⟨27, 0, 0, 0⟩]⟩]⟩
def by0 : ByteArray := ⟨#[0, 0, 1, 0, 0, 0, 0, 1, 27, 0, 0, 0, 0, 0, 0]⟩
theorem lay0 : layPRes pr0 = .tuple #[.string by0, .int .i64 0] := by
  have h1 : (wProg pr0).2 = false := by decide +kernel
  have h2 : bytesS (wProg pr0).1 = by0 := by decide +kernel
  unfold layPRes
  rw [h1, h2]
  rfl
theorem read0 : readPOk by0 = true ∧ (rProg by0).1 = pr0 := ⟨by decide +kernel, by decide +kernel⟩
/-- the three blocks of that program -/
def wA (w : World) : World := ((w.alloc (.cells #[.int .i64 27, .int .i64 0, .int .i64 0, .int .i64 0] 58)).alloc (.cells #[.slice none 0 0, .int .i64 0, .int .i64 0, .slice none 0 0, .slice (some ⟨w.heap.size, 0, none⟩) 1 1] 86)).alloc (.cells #[.slice none 0 0, .slice none 0 0, .slice (some ⟨w.heap.size + 1, 0, none⟩) 1 1] 71)
theorem wA_size (w : World) : (wA w).heap.size = w.heap.size + 3 := by simp [wA]
theorem wA_below (w : World) : Below w.heap.size w (wA w) := (((Below.refl _ _).alloc (Nat.le_refl _) _).alloc (by simp) _).alloc (by simp; omega) _
theorem wA_cells (w : World) : (∀ j u, (#[Value.int .i64 27, .int .i64 0, .int .i64 0, .int .i64 0])[j]? = some u → (wA w).cell? ⟨w.heap.size, j, none⟩ = some u) ∧ (∀ j u, (#[Value.slice none 0 0, .int .i64 0, .int .i64 0, .slice none 0 0, .slice (some ⟨w.heap.size, 0, none⟩) 1 1])[j]? = some u → (wA w).cell? ⟨w.heap.size + 1, j, none⟩ = some u) := by
  refine ⟨fun j u h => ?_, fun j u h => ?_⟩
  · unfold wA
    rw [cell_under _ _ (by simp; omega), cell_under _ _ (by simp), cell_new]; exact h
  · unfold wA
    rw [cell_under _ _ (by simp)]
    rw [show w.heap.size + 1 = (w.alloc (.cells #[.int .i64 27, .int .i64 0, .int .i64 0, .int .i64 0] 58)).heap.size from by simp, cell_new]; exact h
theorem wA_prg (w : World) : PrgVal (wA w) (fun k => k < w.heap.size + 2) pr0 (.slice none 0 0) (.slice none 0 0) (.slice (some ⟨w.heap.size + 1, 0, none⟩) 1 1) := by
  obtain ⟨h1, h2⟩ := wA_cells w
  refine ⟨⟨none, 0, rfl, fun j hj => by cases hj⟩, ⟨none, 0, rfl, fun j hj => by cases hj⟩, _, 1, rfl, fun j hj => ?_⟩
  have hj0 : j = 0 := by have : j < 1 := hj; omega
  subst hj0
  refine ⟨w.heap.size + 1, 0, rfl, by show w.heap.size + 1 < w.heap.size + 2; omega, _, _, _, _, _, h2 0 _ rfl, h2 1 _ rfl, h2 2 _ rfl, h2 3 _ rfl, h2 4 _ rfl, rfl, rfl, ⟨none, 0, rfl, fun j hj => by cases hj⟩, ⟨none, 0, rfl, fun j hj => by cases hj⟩, _, 1, rfl, fun i hi => ?_⟩
  have hi0 : i = 0 := by have : i < 1 := hi; omega
  subst hi0
  exact ⟨w.heap.size, 0, rfl, by show w.heap.size < w.heap.size + 2; omega, h1 0 _ rfl, h1 1 _ rfl, h1 2 _ rfl, h1 3 _ rfl⟩
set_option maxRecDepth 100000 in
set_option maxHeartbeats 3200000 in
theorem alive10 (w : World) :
    Calls Try.prog 57 #[] w fun e w' => e = .returned (.bool true) ∧ Below w.heap.size w w' := by
  have ly := layP_any (wA w) _ pr0 _ _ _ (wA_prg w) (fun k hk => by rw [wA_size]; have : k < w.heap.size + 2 := hk; omega) (by decide)
  rw [lay0] at ly
  have rd := fun w => readP_any by0 w (by decide)
  unfold ReadPPost at rd
  have hrp : readP by0 = pr0 := by unfold readP; rw [if_pos read0.1, read0.2]
  rw [read0.1, hrp] at rd
  have hB := wA_below w
  have hsz := wA_size w
  have hpr := wA_prg w
  have hloc : (wA w).cell? ⟨w.heap.size + 2, 0, none⟩ = some (.slice none 0 0) ∧ (wA w).cell? ⟨w.heap.size + 2, 1, none⟩ = some (.slice none 0 0) ∧ (wA w).cell? ⟨w.heap.size + 2, 2, none⟩ = some (.slice (some ⟨w.heap.size + 1, 0, none⟩) 1 1) := by
    unfold wA
    rw [show w.heap.size + 2 = ((w.alloc (.cells #[.int .i64 27, .int .i64 0, .int .i64 0, .int .i64 0] 58)).alloc (.cells #[.slice none 0 0, .int .i64 0, .int .i64 0, .slice none 0 0, .slice (some ⟨w.heap.size, 0, none⟩) 1 1] 86)).heap.size from by simp]
    exact ⟨cell_new _ _ _ _ 0, cell_new _ _ _ _ 1, cell_new _ _ _ _ 2⟩
  have hwa : wA w = ((w.alloc (.cells #[.int .i64 27, .int .i64 0, .int .i64 0, .int .i64 0] 58)).alloc (.cells #[.slice none 0 0, .int .i64 0, .int .i64 0, .slice none 0 0, .slice (some ⟨w.heap.size, 0, none⟩) 1 1] 86)).alloc (.cells #[.slice none 0 0, .slice none 0 0, .slice (some ⟨w.heap.size + 1, 0, none⟩) 1 1] 71) := rfl
  generalize wA w = wa at *
  clear hrp
  unfold by0 at ly rd
  have LY := Lib.hid ly; clear ly
  have RD := Lib.hid rd; clear rd
  have HB := Lib.hid hB; clear hB
  have HWA := Lib.hid hwa; clear hwa
  have HPR := Lib.hid hpr; clear hpr
  have HLOC := Lib.hid hloc; clear hloc
  go_enter Try.func57, Try.ntmps57
  go_wp2_with fail
  rw [← HWA.out]
  refine LY.out.mono ?_
  rintro e w1 ⟨rfl, hb1⟩
  obtain ⟨l0, l1, l2⟩ := HLOC.out
  have k0 := below_cell hb1 l0
  have k1 := below_cell hb1 l1
  have k2 := below_cell hb1 l2
  clear l0 l1 l2
  have HB1 := Lib.hid (HB.out.trans (hb1.mono HB.out.size))
  have hpr1 := HPR.out.fr (Fr.of_below hb1 (fun _ => False)) (fun _ _ h => h)
  have hs1 := hb1.size
  clear hb1
  have h3 : w.heap.size + 3 ≤ w1.heap.size := by omega
  clear hs1 hsz
  have HPR1 := Lib.hid hpr1; clear hpr1
  go_wp2_with fail
  refine (RD.out _).mono ?_
  rintro e w2 ⟨c0, c1, c2, rfl, hpq, hb2⟩
  have hb2' := hb2
  have hpr2 := HPR1.out.fr (Fr.of_below hb2 (fun _ => False)) (fun _ _ h => h)
  have k0 := below_cell hb2 k0
  have k1 := below_cell hb2 k1
  have k2 := below_cell hb2 k2
  have HB2 := Lib.hid (HB1.out.trans (hb2.mono HB1.out.size))
  have h4 := hb2.size
  clear hb2 hb2'
  obtain ⟨⟨x0, y0, rfl, hq0⟩, ⟨x1, y1, rfl, hq1⟩, x2, y2, rfl, hq2⟩ := hpq
  have hpq := Lib.hid (show PrgVal w2 (fun k => w1.heap.size ≤ k ∧ k < w2.heap.size) pr0 (.slice x0 0 y0) (.slice x1 0 y1) (.slice x2 1 y2) from ⟨⟨x0, y0, rfl, hq0⟩, ⟨x1, y1, rfl, hq1⟩, x2, y2, rfl, hq2⟩)
  clear hq0 hq1 hq2
  have sm := fun (ob : Obj) => same_any (w2.alloc ob) _ _ pr0 pr0 _ _ _ _ _ _ (hpr2.fr ((Fr.refl (fun _ => False) w2).alloc ob) (fun _ _ h => h)) (hpq.out.fr ((Fr.refl (fun _ => False) w2).alloc ob) (fun _ _ h => h)) (by unfold PrgOk; decide) (by unfold PrgOk; decide)
  rw [show decide (pr0 = pr0) = true from by simp] at sm
  clear hpr2
  have SM := Lib.hid sm; clear sm
  have kk0 : ∀ ob, (w2.alloc ob).cell? ⟨w.heap.size + 2, 0, none⟩ = some (.slice none 0 0) := fun ob => (cell_under _ _ (World.block_lt k0)).trans k0
  have kk1 : ∀ ob, (w2.alloc ob).cell? ⟨w.heap.size + 2, 1, none⟩ = some (.slice none 0 0) := fun ob => (cell_under _ _ (World.block_lt k1)).trans k1
  have kk2 : ∀ ob, (w2.alloc ob).cell? ⟨w.heap.size + 2, 2, none⟩ = some (.slice (some ⟨w.heap.size + 1, 0, none⟩) 1 1) := fun ob => (cell_under _ _ (World.block_lt k2)).trans k2
  have l0 : pr0.globals.length = 0 := rfl
  have l1 : pr0.shapes.length = 0 := rfl
  have l2 : pr0.funcs.length = 1 := rfl
  rw [l0, l1, l2]
  clear l0 l1 l2
  go_wp2_with fail
  refine (SM.out _).mono ?_
  rintro e w3 ⟨rfl, hb3⟩
  have kf := fun o (v : Value) h => (show w3.cell? ⟨w2.heap.size, o, none⟩ = some v from below_cell hb3 ((cell_new w2 #[.slice x0 0 y0, .slice x1 0 y1, .slice x2 1 y2] 71 (0, 0) o).trans h))
  have kf2 := kf 2 _ rfl
  have HB3 := Lib.hid ((HB2.out.alloc (by have := HB2.out.size; exact this) _).trans (hb3.mono (by have := HB2.out.size; simp; omega)))
  clear hb3 kf
  go_wp2_with fail
  go_ret
  exact ⟨rfl, HB3.out⟩
end Go.Proofs.Ytmmdppjbofbjhaa
