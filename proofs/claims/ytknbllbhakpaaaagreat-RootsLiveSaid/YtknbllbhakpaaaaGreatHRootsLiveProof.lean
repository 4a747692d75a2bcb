/- RootsLive: a stack object is live as long as a slot has its place; then its pointers are roots, else they are not. No condition. -/
import Derived.Test.YtknbllbhakpaaaaGreatHBr
import Derived.Test.YtknbllbhakpaaaaGreatHBq
import Derived.Test.YtknbllbhakpaaaaGreatHAo
import Derived.Test.YtknbllbhakpaaaaGreatRows
set_option linter.unusedVariables false
set_option linter.unusedSimpArgs false
/- RootsLive: a stack object is live as long as a slot has its place; then its pointers are roots, else they are not. No condition. -/
namespace Go.Proofs.YtknbllbhakpaaaaGreat.rootsLive
open Go.ChangeShapes Go.WideShapes Go.ChangeAt Go.RowKit Go.Maps
set_option maxRecDepth 100000 in
set_option maxHeartbeats 16000000 in
theorem walk (w : World) (a : Int) (wa : (Lit.int .i64 a).wf = true) (b : Int) (wb : (Lit.int .i64 b).wf = true) (pl : Bool) :
    Calls Tryz.prog 4 #[.int .i64 a, .int .i64 b, .bool pl] w fun e w' => e = .returned (.bool true) ∧ Below w.heap.size w w' := by
  have ha : i64B a := bounds_i64 wa
  have hb : i64B b := bounds_i64 wb
  have AL := Lib.hid alive17
  have HOK0 := Lib.hid (lLiv_ok (pc := 0) ha hb (by unfold i64B; omega))
  have HOK1 := Lib.hid (lLiv_ok (pc := 1) ha hb (by unfold i64B; omega))
  have HBB := Lib.hid hb
  clear wa wb ha hb
  by_cases ha0 : a = 0
  · subst ha0
    go_enter Tryz.func4, Tryz.ntmps4
    go_wp2_with fail
    refine (AL.out _).mono ?_
    rintro e w0 ⟨rfl, hb0⟩
    have HB0 := Lib.hid hb0
    clear hb0
    go_wp2_with fail
    go_ret
    exact ⟨rfl, HB0.out⟩
  by_cases hb0 : b = 0
  · subst hb0
    have hx1 : (a == 0) = false := by rw [beq_eq_false_iff_ne]; exact ha0
    go_enter Tryz.func4, Tryz.ntmps4
    go_wp2_with fail
    refine (AL.out _).mono ?_
    rintro e w0 ⟨rfl, hb0⟩
    have HB0 := Lib.hid hb0
    clear hb0
    go_wp2_with fail
    go_ret
    exact ⟨rfl, HB0.out⟩
  by_cases hab : a = b
  · subst hab
    have hx1 : (a == 0) = false := by rw [beq_eq_false_iff_ne]; exact ha0
    go_enter Tryz.func4, Tryz.ntmps4
    go_wp2_with fail
    refine (AL.out _).mono ?_
    rintro e w0 ⟨rfl, hb0⟩
    have HB0 := Lib.hid hb0
    clear hb0
    go_wp2_with fail
    go_ret
    exact ⟨rfl, HB0.out⟩
  have hx1 : (a == 0) = false := by rw [beq_eq_false_iff_ne]; exact ha0
  have hx2 : (b == 0) = false := by rw [beq_eq_false_iff_ne]; exact hb0
  have hx3 : (a == b) = false := by rw [beq_eq_false_iff_ne]; exact hab
  have HN0 := Lib.hid hb0
  clear ha0 hb0 hab
  go_enter Tryz.func4, Tryz.ntmps4
  go_wp2_with fail
  refine (AL.out w).mono ?_
  rintro e w0 ⟨rfl, hb0⟩
  have HB0 := Lib.hid hb0
  clear hb0 hx1 hx2 hx3
  obtain ⟨P, hP⟩ : ∃ W, W = allocs w0 [.cells #[.int .i64 1, .int .i64 16] 3, .cells #[.slice (some ⟨w0.heap.size, 0, none⟩) 2 2] 25, .cells #[.int .i64 0, .int .i64 0] 3, .cells #[.int .i64 18, .int .i64 0, .int .i64 1, .int .i64 0, .int .i64 27, .int .i64 0, .int .i64 0, .int .i64 0] 28, .cells #[.slice none 0 0, .int .i64 0, .int .i64 1, .slice (some ⟨w0.heap.size + 1 + 1, 0, none⟩) 2 2, .slice (some ⟨w0.heap.size + 1 + 1 + 1, 0, none⟩) 2 2] 31, .cells #[.slice none 0 0, .slice (some ⟨w0.heap.size + 1, 0, none⟩) 1 1, .slice (some ⟨w0.heap.size + 1 + 1 + 1 + 1, 0, none⟩) 1 1] 34] := ⟨_, rfl⟩
  have sP : P.heap.size = w0.heap.size + 1 + 1 + 1 + 1 + 1 + 1 := by rw [hP]; exact allocs_size _ _
  have bP : Below w0.heap.size w0 P := by rw [hP]; exact allocs_below _ _
  have r0 : P.heap[w0.heap.size]? = some (.cells #[.int .i64 1, .int .i64 16] 3) := by rw [hP]; exact allocs_row _ _ 0 rfl _ rfl
  have r1 : P.heap[w0.heap.size + 1]? = some (.cells #[.slice (some ⟨w0.heap.size, 0, none⟩) 2 2] 25) := by rw [hP]; exact allocs_row _ _ 1 rfl _ rfl
  have r2 : P.heap[w0.heap.size + 1 + 1]? = some (.cells #[.int .i64 0, .int .i64 0] 3) := by rw [hP]; exact allocs_row _ _ 2 rfl _ rfl
  have r3 : P.heap[w0.heap.size + 1 + 1 + 1]? = some (.cells #[.int .i64 18, .int .i64 0, .int .i64 1, .int .i64 0, .int .i64 27, .int .i64 0, .int .i64 0, .int .i64 0] 28) := by rw [hP]; exact allocs_row _ _ 3 rfl _ rfl
  have r4 : P.heap[w0.heap.size + 1 + 1 + 1 + 1]? = some (.cells #[.slice none 0 0, .int .i64 0, .int .i64 1, .slice (some ⟨w0.heap.size + 1 + 1, 0, none⟩) 2 2, .slice (some ⟨w0.heap.size + 1 + 1 + 1, 0, none⟩) 2 2] 31) := by rw [hP]; exact allocs_row _ _ 4 rfl _ rfl
  have r5 : P.heap[w0.heap.size + 1 + 1 + 1 + 1 + 1]? = some (.cells #[.slice none 0 0, .slice (some ⟨w0.heap.size + 1, 0, none⟩) 1 1, .slice (some ⟨w0.heap.size + 1 + 1 + 1 + 1, 0, none⟩) 1 1] 34) := by rw [hP]; exact allocs_row _ _ 5 rfl _ rfl
  replace hP : P = ((((((w0.alloc (.cells #[.int .i64 1, .int .i64 16] 3)).alloc (.cells #[.slice (some ⟨w0.heap.size, 0, none⟩) 2 2] 25)).alloc (.cells #[.int .i64 0, .int .i64 0] 3)).alloc (.cells #[.int .i64 18, .int .i64 0, .int .i64 1, .int .i64 0, .int .i64 27, .int .i64 0, .int .i64 0, .int .i64 0] 28)).alloc (.cells #[.slice none 0 0, .int .i64 0, .int .i64 1, .slice (some ⟨w0.heap.size + 1 + 1, 0, none⟩) 2 2, .slice (some ⟨w0.heap.size + 1 + 1 + 1, 0, none⟩) 2 2] 31)).alloc (.cells #[.slice none 0 0, .slice (some ⟨w0.heap.size + 1, 0, none⟩) 1 1, .slice (some ⟨w0.heap.size + 1 + 1 + 1 + 1, 0, none⟩) 1 1] 34)) := by rw [hP]; rfl
  have hpg : PrgVal P (fun k => w0.heap.size ≤ k ∧ k < P.heap.size) pLiv (.slice none 0 0) (.slice (some ⟨w0.heap.size + 1, 0, none⟩) 1 1) (.slice (some ⟨w0.heap.size + 1 + 1 + 1 + 1, 0, none⟩) 1 1) := by
    refine ⟨⟨_, _, rfl, (fun i hi => by cases hi)⟩, ⟨_, _, rfl, fun j hj => ?_⟩, _, _, rfl, fun j hj => ?_⟩
    · obtain rfl : j = 0 := by have : j < 1 := hj; omega
      exact ⟨_, 0, rfl, ⟨by omega, by omega⟩, _, _, (row_cell r1 0).1, (intSl_row r0 ⟨by omega, by omega⟩)⟩
    · obtain rfl : j = 0 := by have : j < 1 := hj; omega
      exact ⟨_, 0, rfl, ⟨by omega, by omega⟩, _, _, _, _, _, (row_cell r4 0).1, (row_cell r4 1).1, (row_cell r4 2).1, (row_cell r4 3).1, (row_cell r4 4).1, rfl, rfl, ⟨_, _, rfl, (fun i hi => by cases hi)⟩, ⟨_, _, rfl, (intSl_row r2 ⟨by omega, by omega⟩)⟩, _, _, rfl, insSl_row r3 ⟨by omega, by omega⟩⟩
  have hcap : Tk.CapO P (.slice (some ⟨w0.heap.size + 1 + 1 + 1 + 1, 0, none⟩) 1 1) := fun bq oq nq cq e j hj => by
    injection e with e1 e2 e3
    injection e1 with e1
    injection e1 with e4 e5
    subst e2 e3 e4 e5
    obtain rfl : j = 0 := by omega
    exact ⟨_, _, _, (row_cell r4 3).1, Nat.le_refl _⟩
  have fp := flowProg_any P _ (fun k hk => hk.2) pLiv _ _ _ hpg pLiv_B.1 pLiv_B.2
  have hzP := bP.size
  have HP := Lib.hid hP
  have FP := Lib.hid fp
  have HPG := Lib.hid hpg
  have HCAP := Lib.hid hcap
  have HR5 := Lib.hid r5
  have HBP := Lib.hid (HB0.out.trans (bP.mono HB0.out.size))
  have HSP := Lib.hid sP
  have k0 := (row_cell r5 0).1
  have k1 := (row_cell r5 1).1
  have k2 := (row_cell r5 2).1
  simp only [List.getElem?_toArray, List.getElem?_cons_zero, List.getElem?_cons_succ] at k0 k1 k2
  clear r0 r1 r2 r3 r4 r5 sP bP hP fp hpg hcap hzP
  go_upto_region 4 with fail
  rw [← HP.out]
  go_wp2_with fail
  refine FP.out.mono ?_
  intro e w6 hpost
  obtain ⟨hb6, Ms, mb, b0, nm, V, hMs, rfl, hmp⟩ := tab_flow (tb := tLiv) (by rw [pLiv_S]) pLiv_tab hpost
  have hI0 : i64B 0 ∧ i64B ((0 : Nat) : Int) := ⟨⟨by omega, by omega⟩, ⟨by omega, by omega⟩⟩
  have hI1 : i64B 0 ∧ i64B ((1 : Nat) : Int) := ⟨⟨by omega, by omega⟩, ⟨by omega, by omega⟩⟩
  have hC0 : allM pLiv.funcs.length Ms ⟨((0 : Int), ((0 : Nat) : Int)), hI0⟩ = some [0] := by
    unfold allM
    rw [if_pos (by simp [pLiv]), if_pos (by simp)]
    show Ms 0 0 = _
    rw [hMs 0 (by decide)]
    rfl
  have hC1 : allM pLiv.funcs.length Ms ⟨((0 : Int), ((1 : Nat) : Int)), hI1⟩ = some [64] := by
    unfold allM
    rw [if_pos (by simp [pLiv]), if_pos (by simp)]
    show Ms 0 1 = _
    rw [hMs 0 (by decide)]
    rfl
  have hcl := allM_len16 hMs tLiv_len
  have hb7 : Below w6.heap.size w6 (w6.alloc (.cells #[.int .i64 0, .int .i64 0] 50)) := (Below.refl _ _).alloc (Nat.le_refl _) _
  obtain ⟨w7, hw7⟩ : ∃ w7, w7 = w6.alloc (.cells #[.int .i64 0, .int .i64 0] 50) := ⟨_, rfl⟩
  rw [← hw7] at hb7
  have hb7P := hb6.trans (hb7.mono hb6.size)
  have HW7 := Lib.hid hw7
  have HB7 := Lib.hid hb7P
  have HMP := Lib.hid (hmp.below hb7)
  have HCL := Lib.hid hcl
  have HC0 := Lib.hid hC0
  have HC1 := Lib.hid hC1
  clear hpost hb6 hmp hcl hw7 hb7 hMs k0 k1 k2 hC0 hC1
  generalize allM pLiv.funcs.length Ms = C at *
  go_upto_region 5 with fail
  rw [← HW7.out]
  have r5 := (Fr.of_below hb7P (fun _ => False)).heap HR5.out (fun h => h)
  have k0 := (row_cell r5 0).1
  have k1 := (row_cell r5 1).1
  have k2 := (row_cell r5 2).1
  simp only [List.getElem?_toArray, List.getElem?_cons_zero, List.getElem?_cons_succ] at k0 k1 k2
  have hp7 := (HPG.out.fr (Fr.of_below hb7P (fun _ => False)) (fun _ _ h => h))
  have ob := Tk.robjectAt_some w7 (fun k => w0.heap.size ≤ k ∧ k < P.heap.size) (fun k hk => Nat.lt_of_lt_of_le hk.2 hb7P.size) (tOf pLiv) _ _ _ 0 (by decide) (pv_of hp7) pLiv_small (HCAP.out.below hb7P) 1 rfl (by omega) 1 (by decide)
  rw [show 2 + 1 + Tk.objsN (tOf pLiv) ((tOf pLiv).funcs[0].objects.take 1) = 5 from rfl, show Tk.fieldsN (tOf pLiv) (tOf pLiv).funcs[0].objects[1] = 2 from rfl] at ob
  have OB := Lib.hid ob
  clear r5 hp7 ob hb7P
  go_wp2_with fail
  refine OB.out.mono ?_
  rintro e w8 ⟨rfl, hb8⟩
  have HB8 := Lib.hid (HB7.out.trans (hb8.mono HB7.out.size))
  have HMP8 := Lib.hid (HMP.out.below hb8)
  clear hb8 k0 k1 k2
  obtain ⟨L, hL⟩ : ∃ W, W = allocs w8 [.cells #[.int .i64 1073741829] 3, .cells #[.int .i64 7, .int .i64 a, .int .i64 8, .int .i64 b] 3, .cells #[.int .i64 0, .int .i64 1, .int .i64 0, .bool false, .bool false, .int .i64 0, .bool false, .slice (some ⟨w8.heap.size, 0, none⟩) 1 1, .slice (some ⟨w8.heap.size + 1, 0, none⟩) 4 4] 36, .cells #[.slice none 0 0] 40, .cells #[.int .i64 0, .int .i64 1073741824, .int .i64 9, .slice (some ⟨w8.heap.size + 1 + 1, 0, none⟩) 1 1, .slice (some ⟨w8.heap.size + 1 + 1 + 1, 0, none⟩) 1 1, .slice none 0 0, .bool false] 46] := ⟨_, rfl⟩
  have sL : L.heap.size = w8.heap.size + 1 + 1 + 1 + 1 + 1 := by rw [hL]; exact allocs_size _ _
  have bL : Below w8.heap.size w8 L := by rw [hL]; exact allocs_below _ _
  have y0 : L.heap[w8.heap.size]? = some (.cells #[.int .i64 1073741829] 3) := by rw [hL]; exact allocs_row _ _ 0 rfl _ rfl
  have y1 : L.heap[w8.heap.size + 1]? = some (.cells #[.int .i64 7, .int .i64 a, .int .i64 8, .int .i64 b] 3) := by rw [hL]; exact allocs_row _ _ 1 rfl _ rfl
  have y2 : L.heap[w8.heap.size + 1 + 1]? = some (.cells #[.int .i64 0, .int .i64 1, .int .i64 0, .bool false, .bool false, .int .i64 0, .bool false, .slice (some ⟨w8.heap.size, 0, none⟩) 1 1, .slice (some ⟨w8.heap.size + 1, 0, none⟩) 4 4] 36) := by rw [hL]; exact allocs_row _ _ 2 rfl _ rfl
  have y3 : L.heap[w8.heap.size + 1 + 1 + 1]? = some (.cells #[.slice none 0 0] 40) := by rw [hL]; exact allocs_row _ _ 3 rfl _ rfl
  have y4 : L.heap[w8.heap.size + 1 + 1 + 1 + 1]? = some (.cells #[.int .i64 0, .int .i64 1073741824, .int .i64 9, .slice (some ⟨w8.heap.size + 1 + 1, 0, none⟩) 1 1, .slice (some ⟨w8.heap.size + 1 + 1 + 1, 0, none⟩) 1 1, .slice none 0 0, .bool false] 46) := by rw [hL]; exact allocs_row _ _ 4 rfl _ rfl
  replace hL : L = (((((w8.alloc (.cells #[.int .i64 1073741829] 3)).alloc (.cells #[.int .i64 7, .int .i64 a, .int .i64 8, .int .i64 b] 3)).alloc (.cells #[.int .i64 0, .int .i64 1, .int .i64 0, .bool false, .bool false, .int .i64 0, .bool false, .slice (some ⟨w8.heap.size, 0, none⟩) 1 1, .slice (some ⟨w8.heap.size + 1, 0, none⟩) 4 4] 36)).alloc (.cells #[.slice none 0 0] 40)).alloc (.cells #[.int .i64 0, .int .i64 1073741824, .int .i64 9, .slice (some ⟨w8.heap.size + 1 + 1, 0, none⟩) 1 1, .slice (some ⟨w8.heap.size + 1 + 1 + 1, 0, none⟩) 1 1, .slice none 0 0, .bool false] 46)) := by rw [hL]; rfl
  have HL := Lib.hid hL
  clear hL
  go_upto_region 9 with fail
  rw [← HL.out]
  have hz08 : w0.heap.size ≤ w8.heap.size := by have := HSP.out; have := HB8.out.size; omega
  have j3 := (row_cell y4 3).1
  simp only [List.getElem?_toArray, List.getElem?_cons_zero, List.getElem?_cons_succ] at j3
  cases pl
  case false =>
    obtain ⟨Z, hZ⟩ : ∃ Z, Z = L.setCell ⟨w8.heap.size + 1 + 1, 1, none⟩ (.int .i64 0) := ⟨_, rfl⟩
    have hf : Fr (fun k => k = w8.heap.size + 1 + 1) L Z := by rw [hZ]; exact (Fr.refl (fun k => k = w8.heap.size + 1 + 1) L).setCell (p := ⟨w8.heap.size + 1 + 1, 1, none⟩) (fun _ => rfl) _
    have hsZ : Z.heap.size = w8.heap.size + 1 + 1 + 1 + 1 + 1 := by rw [hZ]; simpa using sL
    have y0 := hf.heap y0 (by omega)
    have y1 := hf.heap y1 (by omega)
    have y3 := hf.heap y3 (by omega)
    have y4 := hf.heap y4 (by omega)
    have y21 := row_cell y2 1
    simp only [List.getElem?_toArray, List.getElem?_cons_zero, List.getElem?_cons_succ] at y21
    obtain ⟨y21a, y21b⟩ := y21
    have y2 : Z.heap[w8.heap.size + 1 + 1]? = some (.cells #[.int .i64 0, .int .i64 0, .int .i64 0, .bool false, .bool false, .int .i64 0, .bool false, .slice (some ⟨w8.heap.size, 0, none⟩) 1 1, .slice (some ⟨w8.heap.size + 1, 0, none⟩) 4 4] 36) := by rw [hZ]; exact row_set y2 1 (.int .i64 0)
    have hbZ : Below w8.heap.size w8 Z := bL.trans (hf.below (by omega) (fun q hq => by omega))
    have hPZ := HB8.out.trans (hbZ.mono HB8.out.size)
    have z5 := (Fr.of_below hPZ (fun _ => False)).heap HR5.out (fun h => h)
    have hpZ := (HPG.out.fr (Fr.of_below hPZ (fun _ => False)) (fun _ _ h => h)).dom (D' := fun k => w0.heap.size ≤ k ∧ k < Z.heap.size) (fun k hk => ⟨hk.1, Nat.lt_of_lt_of_le hk.2 hPZ.size⟩)
    have hmZ := HMP8.out.below hbZ
    have HBZ := Lib.hid (HBP.out.trans (hPZ.mono HBP.out.size))
    have HFC := Lib.hid (show ∀ wx, Below Z.heap.size Z wx → wx.cell? ⟨w0.heap.size + 1 + 1 + 1 + 1 + 1, 0, none⟩ = some (.slice none 0 0) ∧ wx.cell? ⟨w0.heap.size + 1 + 1 + 1 + 1 + 1, 1, none⟩ = some (.slice (some ⟨w0.heap.size + 1, 0, none⟩) 1 1) ∧ wx.cell? ⟨w0.heap.size + 1 + 1 + 1 + 1 + 1, 2, none⟩ = some (.slice (some ⟨w0.heap.size + 1 + 1 + 1 + 1, 0, none⟩) 1 1) ∧ wx.cell? ⟨w8.heap.size + 1 + 1 + 1 + 1, 0, none⟩ = some (.int .i64 0) ∧ wx.cell? ⟨w8.heap.size + 1 + 1 + 1 + 1, 1, none⟩ = some (.int .i64 1073741824) ∧ wx.cell? ⟨w8.heap.size + 1 + 1 + 1 + 1, 2, none⟩ = some (.int .i64 9) ∧ wx.cell? ⟨w8.heap.size + 1 + 1 + 1 + 1, 3, none⟩ = some (.slice (some ⟨w8.heap.size + 1 + 1, 0, none⟩) 1 1) ∧ wx.cell? ⟨w8.heap.size + 1 + 1 + 1 + 1, 4, none⟩ = some (.slice (some ⟨w8.heap.size + 1 + 1 + 1, 0, none⟩) 1 1) ∧ wx.cell? ⟨w8.heap.size + 1 + 1 + 1 + 1, 5, none⟩ = some (.slice none 0 0) ∧ wx.cell? ⟨w8.heap.size + 1 + 1 + 1 + 1, 6, none⟩ = some (.bool false) from fun wx hx =>
      ⟨below_cell hx (row_cell z5 0).1, below_cell hx (row_cell z5 1).1, below_cell hx (row_cell z5 2).1, below_cell hx (row_cell y4 0).1, below_cell hx (row_cell y4 1).1, below_cell hx (row_cell y4 2).1, below_cell hx (row_cell y4 3).1, below_cell hx (row_cell y4 4).1, below_cell hx (row_cell y4 5).1, below_cell hx (row_cell y4 6).1⟩)
    have hlv : LifeVal Z (fun k => w0.heap.size ≤ k ∧ k < Z.heap.size) (lLiv a b 0) (some ⟨w8.heap.size + 1 + 1, 0, none⟩) 1 (some ⟨w8.heap.size + 1 + 1 + 1, 0, none⟩) 1 none 0 := by
      have := hz08
      refine ⟨fun j hj => ?_, fun j hj => ?_, fun j hj => ?_⟩
      · obtain rfl : j = 0 := by have : j < 1 := hj; omega
        exact ⟨_, 0, rfl, ⟨by omega, by omega⟩, _, _, _, _, ⟨(row_cell y2 0).1, (row_cell y2 1).1, (row_cell y2 2).1, (row_cell y2 3).1, (row_cell y2 4).1, (row_cell y2 5).1, (row_cell y2 6).1, (row_cell y2 7).1, (row_cell y2 8).1⟩, (intSl_row y0 ⟨by omega, by omega⟩), (intSl_row y1 ⟨by omega, by omega⟩)⟩
      · obtain rfl : j = 0 := by have : j < 1 := hj; omega
        exact ⟨_, 0, rfl, ⟨by omega, by omega⟩, _, _, (row_cell y3 0).1, fun j hj => by cases hj⟩
      · cases hj
    have hK : kdsR C (sLiv a b 0).fn (sLiv a b 0).pc = [0] := kdsLiv (q := 0) hI0 HC0.out a b
    have PC := Lib.hid (show ∀ wr, Below Z.heap.size Z wr → _ from fun wr hx => (precise_any wr (fun k => w0.heap.size ≤ k ∧ k < Z.heap.size) (fun k hk => Nat.lt_of_lt_of_le hk.2 hx.size) pLiv _ _ _ (hpZ.fr (Fr.of_below hx (fun _ => False)) (fun _ _ h => h)) pLiv_small pLiv_B.1 pLiv_slots (lLiv a b 0) _ _ _ 1 1 0 (hlv.below hx) HOK0.out _ mb b0 nm V C (hmZ.below hx) HCL.out).mono (fun e w' h => (scanLiv0 hK (by decide) (by decide)) h))
    have OC := Lib.hid (show ∀ wr, Below Z.heap.size Z wr → _ from fun wr hx => (objects_any wr (fun k => w0.heap.size ≤ k ∧ k < Z.heap.size) (fun k hk => Nat.lt_of_lt_of_le hk.2 hx.size) pLiv _ _ _ (hpZ.fr (Fr.of_below hx (fun _ => False)) (fun _ _ h => h)) pLiv_small (lLiv a b 0) _ _ _ 1 1 0 (hlv.below hx) HOK0.out _ mb b0 nm V C (hmZ.below hx) HCL.out).mono (fun e w' h => (objsLiv0 hK (by decide)) h))
    have HZ := Lib.hid hZ
    clear y0 y1 y2 y3 y4 z5 hlv hpZ hmZ hK hf hbZ hPZ hZ hsZ sL bL
    go_upto_region 11 with fail
    rw [← HZ.out]
    clear j3 y21a y21b
    refine wp_region_noPanic ?_
    refine wp_region_held_drew (S := fun w' => Below Z.heap.size Z w') (by kernel_rfl) (Below.refl _ _).drew (fun _ => ?_)
    have HR1 := Lib.hid (Below.refl Z.heap.size Z).drew
    generalize Z.drew = r1 at *
    refine wpAnyH_take (i := 0) (v := ?_) rfl (by kernel_rfl) (by kernel_rfl) (by kernel_rfl) (fun _ _ _ h => h) (Or.inl ⟨by kernel_rfl, ?tq1⟩) HR1.out ?_
    case tq1 => (intro wq hq; obtain ⟨f0, f1, f2, f3, f4, f5, f6, f7, f8, f9⟩ := HFC.out wq hq; go_simp; first | done | with_reducible rfl)
    refine wpAnyH_take (i := 1) (v := ?_) rfl (by kernel_rfl) (by kernel_rfl) (by kernel_rfl) (fun _ _ _ h => h) (Or.inl ⟨by kernel_rfl, ?tq2⟩) HR1.out ?_
    case tq2 => (intro wq hq; obtain ⟨f0, f1, f2, f3, f4, f5, f6, f7, f8, f9⟩ := HFC.out wq hq; go_simp; first | done | with_reducible rfl)
    refine wpAnyH_take (i := 2) (v := ?_) rfl (by kernel_rfl) (by kernel_rfl) (by kernel_rfl) (fun _ _ _ h => h) (Or.inl ⟨by kernel_rfl, ?tq3⟩) HR1.out ?_
    case tq3 => (intro wq hq; obtain ⟨f0, f1, f2, f3, f4, f5, f6, f7, f8, f9⟩ := HFC.out wq hq; go_simp; first | done | with_reducible rfl)
    refine wpAnyH_take (i := 4) (v := ?_) rfl (by kernel_rfl) (by kernel_rfl) (by kernel_rfl) (fun _ _ _ h => h) (Or.inl ⟨by kernel_rfl, ?tq4⟩) HR1.out ?_
    case tq4 => (intro wq hq; obtain ⟨f0, f1, f2, f3, f4, f5, f6, f7, f8, f9⟩ := HFC.out wq hq; go_simp; first | done | with_reducible rfl)
    refine wpAnyH_take (i := 5) (v := ?_) rfl (by kernel_rfl) (by kernel_rfl) (by kernel_rfl) (fun _ _ _ h => h) (Or.inl ⟨by kernel_rfl, ?tq5⟩) HR1.out ?_
    case tq5 => (intro wq hq; obtain ⟨f0, f1, f2, f3, f4, f5, f6, f7, f8, f9⟩ := HFC.out wq hq; go_simp; first | done | with_reducible rfl)
    refine wpAnyH_take (i := 6) (v := ?_) rfl (by kernel_rfl) (by kernel_rfl) (by kernel_rfl) (fun _ _ _ h => h) (Or.inl ⟨by kernel_rfl, ?tq6⟩) HR1.out ?_
    case tq6 => (intro wq hq; obtain ⟨f0, f1, f2, f3, f4, f5, f6, f7, f8, f9⟩ := HFC.out wq hq; go_simp; first | done | with_reducible rfl)
    refine wpAnyH_ready (rs := [3]) (by kernel_rfl) (by simp) ?_
    refine (AllReadyH.cons rfl (fun K hK => ?_) AllReadyH.nil)
    go_simp
    go_at_call 12
    refine (PC.out r1 HR1.out).mono ?_
    rintro e r2 ⟨pa, pcc, rfl, hb⟩
    have HR2 := Lib.hid (HR1.out.trans (hb.mono HR1.out.size))
    clear hb
    refine hK.out _ _ HR2.out (fun _ => ?_)
    clear hK K
    refine wpAnyH_ready (rs := [7]) (by kernel_rfl) (by simp) ?_
    refine (AllReadyH.cons rfl (fun K hK => ?_) AllReadyH.nil)
    go_simp
    go_at_call 14
    refine (OC.out r2 HR2.out).mono ?_
    rintro e r3 ⟨oa, occ, rfl, hb⟩
    have HR3 := Lib.hid (HR2.out.trans (hb.mono HR2.out.size))
    clear hb
    refine hK.out _ _ HR3.out (fun _ => ?_)
    clear hK K
    refine wpAnyH_ready (rs := [8]) (by kernel_rfl) (by simp) ?_
    refine (AllReadyH.cons rfl (fun K hK => ?_) AllReadyH.nil)
    go_simp
    refine hK.out _ _ HR3.out (fun _ => ?_)
    clear hK K
    refine wpAnyH_ready (rs := [9]) (by kernel_rfl) (by simp) ?_
    refine (AllReadyH.cons rfl (fun K hK => ?_) AllReadyH.nil)
    go_simp
    refine hK.out _ _ HR3.out (fun _ => ?_)
    clear hK K
    refine wpAnyH_done (by kernel_rfl) ?_ _
    refine NoPanic.normal ?_
    go_wp2_with fail
    go_ret
    exact ⟨rfl, HBZ.out.trans (HR3.out.mono HBZ.out.size)⟩
  case true =>
    obtain ⟨Z, hZ⟩ : ∃ Z, Z = L := ⟨_, rfl⟩
    rw [← hZ] at y0 y1 y2 y3 y4 sL bL j3 ⊢
    have hsZ := sL
    have hbZ := bL
    have hPZ := HB8.out.trans (hbZ.mono HB8.out.size)
    have z5 := (Fr.of_below hPZ (fun _ => False)).heap HR5.out (fun h => h)
    have hpZ := (HPG.out.fr (Fr.of_below hPZ (fun _ => False)) (fun _ _ h => h)).dom (D' := fun k => w0.heap.size ≤ k ∧ k < Z.heap.size) (fun k hk => ⟨hk.1, Nat.lt_of_lt_of_le hk.2 hPZ.size⟩)
    have hmZ := HMP8.out.below hbZ
    have HBZ := Lib.hid (HBP.out.trans (hPZ.mono HBP.out.size))
    have HFC := Lib.hid (show ∀ wx, Below Z.heap.size Z wx → wx.cell? ⟨w0.heap.size + 1 + 1 + 1 + 1 + 1, 0, none⟩ = some (.slice none 0 0) ∧ wx.cell? ⟨w0.heap.size + 1 + 1 + 1 + 1 + 1, 1, none⟩ = some (.slice (some ⟨w0.heap.size + 1, 0, none⟩) 1 1) ∧ wx.cell? ⟨w0.heap.size + 1 + 1 + 1 + 1 + 1, 2, none⟩ = some (.slice (some ⟨w0.heap.size + 1 + 1 + 1 + 1, 0, none⟩) 1 1) ∧ wx.cell? ⟨w8.heap.size + 1 + 1 + 1 + 1, 0, none⟩ = some (.int .i64 0) ∧ wx.cell? ⟨w8.heap.size + 1 + 1 + 1 + 1, 1, none⟩ = some (.int .i64 1073741824) ∧ wx.cell? ⟨w8.heap.size + 1 + 1 + 1 + 1, 2, none⟩ = some (.int .i64 9) ∧ wx.cell? ⟨w8.heap.size + 1 + 1 + 1 + 1, 3, none⟩ = some (.slice (some ⟨w8.heap.size + 1 + 1, 0, none⟩) 1 1) ∧ wx.cell? ⟨w8.heap.size + 1 + 1 + 1 + 1, 4, none⟩ = some (.slice (some ⟨w8.heap.size + 1 + 1 + 1, 0, none⟩) 1 1) ∧ wx.cell? ⟨w8.heap.size + 1 + 1 + 1 + 1, 5, none⟩ = some (.slice none 0 0) ∧ wx.cell? ⟨w8.heap.size + 1 + 1 + 1 + 1, 6, none⟩ = some (.bool false) from fun wx hx =>
      ⟨below_cell hx (row_cell z5 0).1, below_cell hx (row_cell z5 1).1, below_cell hx (row_cell z5 2).1, below_cell hx (row_cell y4 0).1, below_cell hx (row_cell y4 1).1, below_cell hx (row_cell y4 2).1, below_cell hx (row_cell y4 3).1, below_cell hx (row_cell y4 4).1, below_cell hx (row_cell y4 5).1, below_cell hx (row_cell y4 6).1⟩)
    have hlv : LifeVal Z (fun k => w0.heap.size ≤ k ∧ k < Z.heap.size) (lLiv a b 1) (some ⟨w8.heap.size + 1 + 1, 0, none⟩) 1 (some ⟨w8.heap.size + 1 + 1 + 1, 0, none⟩) 1 none 0 := by
      have := hz08
      refine ⟨fun j hj => ?_, fun j hj => ?_, fun j hj => ?_⟩
      · obtain rfl : j = 0 := by have : j < 1 := hj; omega
        exact ⟨_, 0, rfl, ⟨by omega, by omega⟩, _, _, _, _, ⟨(row_cell y2 0).1, (row_cell y2 1).1, (row_cell y2 2).1, (row_cell y2 3).1, (row_cell y2 4).1, (row_cell y2 5).1, (row_cell y2 6).1, (row_cell y2 7).1, (row_cell y2 8).1⟩, (intSl_row y0 ⟨by omega, by omega⟩), (intSl_row y1 ⟨by omega, by omega⟩)⟩
      · obtain rfl : j = 0 := by have : j < 1 := hj; omega
        exact ⟨_, 0, rfl, ⟨by omega, by omega⟩, _, _, (row_cell y3 0).1, fun j hj => by cases hj⟩
      · cases hj
    have hK : kdsR C (sLiv a b 1).fn (sLiv a b 1).pc = [64] := kdsLiv (q := 1) hI1 HC1.out a b
    have PC := Lib.hid (show ∀ wr, Below Z.heap.size Z wr → _ from fun wr hx => (precise_any wr (fun k => w0.heap.size ≤ k ∧ k < Z.heap.size) (fun k hk => Nat.lt_of_lt_of_le hk.2 hx.size) pLiv _ _ _ (hpZ.fr (Fr.of_below hx (fun _ => False)) (fun _ _ h => h)) pLiv_small pLiv_B.1 pLiv_slots (lLiv a b 1) _ _ _ 1 1 0 (hlv.below hx) HOK1.out _ mb b0 nm V C (hmZ.below hx) HCL.out).mono (fun e w' h => (scanLiv1 HBB.out HN0.out hK (by decide) (by decide)) h))
    have OC := Lib.hid (show ∀ wr, Below Z.heap.size Z wr → _ from fun wr hx => (objects_any wr (fun k => w0.heap.size ≤ k ∧ k < Z.heap.size) (fun k hk => Nat.lt_of_lt_of_le hk.2 hx.size) pLiv _ _ _ (hpZ.fr (Fr.of_below hx (fun _ => False)) (fun _ _ h => h)) pLiv_small (lLiv a b 1) _ _ _ 1 1 0 (hlv.below hx) HOK1.out _ mb b0 nm V C (hmZ.below hx) HCL.out).mono (fun e w' h => (objsLiv1 hK (by decide)) h))
    clear y0 y1 y2 y3 y4 z5 hlv hpZ hmZ hK hbZ hPZ hZ hsZ sL bL j3
    go_upto_region 11 with fail
    refine wp_region_noPanic ?_
    refine wp_region_held_drew (S := fun w' => Below Z.heap.size Z w') (by kernel_rfl) (Below.refl _ _).drew (fun _ => ?_)
    have HR1 := Lib.hid (Below.refl Z.heap.size Z).drew
    generalize Z.drew = r1 at *
    refine wpAnyH_take (i := 0) (v := ?_) rfl (by kernel_rfl) (by kernel_rfl) (by kernel_rfl) (fun _ _ _ h => h) (Or.inl ⟨by kernel_rfl, ?tq1⟩) HR1.out ?_
    case tq1 => (intro wq hq; obtain ⟨f0, f1, f2, f3, f4, f5, f6, f7, f8, f9⟩ := HFC.out wq hq; go_simp; first | done | with_reducible rfl)
    refine wpAnyH_take (i := 1) (v := ?_) rfl (by kernel_rfl) (by kernel_rfl) (by kernel_rfl) (fun _ _ _ h => h) (Or.inl ⟨by kernel_rfl, ?tq2⟩) HR1.out ?_
    case tq2 => (intro wq hq; obtain ⟨f0, f1, f2, f3, f4, f5, f6, f7, f8, f9⟩ := HFC.out wq hq; go_simp; first | done | with_reducible rfl)
    refine wpAnyH_take (i := 2) (v := ?_) rfl (by kernel_rfl) (by kernel_rfl) (by kernel_rfl) (fun _ _ _ h => h) (Or.inl ⟨by kernel_rfl, ?tq3⟩) HR1.out ?_
    case tq3 => (intro wq hq; obtain ⟨f0, f1, f2, f3, f4, f5, f6, f7, f8, f9⟩ := HFC.out wq hq; go_simp; first | done | with_reducible rfl)
    refine wpAnyH_take (i := 4) (v := ?_) rfl (by kernel_rfl) (by kernel_rfl) (by kernel_rfl) (fun _ _ _ h => h) (Or.inl ⟨by kernel_rfl, ?tq4⟩) HR1.out ?_
    case tq4 => (intro wq hq; obtain ⟨f0, f1, f2, f3, f4, f5, f6, f7, f8, f9⟩ := HFC.out wq hq; go_simp; first | done | with_reducible rfl)
    refine wpAnyH_take (i := 5) (v := ?_) rfl (by kernel_rfl) (by kernel_rfl) (by kernel_rfl) (fun _ _ _ h => h) (Or.inl ⟨by kernel_rfl, ?tq5⟩) HR1.out ?_
    case tq5 => (intro wq hq; obtain ⟨f0, f1, f2, f3, f4, f5, f6, f7, f8, f9⟩ := HFC.out wq hq; go_simp; first | done | with_reducible rfl)
    refine wpAnyH_take (i := 6) (v := ?_) rfl (by kernel_rfl) (by kernel_rfl) (by kernel_rfl) (fun _ _ _ h => h) (Or.inl ⟨by kernel_rfl, ?tq6⟩) HR1.out ?_
    case tq6 => (intro wq hq; obtain ⟨f0, f1, f2, f3, f4, f5, f6, f7, f8, f9⟩ := HFC.out wq hq; go_simp; first | done | with_reducible rfl)
    refine wpAnyH_ready (rs := [3]) (by kernel_rfl) (by simp) ?_
    refine (AllReadyH.cons rfl (fun K hK => ?_) AllReadyH.nil)
    go_simp
    go_at_call 12
    refine (PC.out r1 HR1.out).mono ?_
    rintro e r2 ⟨v1, rfl, ho1, hb⟩
    have HR2 := Lib.hid (HR1.out.trans (hb.mono HR1.out.size))
    obtain ⟨va, vc, rfl, hvs⟩ := own_int ho1
    have HVS := Lib.hid hvs
    rw [show ([b] : List Int).length = 1 from rfl]
    clear ho1 hvs
    clear hb
    refine hK.out _ _ HR2.out (fun _ => ?_)
    clear hK K
    refine wpAnyH_ready (rs := [7]) (by kernel_rfl) (by simp) ?_
    refine (AllReadyH.cons rfl (fun K hK => ?_) AllReadyH.nil)
    go_simp
    go_at_call 14
    refine (OC.out r2 HR2.out).mono ?_
    rintro e r3 ⟨g2, c2, rfl, hq0, hq1, hb⟩
    have HR3 := Lib.hid (HR2.out.trans (hb.mono HR2.out.size))
    have HVS3 := Lib.hid (HVS.out.fr (Fr.of_below hb (fun _ => False)) (fun _ _ h => h))
    have HQ0 := Lib.hid (And.intro hq0 hq1)
    clear hq0 hq1
    clear hb
    refine hK.out _ _ HR3.out (fun _ => ?_)
    clear hK K
    refine wpAnyH_ready (rs := [8]) (by kernel_rfl) (by simp) ?_
    refine (AllReadyH.cons rfl (fun K hK => ?_) AllReadyH.nil)
    go_simp
    refine hK.out _ _ HR3.out (fun _ => ?_)
    clear hK K
    refine wpAnyH_ready (rs := [9]) (by kernel_rfl) (by simp) ?_
    refine (AllReadyH.cons rfl (fun K hK => ?_) AllReadyH.nil)
    go_simp
    refine hK.out _ _ HR3.out (fun _ => ?_)
    clear hK K
    refine wpAnyH_done (by kernel_rfl) ?_ _
    refine NoPanic.normal ?_
    obtain ⟨vb, vo, rfl, _, hvc⟩ := HVS3.out 0 (by simp)
    have hvc : r3.cell? ⟨vb, vo, none⟩ = some (.int .i64 b) := hvc
    obtain ⟨hq0, hq1⟩ := HQ0.out
    have heq : ∀ w, (Op.equalIn 10000 62 (.agg #[.int .i64 0, .int .i64 1]) (.agg #[.int .i64 0, .int .i64 1])).run Tryz.prog w = .ok true w := fun w => pair_run 0 1 0 1 w
    go_wp2_with fail
    go_ret
    exact ⟨rfl, HBZ.out.trans (HR3.out.mono HBZ.out.size)⟩
theorem own : ownKnob Tryz.prog.godebug = none := by kernel_rfl
theorem laidOut : laidOutB Tryz.prog = true := by kernel_rfl
set_option maxRecDepth 100000 in
theorem lifted (os : Os) (started : os.Started) (H : Type) (enc : TypeId × Value → H) :
    ReturnsInHanded {} Tryz.checked os 4 .any (Rows.rootsLiveSpec.pre6 enc Tryz.prog Tryz.f4 Rows.rootsLiveRow.domain false) (Rows.rootsLiveSpec.post enc Tryz.prog Tryz.f4 false true false false) := by
  refine returnsInHanded_of_change (C := Tryz.checked) own started (by kernel_rfl) Tryz.func4
    (ChangeSpec.witness6 (enc := enc) (C := Tryz.checked) false ⟨#[], #[.int .i64 0, .int .i64 0, .bool false], []⟩ 8 (by kernel_rfl) (by kernel_rfl) (by kernel_rfl) (by kernel_rfl)) ?_
  intro W base args ds gs before hval0 hW hcnd _
  have hval : ∀ (j : Nat) t v, Tryz.f4.params[j]? = some t → args[j]? = some v → Value.okWide Tryz.prog W .any base t v := hval0
  have hW' := hW
  obtain ⟨p, q, hA0, hV, rfl, hfz, hnd⟩ := hW
  have hA : DataW.TrodAll enc Tryz.prog W 0 (fun _ => true) true Tryz.f4.params.toList args.toList ds p := hA0
  rw [Tryz.params4] at hA hval
  obtain ⟨v0, vs0, d0, ds0, p0, q0, hargs, rfl, rfl, h0, r0⟩ := trodAll_cons hA
  obtain ⟨v1, vs1, d1, ds1, p1, q1, rfl, rfl, rfl, h1, r1⟩ := trodAll_cons r0
  obtain ⟨v2, vs2, d2, ds2, p2, q2, rfl, rfl, rfl, h2, r2⟩ := trodAll_cons r1
  obtain ⟨rfl, rfl, rfl⟩ := trodAll_nil r2
  obtain rfl : args = #[v0, v1, v2] := by cases args; simp_all
  obtain ⟨a0, rfl, rfl, rfl, w0⟩ := open_int Tryz.underlying3 (hval 0 3 v0 rfl rfl) h0
  obtain ⟨a1, rfl, rfl, rfl, w1⟩ := open_int Tryz.underlying3 (hval 1 3 v1 rfl rfl) h1
  obtain ⟨a2, rfl, rfl, rfl⟩ := open_bool Tryz.underlying4 (hval 2 4 v2 rfl rfl) h2
  clear hA0 hval0
  simp only [List.append_nil] at hW'
  refine (walk W a0 w0 a1 w1 a2).mono fun e W' ⟨he, hb⟩ => ?_
  subst he
  exact ⟨_, rfl, law_post laidOut (by kernel_rfl) rfl Tryz.underlying4 hW' rfl (fun ds h => by match ds, h with | [_, _, _], _ => rfl) hb⟩
theorem over : Rows.rootsLiveRow.holds Tryz.pinned (OpenSpec.ofChange Rows.rootsLiveSpec) :=
  OpenClaim.holds_of_wide 4 Tryz.f4 rfl rfl rfl rfl rfl rfl rfl ⟨rfl, rfl, rfl, rfl, rfl⟩ rfl rfl rfl rfl rfl (by kernel_rfl) Tryz.func4 (by kernel_rfl)
    (of_decide_eq_true (by kernel_rfl)) (by unfold Func.isWrapper; first | (rw [if_pos (by decide +kernel)]; kernel_rfl) | (rw [if_neg (by decide +kernel)]; exact ⟨rfl, rfl⟩))
    (fun os started H enc _ => lifted os started H enc)
theorem proved : Rows.RootsLiveSaid := over
#print axioms proved
end Go.Proofs.YtknbllbhakpaaaaGreat.rootsLive
