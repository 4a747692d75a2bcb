/- RootsRecords: what deferred calls and panics have are roots, each once, rising; numbers are not. No condition. -/
import Derived.Test.YtknbllbhakpaaaaGreatHBr
import Derived.Test.YtknbllbhakpaaaaGreatHBq
import Derived.Test.YtknbllbhakpaaaaGreatHAd
import Derived.Test.YtknbllbhakpaaaaGreatHAo
import Derived.Test.YtknbllbhakpaaaaGreatRows
set_option linter.unusedVariables false
set_option linter.unusedSimpArgs false
/- RootsRecords: what deferred calls and panics have are roots, each once, rising; numbers are not. No condition. -/
namespace Go.Proofs.YtknbllbhakpaaaaGreat.rootsRecords
open Go.ChangeShapes Go.WideShapes Go.ChangeAt Go.RowKit Go.Maps
set_option maxRecDepth 100000 in
set_option maxHeartbeats 16000000 in
theorem walk (w : World) (a : Int) (wa : (Lit.int .i64 a).wf = true) (b : Int) (wb : (Lit.int .i64 b).wf = true) (c : Int) (wc : (Lit.int .i64 c).wf = true) (d : Int) (wd : (Lit.int .i64 d).wf = true) :
    Calls Tryz.prog 3 #[.int .i64 a, .int .i64 b, .int .i64 c, .int .i64 d] w fun e w' => e = .returned (.bool true) ∧ Below w.heap.size w w' := by
  have ha : i64B a := bounds_i64 wa
  have hb : i64B b := bounds_i64 wb
  have hc : i64B c := bounds_i64 wc
  have hd : i64B d := bounds_i64 wd
  have AL := Lib.hid alive17
  have HOK := Lib.hid (lRec_ok ha hb hc hd)
  have HIB := Lib.hid (And.intro ha (And.intro hb hc))
  clear wa wb wc wd ha hb hc hd
  go_enter Tryz.func3, Tryz.ntmps3
  go_wp2_with fail
  refine (AL.out w).mono ?_
  rintro e w0 ⟨rfl, hb0⟩
  have HB0 := Lib.hid hb0
  clear hb0
  obtain ⟨P, hP⟩ : ∃ W, W = allocs w0 [.cells #[.int .i64 1] 3, .cells #[.slice (some ⟨w0.heap.size, 0, none⟩) 1 1] 25, .cells #[.int .i64 27, .int .i64 0, .int .i64 0, .int .i64 0] 28, .cells #[.int .i64 1, .int .i64 16] 3, .cells #[.int .i64 22, .int .i64 0, .int .i64 0, .int .i64 0] 28, .cells #[.slice none 0 0, .int .i64 0, .int .i64 0, .slice none 0 0, .slice (some ⟨w0.heap.size + 1 + 1, 0, none⟩) 1 1, .slice (some ⟨w0.heap.size + 1 + 1 + 1, 0, none⟩) 2 2, .int .i64 0, .int .i64 2, .slice none 0 0, .slice (some ⟨w0.heap.size + 1 + 1 + 1 + 1, 0, none⟩) 1 1] 31, .cells #[.slice none 0 0, .slice (some ⟨w0.heap.size + 1, 0, none⟩) 1 1, .slice (some ⟨w0.heap.size + 1 + 1 + 1 + 1 + 1, 0, none⟩) 2 2] 34] := ⟨_, rfl⟩
  have sP : P.heap.size = w0.heap.size + 1 + 1 + 1 + 1 + 1 + 1 + 1 := by rw [hP]; exact allocs_size _ _
  have bP : Below w0.heap.size w0 P := by rw [hP]; exact allocs_below _ _
  have r0 : P.heap[w0.heap.size]? = some (.cells #[.int .i64 1] 3) := by rw [hP]; exact allocs_row _ _ 0 rfl _ rfl
  have r1 : P.heap[w0.heap.size + 1]? = some (.cells #[.slice (some ⟨w0.heap.size, 0, none⟩) 1 1] 25) := by rw [hP]; exact allocs_row _ _ 1 rfl _ rfl
  have r2 : P.heap[w0.heap.size + 1 + 1]? = some (.cells #[.int .i64 27, .int .i64 0, .int .i64 0, .int .i64 0] 28) := by rw [hP]; exact allocs_row _ _ 2 rfl _ rfl
  have r3 : P.heap[w0.heap.size + 1 + 1 + 1]? = some (.cells #[.int .i64 1, .int .i64 16] 3) := by rw [hP]; exact allocs_row _ _ 3 rfl _ rfl
  have r4 : P.heap[w0.heap.size + 1 + 1 + 1 + 1]? = some (.cells #[.int .i64 22, .int .i64 0, .int .i64 0, .int .i64 0] 28) := by rw [hP]; exact allocs_row _ _ 4 rfl _ rfl
  have r5 : P.heap[w0.heap.size + 1 + 1 + 1 + 1 + 1]? = some (.cells #[.slice none 0 0, .int .i64 0, .int .i64 0, .slice none 0 0, .slice (some ⟨w0.heap.size + 1 + 1, 0, none⟩) 1 1, .slice (some ⟨w0.heap.size + 1 + 1 + 1, 0, none⟩) 2 2, .int .i64 0, .int .i64 2, .slice none 0 0, .slice (some ⟨w0.heap.size + 1 + 1 + 1 + 1, 0, none⟩) 1 1] 31) := by rw [hP]; exact allocs_row _ _ 5 rfl _ rfl
  have r6 : P.heap[w0.heap.size + 1 + 1 + 1 + 1 + 1 + 1]? = some (.cells #[.slice none 0 0, .slice (some ⟨w0.heap.size + 1, 0, none⟩) 1 1, .slice (some ⟨w0.heap.size + 1 + 1 + 1 + 1 + 1, 0, none⟩) 2 2] 34) := by rw [hP]; exact allocs_row _ _ 6 rfl _ rfl
  replace hP : P = (((((((w0.alloc (.cells #[.int .i64 1] 3)).alloc (.cells #[.slice (some ⟨w0.heap.size, 0, none⟩) 1 1] 25)).alloc (.cells #[.int .i64 27, .int .i64 0, .int .i64 0, .int .i64 0] 28)).alloc (.cells #[.int .i64 1, .int .i64 16] 3)).alloc (.cells #[.int .i64 22, .int .i64 0, .int .i64 0, .int .i64 0] 28)).alloc (.cells #[.slice none 0 0, .int .i64 0, .int .i64 0, .slice none 0 0, .slice (some ⟨w0.heap.size + 1 + 1, 0, none⟩) 1 1, .slice (some ⟨w0.heap.size + 1 + 1 + 1, 0, none⟩) 2 2, .int .i64 0, .int .i64 2, .slice none 0 0, .slice (some ⟨w0.heap.size + 1 + 1 + 1 + 1, 0, none⟩) 1 1] 31)).alloc (.cells #[.slice none 0 0, .slice (some ⟨w0.heap.size + 1, 0, none⟩) 1 1, .slice (some ⟨w0.heap.size + 1 + 1 + 1 + 1 + 1, 0, none⟩) 2 2] 34)) := by rw [hP]; rfl
  have hpg : PrgVal P (fun k => w0.heap.size ≤ k ∧ k < P.heap.size) pRec (.slice none 0 0) (.slice (some ⟨w0.heap.size + 1, 0, none⟩) 1 1) (.slice (some ⟨w0.heap.size + 1 + 1 + 1 + 1 + 1, 0, none⟩) 2 2) := by
    refine ⟨⟨_, _, rfl, (fun i hi => by cases hi)⟩, ⟨_, _, rfl, fun j hj => ?_⟩, _, _, rfl, fun j hj => ?_⟩
    · obtain rfl : j = 0 := by have : j < 1 := hj; omega
      exact ⟨_, 0, rfl, ⟨by omega, by omega⟩, _, _, (row_cell r1 0).1, (intSl_row r0 ⟨by omega, by omega⟩)⟩
    · have hj2 : j = 0 ∨ j = 1 := by have : j < 2 := hj; omega
      rcases hj2 with rfl | rfl
      · exact ⟨_, 0, rfl, ⟨by omega, by omega⟩, _, _, _, _, _, (row_cell r5 0).1, (row_cell r5 1).1, (row_cell r5 2).1, (row_cell r5 3).1, (row_cell r5 4).1, rfl, rfl, ⟨_, _, rfl, (fun i hi => by cases hi)⟩, ⟨_, _, rfl, (fun i hi => by cases hi)⟩, _, _, rfl, insSl_row r2 ⟨by omega, by omega⟩⟩
      · exact ⟨_, 0, rfl, ⟨by omega, by omega⟩, _, _, _, _, _, (row_cell r5 5).1, (row_cell r5 6).1, (row_cell r5 7).1, (row_cell r5 8).1, (row_cell r5 9).1, rfl, rfl, ⟨_, _, rfl, (intSl_row r3 ⟨by omega, by omega⟩)⟩, ⟨_, _, rfl, (fun i hi => by cases hi)⟩, _, _, rfl, insSl_row r4 ⟨by omega, by omega⟩⟩
  have r6 := r6
  obtain ⟨L, hL⟩ : ∃ W, W = allocs P [.cells #[.int .i64 0, .int .i64 0, .int .i64 0, .bool false, .bool false, .int .i64 0, .bool false, .slice none 0 0, .slice none 0 0] 36, .cells #[.int .i64 d, .int .i64 a] 3, .cells #[.int .i64 d, .int .i64 b] 3, .cells #[.int .i64 1, .slice (some ⟨P.heap.size + 1, 0, none⟩) 2 2, .int .i64 1, .slice (some ⟨P.heap.size + 1 + 1, 0, none⟩) 2 2] 39, .cells #[.slice (some ⟨P.heap.size + 1 + 1 + 1, 0, none⟩) 2 2] 40, .cells #[.int .i64 d, .int .i64 c, .int .i64 0, .bool false, .bool false, .int .i64 0, .int .i64 0, .int .i64 0, .bool true, .bool false] 43, .cells #[.int .i64 0, .int .i64 0, .int .i64 0, .slice (some ⟨P.heap.size, 0, none⟩) 1 1, .slice (some ⟨P.heap.size + 1 + 1 + 1 + 1, 0, none⟩) 1 1, .slice (some ⟨P.heap.size + 1 + 1 + 1 + 1 + 1, 0, none⟩) 2 2, .bool false] 46] := ⟨_, rfl⟩
  have sL : L.heap.size = P.heap.size + 1 + 1 + 1 + 1 + 1 + 1 + 1 := by rw [hL]; exact allocs_size _ _
  have bL : Below P.heap.size P L := by rw [hL]; exact allocs_below _ _
  have q0 : L.heap[P.heap.size]? = some (.cells #[.int .i64 0, .int .i64 0, .int .i64 0, .bool false, .bool false, .int .i64 0, .bool false, .slice none 0 0, .slice none 0 0] 36) := by rw [hL]; exact allocs_row _ _ 0 rfl _ rfl
  have q1 : L.heap[P.heap.size + 1]? = some (.cells #[.int .i64 d, .int .i64 a] 3) := by rw [hL]; exact allocs_row _ _ 1 rfl _ rfl
  have q2 : L.heap[P.heap.size + 1 + 1]? = some (.cells #[.int .i64 d, .int .i64 b] 3) := by rw [hL]; exact allocs_row _ _ 2 rfl _ rfl
  have q3 : L.heap[P.heap.size + 1 + 1 + 1]? = some (.cells #[.int .i64 1, .slice (some ⟨P.heap.size + 1, 0, none⟩) 2 2, .int .i64 1, .slice (some ⟨P.heap.size + 1 + 1, 0, none⟩) 2 2] 39) := by rw [hL]; exact allocs_row _ _ 3 rfl _ rfl
  have q4 : L.heap[P.heap.size + 1 + 1 + 1 + 1]? = some (.cells #[.slice (some ⟨P.heap.size + 1 + 1 + 1, 0, none⟩) 2 2] 40) := by rw [hL]; exact allocs_row _ _ 4 rfl _ rfl
  have q5 : L.heap[P.heap.size + 1 + 1 + 1 + 1 + 1]? = some (.cells #[.int .i64 d, .int .i64 c, .int .i64 0, .bool false, .bool false, .int .i64 0, .int .i64 0, .int .i64 0, .bool true, .bool false] 43) := by rw [hL]; exact allocs_row _ _ 5 rfl _ rfl
  have q6 : L.heap[P.heap.size + 1 + 1 + 1 + 1 + 1 + 1]? = some (.cells #[.int .i64 0, .int .i64 0, .int .i64 0, .slice (some ⟨P.heap.size, 0, none⟩) 1 1, .slice (some ⟨P.heap.size + 1 + 1 + 1 + 1, 0, none⟩) 1 1, .slice (some ⟨P.heap.size + 1 + 1 + 1 + 1 + 1, 0, none⟩) 2 2, .bool false] 46) := by rw [hL]; exact allocs_row _ _ 6 rfl _ rfl
  replace hL : L = (((((((P.alloc (.cells #[.int .i64 0, .int .i64 0, .int .i64 0, .bool false, .bool false, .int .i64 0, .bool false, .slice none 0 0, .slice none 0 0] 36)).alloc (.cells #[.int .i64 d, .int .i64 a] 3)).alloc (.cells #[.int .i64 d, .int .i64 b] 3)).alloc (.cells #[.int .i64 1, .slice (some ⟨P.heap.size + 1, 0, none⟩) 2 2, .int .i64 1, .slice (some ⟨P.heap.size + 1 + 1, 0, none⟩) 2 2] 39)).alloc (.cells #[.slice (some ⟨P.heap.size + 1 + 1 + 1, 0, none⟩) 2 2] 40)).alloc (.cells #[.int .i64 d, .int .i64 c, .int .i64 0, .bool false, .bool false, .int .i64 0, .int .i64 0, .int .i64 0, .bool true, .bool false] 43)).alloc (.cells #[.int .i64 0, .int .i64 0, .int .i64 0, .slice (some ⟨P.heap.size, 0, none⟩) 1 1, .slice (some ⟨P.heap.size + 1 + 1 + 1 + 1, 0, none⟩) 1 1, .slice (some ⟨P.heap.size + 1 + 1 + 1 + 1 + 1, 0, none⟩) 2 2, .bool false] 46)) := by rw [hL]; rfl
  have hlv : LifeVal L (fun k => w0.heap.size ≤ k ∧ k < L.heap.size) (lRec a b c d) (some ⟨P.heap.size, 0, none⟩) 1 (some ⟨P.heap.size + 1 + 1 + 1 + 1, 0, none⟩) 1 (some ⟨P.heap.size + 1 + 1 + 1 + 1 + 1, 0, none⟩) 2 := by
    refine ⟨fun j hj => ?_, fun j hj => ?_, fun j hj => ?_⟩
    · obtain rfl : j = 0 := by have : j < 1 := hj; omega
      exact ⟨_, 0, rfl, ⟨by omega, by omega⟩, _, _, _, _, ⟨(row_cell q0 0).1, (row_cell q0 1).1, (row_cell q0 2).1, (row_cell q0 3).1, (row_cell q0 4).1, (row_cell q0 5).1, (row_cell q0 6).1, (row_cell q0 7).1, (row_cell q0 8).1⟩, (fun i hi => by cases hi), (fun i hi => by cases hi)⟩
    · obtain rfl : j = 0 := by have : j < 1 := hj; omega
      exact ⟨_, 0, rfl, ⟨by omega, by omega⟩, _, _, (row_cell q4 0).1, fun j hj => by
        have hj2 : j = 0 ∨ j = 1 := by have : j < 2 := hj; omega
        rcases hj2 with rfl | rfl
        · exact ⟨_, 0, rfl, ⟨by omega, by omega⟩, _, _, (row_cell q3 0).1, (row_cell q3 1).1, (intSl_row q1 ⟨by omega, by omega⟩)⟩
        · exact ⟨_, 0, rfl, ⟨by omega, by omega⟩, _, _, (row_cell q3 2).1, (row_cell q3 3).1, (intSl_row q2 ⟨by omega, by omega⟩)⟩⟩
    · have hj2 : j = 0 ∨ j = 1 := by have : j < 2 := hj; omega
      rcases hj2 with rfl | rfl
      · exact ⟨_, 0, rfl, ⟨by omega, by omega⟩, (row_cell q5 0).1, (row_cell q5 1).1, (row_cell q5 2).1, (row_cell q5 3).1, (row_cell q5 4).1⟩
      · exact ⟨_, 0, rfl, ⟨by omega, by omega⟩, (row_cell q5 5).1, (row_cell q5 6).1, (row_cell q5 7).1, (row_cell q5 8).1, (row_cell q5 9).1⟩
  have hpL : PrgVal L (fun k => w0.heap.size ≤ k ∧ k < L.heap.size) pRec (.slice none 0 0) (.slice (some ⟨w0.heap.size + 1, 0, none⟩) 1 1) (.slice (some ⟨w0.heap.size + 1 + 1 + 1 + 1 + 1, 0, none⟩) 2 2) := (hpg.fr (Fr.of_below bL (fun _ => False)) (fun _ _ h => h)).dom (fun k hk => ⟨hk.1, Nat.lt_of_lt_of_le hk.2 bL.size⟩)
  have hpk : ∀ wr, Below L.heap.size L wr → wr.cell? ⟨w0.heap.size + 1 + 1 + 1 + 1 + 1 + 1, 0, none⟩ = some (.slice none 0 0) ∧ wr.cell? ⟨w0.heap.size + 1 + 1 + 1 + 1 + 1 + 1, 1, none⟩ = some (.slice (some ⟨w0.heap.size + 1, 0, none⟩) 1 1) ∧ wr.cell? ⟨w0.heap.size + 1 + 1 + 1 + 1 + 1 + 1, 2, none⟩ = some (.slice (some ⟨w0.heap.size + 1 + 1 + 1 + 1 + 1, 0, none⟩) 2 2) := fun wr hx => ⟨below_cell hx (below_cell bL (row_cell r6 0).1), below_cell hx (below_cell bL (row_cell r6 1).1), below_cell hx (below_cell bL (row_cell r6 2).1)⟩
  have hlk : ∀ wr, Below L.heap.size L wr → wr.cell? ⟨P.heap.size + 1 + 1 + 1 + 1 + 1 + 1, 0, none⟩ = some (.int .i64 0) ∧ wr.cell? ⟨P.heap.size + 1 + 1 + 1 + 1 + 1 + 1, 1, none⟩ = some (.int .i64 0) ∧ wr.cell? ⟨P.heap.size + 1 + 1 + 1 + 1 + 1 + 1, 2, none⟩ = some (.int .i64 0) ∧ wr.cell? ⟨P.heap.size + 1 + 1 + 1 + 1 + 1 + 1, 3, none⟩ = some (.slice (some ⟨P.heap.size, 0, none⟩) 1 1) ∧ wr.cell? ⟨P.heap.size + 1 + 1 + 1 + 1 + 1 + 1, 4, none⟩ = some (.slice (some ⟨P.heap.size + 1 + 1 + 1 + 1, 0, none⟩) 1 1) ∧ wr.cell? ⟨P.heap.size + 1 + 1 + 1 + 1 + 1 + 1, 5, none⟩ = some (.slice (some ⟨P.heap.size + 1 + 1 + 1 + 1 + 1, 0, none⟩) 2 2) ∧ wr.cell? ⟨P.heap.size + 1 + 1 + 1 + 1 + 1 + 1, 6, none⟩ = some (.bool false) := fun wr hx => ⟨below_cell hx (row_cell q6 0).1, below_cell hx (row_cell q6 1).1, below_cell hx (row_cell q6 2).1, below_cell hx (row_cell q6 3).1, below_cell hx (row_cell q6 4).1, below_cell hx (row_cell q6 5).1, below_cell hx (row_cell q6 6).1⟩
  have fp := flowProg_any L _ (fun k hk => hk.2) pRec _ _ _ hpL pRec_B.1 pRec_B.2
  have hrc : ∀ wr, Below L.heap.size L wr → _ := fun wr hx => (records_any wr (fun k => w0.heap.size ≤ k ∧ k < L.heap.size) (fun k hk => Nat.lt_of_lt_of_le hk.2 hx.size) pRec _ _ _ (hpL.fr (Fr.of_below hx (fun _ => False)) (fun _ _ h => h)) pRec_small pRec_B.1 (lRec a b c d) _ _ _ 1 1 2 (hlv.below hx) HOK.out).mono (fun e w' h => recsRec h)
  have hpc : ∀ (C : Pl → Option (List Int)) (B mb b0 nm : Nat) (V : Nat → Prop), (∀ x K, C x = some K → K.length ≤ 16) → ∀ wr, Below L.heap.size L wr → MapsAt wr B mb b0 nm V C → _ := fun C B mb b0 nm V hC wr hx hm => (precise_any wr (fun k => w0.heap.size ≤ k ∧ k < L.heap.size) (fun k hk => Nat.lt_of_lt_of_le hk.2 hx.size) pRec _ _ _ (hpL.fr (Fr.of_below hx (fun _ => False)) (fun _ _ h => h)) pRec_small pRec_B.1 pRec_slots (lRec a b c d) _ _ _ 1 1 2 (hlv.below hx) HOK.out B mb b0 nm V C hm hC).mono (fun e w' h => scanRec h)
  have HP := Lib.hid hP
  have HL := Lib.hid hL
  have HPK := Lib.hid hpk
  have HLK := Lib.hid hlk
  have FP := Lib.hid fp
  have RC := Lib.hid hrc
  have PC := Lib.hid hpc
  have HBL := Lib.hid (HB0.out.trans ((bP.trans (bL.mono bP.size)).mono HB0.out.size))
  obtain ⟨k0, k1, k2⟩ := hpk L (Below.refl _ _)
  clear r0 r1 r2 r3 r4 r5 r6 q0 q1 q2 q3 q4 q5 q6 sP sL bP bL hP hL hpk hlk fp hrc hpc hpg hlv hpL
  go_upto_region 4 with fail
  rw [← HP.out]
  go_upto_region 5 with fail
  rw [← HL.out]
  go_wp2_with fail
  refine FP.out.mono ?_
  intro e w6 hpost
  obtain ⟨hb6, Ms, mb, b0, nm, V, hMs, rfl, hmp⟩ := tab_flow (tb := tRec) (by rw [pRec_S]) pRec_tab hpost
  have hcl := allM_len16 hMs tRec_len
  have hb7 : Below w6.heap.size w6 (w6.alloc (.cells #[.int .i64 0, .int .i64 0] 50)) := (Below.refl _ _).alloc (Nat.le_refl _) _
  obtain ⟨w7, hw7⟩ : ∃ w7, w7 = w6.alloc (.cells #[.int .i64 0, .int .i64 0] 50) := ⟨_, rfl⟩
  rw [← hw7] at hb7
  have hb7L := hb6.trans (hb7.mono hb6.size)
  have HW7 := Lib.hid hw7
  have HB7 := Lib.hid hb7L
  have HMP := Lib.hid (hmp.below hb7)
  have HCL := Lib.hid hcl
  clear hpost hb6 hmp hcl hw7 hb7 hMs k0 k1 k2
  generalize allM pRec.funcs.length Ms = C at *
  go_upto_region 6 with fail
  rw [← HW7.out]
  obtain ⟨k0, k1, k2⟩ := HPK.out w7 hb7L
  obtain ⟨j0, j1, j2, j3, j4, j5, j6⟩ := HLK.out w7 hb7L
  clear hb7L
  go_wp2_with fail
  refine (RC.out w7 HB7.out).mono ?_
  rintro e w8 ⟨v8, M, rfl, ho8, hM, hM4, hb8⟩
  obtain ⟨ua, uc, rfl, hus⟩ := own_int ho8
  clear k0 k1 k2 j0 j1 j2 j3 j4 j5 j6
  have hmake : ∀ w, (Instr.makeMap 54 none).run Tryz.prog w = .ok (.map (some w.heap.size)) (w.alloc (.map #[] 0)) := fun w => run_makeMap _ w
  have hb9 := (Below.refl w8.heap.size w8).alloc (Nat.le_refl _) (.map #[] 0)
  obtain ⟨w9, hw9⟩ : ∃ w9, w9 = w8.alloc (.map #[] 0) := ⟨_, rfl⟩
  obtain ⟨ib, hib⟩ : ∃ ib, ib = w8.heap.size := ⟨_, rfl⟩
  have hmk : MapIs intK Value.bool w9 ib 0 (fun _ => none) := by rw [hw9, hib]; exact MapIs.made _ _ _
  rw [← hw9] at hb9
  have HW9 := Lib.hid hw9
  have HIB9 := Lib.hid hib
  have HMK := Lib.hid hmk
  have hb79 := hb8.trans (hb9.mono hb8.size)
  have HB9 := Lib.hid (HB7.out.trans (hb79.mono HB7.out.size))
  have HB79 := Lib.hid hb79
  have HUS := Lib.hid (hus.fr (Fr.of_below hb9 (fun _ => False)) (fun _ _ h => h))
  have HUB := Lib.hid (show ∀ k, (Value.slice ua M.length uc).ownBlock = some k → k < ib from fun k hk => by rw [hib]; exact (ho8.lt hk).2)
  have HI7 := Lib.hid (show w7.heap.size ≤ ib by rw [hib]; exact hb8.size)
  have HLT := Lib.hid (show L.heap.size ≤ ib by rw [hib]; have := HB7.out.size; have := hb8.size; omega)
  have HIS := Lib.hid hM
  have HM4 := Lib.hid hM4
  clear hw9 hib hmk hb8 hb9 hb79 hus ho8 hM hM4
  go_upto_region 10 with fail
  clear hmake
  rw [← HW9.out, ← HIB9.out]
  go_wp2_with fail
  go_loopw [16] (fun v wr => ∃ (i m : Nat) (f : Int → Option Bool), i ≤ M.length ∧ v = .int .i64 i ∧ m ≤ i ∧ MapIs intK Value.bool wr ib m f ∧ (∀ x, i64B x → ((f x).isSome = true ↔ x ∈ M.take i)) ∧ (∀ x b, f x = some b → b = true) ∧ Fr (fun q => q = ib) w9 wr) (fun v _ => M.length - (intOf v).toNat)
  case atStart => exact ⟨0, 0, _, Nat.zero_le _, rfl, Nat.zero_le _, HMK.out, fun x _ => by simp, fun x b h => (by cases h), Fr.refl _ _⟩
  case round =>
    obtain ⟨i, m, f, hi, rfl, hmi, hmp, hfx, hft, hfr⟩ := hrel
    have hM4 := HM4.out
    by_cases hlt : i < M.length
    · obtain ⟨x, hxe⟩ : ∃ x, x = M[i] := ⟨_, rfl⟩
      have hxm : x ∈ M := by rw [hxe]; exact List.getElem_mem hlt
      obtain ⟨hxb, hxs, hx0⟩ := (HIS.out.2 x).1 hxm
      have htk : ∀ y, y ∈ M.take (i + 1) ↔ y ∈ M.take i ∨ y = x := fun y => by rw [take_snoc M i hlt, List.mem_append, List.mem_singleton, hxe]
      obtain ⟨gb, go, rfl, _, hxc⟩ := HUS.out i hlt
      rw [← hxe] at hxc
      have hgb : gb < ib := HUB.out gb rfl
      have hcell : ∀ (wz : World), Fr (fun q => q = ib) w9 wz → ∀ k (hk : k < M.length), wz.cell? ⟨gb, go + k, none⟩ = some (.int .i64 M[k]) := fun wz hz k hk => by
        obtain ⟨gb', go', e, _, h⟩ := HUS.out k hk
        injection e with e
        injection e with e1 e2
        rw [← e1, ← e2] at h
        exact hz.cell h (show ¬ gb = ib by omega)
      have hxc := hfr.cell hxc (show ¬ gb = ib by omega)
      have ht : Tryz.prog.underlying 54 = some (.map intK.k 4) := Tryz.underlying54
      have HT := Lib.hid ht
      have HXB := Lib.hid hxb
      have HNM := Lib.hid (show m < maxLen by unfold maxLen; omega)
      have HFX := Lib.hid (show ∀ y, i64B y → (((upd f x (some true)) y).isSome = true ↔ y ∈ M.take (i + 1)) from fun y hy => by
        rw [htk y, ← hfx y hy]
        unfold upd
        by_cases h : y = x
        · rw [if_pos h]; simp [h]
        · rw [if_neg h]; simp [h])
      have HFT2 := Lib.hid (show ∀ y b, upd f x (some true) y = some b → b = true from fun y b h => by
        unfold upd at h
        split at h
        · injection h with h; exact h.symm
        · exact hft y b h)
      have HMP := Lib.hid hmp
      have HFR := Lib.hid hfr
      have HXS := Lib.hid hxs
      have HX0 := Lib.hid hx0
      have HXE := Lib.hid hxe
      have HCELL := Lib.hid hcell
      clear hfx hmp hfr ht hx0 hxs hxb hft htk hxm hxe hcell
      go_wp2_with (refine put_map rfl (.tmp 71) (.tmp 75) (.const (.bool true)) 54 4 rfl HMP.out HT.out HNM.out x HXB.out true rfl rfl rfl ?_; intro w10 hm10 ht10)
      have HM10 := Lib.hid hm10
      have HF10 := Lib.hid (HFR.out.trans (turned_fr ht10) (fun _ _ h => h))
      clear hm10 ht10 hxc
      have hxc := HCELL.out w10 HF10.out i hlt
      rw [← HXE.out] at hxc
      have hx0 := HX0.out
      have hmem := HXS.out
      simp only [List.mem_cons, List.not_mem_nil, or_false] at hmem
      have hx1 : (x == 0) = false := by rw [beq_eq_false_iff_ne]; exact hx0
      have hrise := List.pairwise_iff_getElem.1 HIS.out.1
      rcases Nat.eq_zero_or_pos i with hz | hz
      · subst hz
        have HI := Lib.hid hi
        have hxc : w10.cell? ⟨gb, go, none⟩ = some (.int .i64 x) := hxc
        clear hrise hi hM4
        have HFC := Lib.hid (show ∀ wx, Below w10.heap.size w10 wx → wx.cell? ⟨gb, go, none⟩ = some (.int .i64 x) from fun wx hx => below_cell hx hxc)
        clear hxc
        go_upto_region 14 with fail
        by_cases hxa : x = a
        · have n1 : (x != a) = false := by simp [hxa]
          clear hxa
          clear hmem hx0
          refine wp_region_noPanic ?_
          refine wp_region_held_drew (S := fun w' => Below w10.heap.size w10 w') (by kernel_rfl) (Below.refl _ _).drew (fun _ => ?_)
          have HR1 := Lib.hid (Below.refl w10.heap.size w10).drew
          generalize w10.drew = r1 at *
          refine wpAnyH_take (i := 0) (v := ?_) rfl (by kernel_rfl) (by kernel_rfl) (by kernel_rfl) (fun _ _ _ h => h) (Or.inl ⟨by kernel_rfl, ?tq1⟩) HR1.out ?_
          case tq1 => (intro wq hq; have f0 := HFC.out wq hq; go_simp; first | done | with_reducible rfl)
          show wpAnyH _ _ _ _ _ _ _ (Act.put _ (some 76) _) _
          refine wpAnyH_take (i := 1) (v := ?_) rfl (by kernel_rfl) (by kernel_rfl) (by kernel_rfl) (fun _ _ _ h => h) (Or.inl ⟨by kernel_rfl, ?tq2⟩) HR1.out ?_
          case tq2 => (intro wq hq; have f0 := HFC.out wq hq; go_simp; first | done | with_reducible rfl)
          show wpAnyH _ _ _ _ _ _ _ (Act.put _ (some 77) _) _
          refine wpAnyH_take (i := 2) (v := ?_) rfl (by kernel_rfl) (by kernel_rfl) (by kernel_rfl) (fun _ _ _ h => h) (Or.inl ⟨by kernel_rfl, ?tq3⟩) HR1.out ?_
          case tq3 => (intro wq hq; have f0 := HFC.out wq hq; go_simp; first | done | with_reducible rfl)
          show wpAnyH _ _ _ _ _ _ _ (Act.put _ (some 78) _) _
          refine wpAnyH_take (i := 3) (v := ?_) rfl (by kernel_rfl) (by kernel_rfl) (by kernel_rfl) (fun _ _ _ h => h) (Or.inl ⟨by kernel_rfl, ?tq4⟩) HR1.out ?_
          case tq4 => (intro wq hq; have f0 := HFC.out wq hq; go_simp; first | done | with_reducible rfl)
          show wpAnyH _ _ _ _ _ _ _ (Act.put _ (some 79) _) _
          refine wpAnyH_take (i := 4) (v := ?_) rfl (by kernel_rfl) (by kernel_rfl) (by kernel_rfl) (fun _ _ _ h => h) (Or.inl ⟨by kernel_rfl, ?tq5⟩) HR1.out ?_
          case tq5 => (intro wq hq; have f0 := HFC.out wq hq; go_simp; first | done | with_reducible rfl)
          show wpAnyH _ _ _ _ _ _ _ (Act.put _ (some 80) _) _
          refine wpAnyH_take (i := 5) (v := ?_) rfl (by kernel_rfl) (by kernel_rfl) (by kernel_rfl) (fun _ _ _ h => h) (Or.inl ⟨by kernel_rfl, ?tq6⟩) HR1.out ?_
          case tq6 => (intro wq hq; have f0 := HFC.out wq hq; go_simp; first | done | with_reducible rfl)
          show wpAnyH _ _ _ _ _ _ _ (Act.put _ (some 81) _) _
          refine wpAnyH_take (i := 6) (v := ?_) rfl (by kernel_rfl) (by kernel_rfl) (by kernel_rfl) (fun _ _ _ h => h) (Or.inl ⟨by kernel_rfl, ?tq7⟩) HR1.out ?_
          case tq7 => (intro wq hq; have f0 := HFC.out wq hq; go_simp; first | done | with_reducible rfl)
          show wpAnyH _ _ _ _ _ _ _ (Act.put _ (some 82) _) _
          refine wpAnyH_take (i := 7) (v := ?_) rfl (by kernel_rfl) (by kernel_rfl) (by kernel_rfl) (fun _ _ _ h => h) (Or.inl ⟨by kernel_rfl, ?tq8⟩) HR1.out ?_
          case tq8 => (intro wq hq; have f0 := HFC.out wq hq; go_simp; first | done | with_reducible rfl)
          show wpAnyH _ _ _ _ _ _ _ (Act.put _ (some 83) _) _
          refine wpAnyH_take (i := 8) (v := ?_) rfl (by kernel_rfl) (by kernel_rfl) (by kernel_rfl) (fun _ _ _ h => h) (Or.inl ⟨by kernel_rfl, ?tq9⟩) HR1.out ?_
          case tq9 => (intro wq hq; have f0 := HFC.out wq hq; go_simp; first | done | with_reducible rfl)
          show wpAnyH _ _ _ _ _ _ _ (Act.put _ (some 84) _) _
          refine wpAnyH_take (i := 9) (v := ?_) rfl (by kernel_rfl) (by kernel_rfl) (by kernel_rfl) (fun _ _ _ h => h) (Or.inl ⟨by kernel_rfl, ?tq10⟩) HR1.out ?_
          case tq10 => (intro wq hq; have f0 := HFC.out wq hq; go_simp; first | done | with_reducible rfl)
          show wpAnyH _ _ _ _ _ _ _ (Act.put _ (some 85) _) _
          refine wpAnyH_take (i := 10) (v := ?_) rfl (by kernel_rfl) (by kernel_rfl) (by kernel_rfl) (fun _ _ _ h => h) (Or.inl ⟨by kernel_rfl, ?tq11⟩) HR1.out ?_
          case tq11 => (intro wq hq; have f0 := HFC.out wq hq; go_simp; first | done | with_reducible rfl)
          show wpAnyH _ _ _ _ _ _ _ (Act.put _ (some 86) _) _
          refine wpAnyH_take (i := 11) (v := ?_) rfl (by kernel_rfl) (by kernel_rfl) (by kernel_rfl) (fun _ _ _ h => h) (Or.inl ⟨by kernel_rfl, ?tq12⟩) HR1.out ?_
          case tq12 => (intro wq hq; have f0 := HFC.out wq hq; go_simp; first | done | with_reducible rfl)
          show wpAnyH _ _ _ _ _ _ _ (Act.put _ (some 87) _) _
          refine wpAnyH_take (i := 12) (v := ?_) rfl (by kernel_rfl) (by kernel_rfl) (by kernel_rfl) (fun _ _ _ h => h) (Or.inl ⟨by kernel_rfl, ?tq13⟩) HR1.out ?_
          case tq13 => (intro wq hq; have f0 := HFC.out wq hq; go_simp; first | done | with_reducible rfl)
          show wpAnyH _ _ _ _ _ _ _ (Act.put _ (some 88) _) _
          refine wpAnyH_take (i := 13) (v := undef) rfl (by kernel_rfl) (by kernel_rfl) (by kernel_rfl) (fun _ _ _ h => h) (Or.inr ⟨by kernel_rfl, by kernel_rfl⟩) HR1.out ?_
          show wpAnyH _ _ _ _ _ _ _ (Act.put _ (some 89) _) _
          refine wpAnyH_take (i := 14) (v := undef) rfl (by kernel_rfl) (by kernel_rfl) (by kernel_rfl) (fun _ _ _ h => h) (Or.inr ⟨by kernel_rfl, by kernel_rfl⟩) HR1.out ?_
          show wpAnyH _ _ _ _ _ _ _ (Act.put _ (some 90) _) _
          refine wpAnyH_take (i := 15) (v := undef) rfl (by kernel_rfl) (by kernel_rfl) (by kernel_rfl) (fun _ _ _ h => h) (Or.inr ⟨by kernel_rfl, by kernel_rfl⟩) HR1.out ?_
          show wpAnyH _ _ _ _ _ _ _ (Act.put _ (some 91) _) _
          refine wpAnyH_take (i := 16) (v := undef) rfl (by kernel_rfl) (by kernel_rfl) (by kernel_rfl) (fun _ _ _ h => h) (Or.inr ⟨by kernel_rfl, by kernel_rfl⟩) HR1.out ?_
          show wpAnyH _ _ _ _ _ _ _ (Act.put _ (some 92) _) _
          refine wpAnyH_take (i := 17) (v := undef) rfl (by kernel_rfl) (by kernel_rfl) (by kernel_rfl) (fun _ _ _ h => h) (Or.inr ⟨by kernel_rfl, by kernel_rfl⟩) HR1.out ?_
          show wpAnyH _ _ _ _ _ _ _ (Act.put _ (some 93) _) _
          refine wpAnyH_take (i := 18) (v := undef) rfl (by kernel_rfl) (by kernel_rfl) (by kernel_rfl) (fun _ _ _ h => h) (Or.inr ⟨by kernel_rfl, by kernel_rfl⟩) HR1.out ?_
          show wpAnyH _ _ _ _ _ _ _ (Act.put _ (some 94) _) _
          refine wpAnyH_take (i := 19) (v := ?_) rfl (by kernel_rfl) (by kernel_rfl) (by kernel_rfl) (fun _ _ _ h => h) (Or.inl ⟨by kernel_rfl, ?tq14⟩) HR1.out ?_
          case tq14 => (intro wq hq; have f0 := HFC.out wq hq; go_simp; first | done | with_reducible rfl)
          show wpAnyH _ _ _ _ _ _ _ (Act.put _ (some 95) _) _
          refine wpAnyH_take (i := 20) (v := ?_) rfl (by kernel_rfl) (by kernel_rfl) (by kernel_rfl) (fun _ _ _ h => h) (Or.inl ⟨by kernel_rfl, ?tq15⟩) HR1.out ?_
          case tq15 => (intro wq hq; have f0 := HFC.out wq hq; go_simp; first | done | with_reducible rfl)
          show wpAnyH _ _ _ _ _ _ _ (Act.put _ (some 96) _) _
          refine wpAnyH_take (i := 21) (v := undef) rfl (by kernel_rfl) (by kernel_rfl) (by kernel_rfl) (fun _ _ _ h => h) (Or.inr ⟨by kernel_rfl, by kernel_rfl⟩) HR1.out ?_
          show wpAnyH _ _ _ _ _ _ _ (Act.put _ (some 97) _) _
          refine wpAnyH_take (i := 22) (v := undef) rfl (by kernel_rfl) (by kernel_rfl) (by kernel_rfl) (fun _ _ _ h => h) (Or.inr ⟨by kernel_rfl, by kernel_rfl⟩) HR1.out ?_
          show wpAnyH _ _ _ _ _ _ _ (Act.put _ (some 98) _) _
          refine wpAnyH_take (i := 23) (v := undef) rfl (by kernel_rfl) (by kernel_rfl) (by kernel_rfl) (fun _ _ _ h => h) (Or.inr ⟨by kernel_rfl, by kernel_rfl⟩) HR1.out ?_
          show wpAnyH _ _ _ _ _ _ _ (Act.put _ (some 99) _) _
          refine wpAnyH_take (i := 24) (v := undef) rfl (by kernel_rfl) (by kernel_rfl) (by kernel_rfl) (fun _ _ _ h => h) (Or.inr ⟨by kernel_rfl, by kernel_rfl⟩) HR1.out ?_
          show wpAnyH _ _ _ _ _ _ _ (Act.put _ (some 100) _) _
          refine wpAnyH_take (i := 25) (v := undef) rfl (by kernel_rfl) (by kernel_rfl) (by kernel_rfl) (fun _ _ _ h => h) (Or.inr ⟨by kernel_rfl, by kernel_rfl⟩) HR1.out ?_
          show wpAnyH _ _ _ _ _ _ _ (Act.put _ (some 101) _) _
          refine wpAnyH_take (i := 26) (v := undef) rfl (by kernel_rfl) (by kernel_rfl) (by kernel_rfl) (fun _ _ _ h => h) (Or.inr ⟨by kernel_rfl, by kernel_rfl⟩) HR1.out ?_
          show wpAnyH _ _ _ _ _ _ _ (Act.put _ (some 102) _) _
          refine wpAnyH_take (i := 27) (v := ?_) rfl (by kernel_rfl) (by kernel_rfl) (by kernel_rfl) (fun _ _ _ h => h) (Or.inl ⟨by kernel_rfl, ?tq16⟩) HR1.out ?_
          case tq16 => (intro wq hq; have f0 := HFC.out wq hq; go_simp; first | done | with_reducible rfl)
          show wpAnyH _ _ _ _ _ _ _ (Act.put _ (some 103) _) _
          refine wpAnyH_take (i := 28) (v := ?_) rfl (by kernel_rfl) (by kernel_rfl) (by kernel_rfl) (fun _ _ _ h => h) (Or.inl ⟨by kernel_rfl, ?tq17⟩) HR1.out ?_
          case tq17 => (intro wq hq; have f0 := HFC.out wq hq; go_simp; first | done | with_reducible rfl)
          show wpAnyH _ _ _ _ _ _ _ (Act.put _ (some 104) _) _
          refine wpAnyH_take (i := 29) (v := ?_) rfl (by kernel_rfl) (by kernel_rfl) (by kernel_rfl) (fun _ _ _ h => h) (Or.inl ⟨by kernel_rfl, ?tq18⟩) HR1.out ?_
          case tq18 => (intro wq hq; have f0 := HFC.out wq hq; go_simp; first | done | with_reducible rfl)
          show wpAnyH _ _ _ _ _ _ _ (Act.put _ (some 105) _) _
          refine wpAnyH_take (i := 30) (v := ?_) rfl (by kernel_rfl) (by kernel_rfl) (by kernel_rfl) (fun _ _ _ h => h) (Or.inl ⟨by kernel_rfl, ?tq19⟩) HR1.out ?_
          case tq19 => (intro wq hq; have f0 := HFC.out wq hq; go_simp; first | done | with_reducible rfl)
          show wpAnyH _ _ _ _ _ _ _ (Act.put _ (some 106) _) _
          refine wpAnyH_take (i := 31) (v := ?_) rfl (by kernel_rfl) (by kernel_rfl) (by kernel_rfl) (fun _ _ _ h => h) (Or.inl ⟨by kernel_rfl, ?tq20⟩) HR1.out ?_
          case tq20 => (intro wq hq; have f0 := HFC.out wq hq; go_simp; first | done | with_reducible rfl)
          show wpAnyH _ _ _ _ _ _ _ (Act.put _ (some 107) _) _
          refine wpAnyH_take (i := 32) (v := ?_) rfl (by kernel_rfl) (by kernel_rfl) (by kernel_rfl) (fun _ _ _ h => h) (Or.inl ⟨by kernel_rfl, ?tq21⟩) HR1.out ?_
          case tq21 => (intro wq hq; have f0 := HFC.out wq hq; go_simp; first | done | with_reducible rfl)
          show wpAnyH _ _ _ _ _ _ _ (Act.put _ (some 108) _) _
          refine wpAnyH_take (i := 33) (v := undef) rfl (by kernel_rfl) (by kernel_rfl) (by kernel_rfl) (fun _ _ _ h => h) (Or.inr ⟨by kernel_rfl, by kernel_rfl⟩) HR1.out ?_
          show wpAnyH _ _ _ _ _ _ _ (Act.put _ (some 109) _) _
          refine wpAnyH_take (i := 34) (v := undef) rfl (by kernel_rfl) (by kernel_rfl) (by kernel_rfl) (fun _ _ _ h => h) (Or.inr ⟨by kernel_rfl, by kernel_rfl⟩) HR1.out ?_
          show wpAnyH _ _ _ _ _ _ _ (Act.put _ (some 110) _) _
          refine wpAnyH_take (i := 35) (v := undef) rfl (by kernel_rfl) (by kernel_rfl) (by kernel_rfl) (fun _ _ _ h => h) (Or.inr ⟨by kernel_rfl, by kernel_rfl⟩) HR1.out ?_
          show wpAnyH _ _ _ _ _ _ _ (Act.put _ (some 111) _) _
          refine wpAnyH_take (i := 36) (v := undef) rfl (by kernel_rfl) (by kernel_rfl) (by kernel_rfl) (fun _ _ _ h => h) (Or.inr ⟨by kernel_rfl, by kernel_rfl⟩) HR1.out ?_
          show wpAnyH _ _ _ _ _ _ _ (Act.put _ (some 112) _) _
          refine wpAnyH_take (i := 37) (v := undef) rfl (by kernel_rfl) (by kernel_rfl) (by kernel_rfl) (fun _ _ _ h => h) (Or.inr ⟨by kernel_rfl, by kernel_rfl⟩) HR1.out ?_
          show wpAnyH _ _ _ _ _ _ _ (Act.put _ (some 113) _) _
          refine wpAnyH_take (i := 38) (v := undef) rfl (by kernel_rfl) (by kernel_rfl) (by kernel_rfl) (fun _ _ _ h => h) (Or.inr ⟨by kernel_rfl, by kernel_rfl⟩) HR1.out ?_
          show wpAnyH _ _ _ _ _ _ _ (Act.put _ (some 114) _) _
          refine wpAnyH_take (i := 39) (v := undef) rfl (by kernel_rfl) (by kernel_rfl) (by kernel_rfl) (fun _ _ _ h => h) (Or.inr ⟨by kernel_rfl, by kernel_rfl⟩) HR1.out ?_
          show wpAnyH _ _ _ _ _ _ _ (Act.put _ (some 115) _) _
          refine wpAnyH_take (i := 40) (v := undef) rfl (by kernel_rfl) (by kernel_rfl) (by kernel_rfl) (fun _ _ _ h => h) (Or.inr ⟨by kernel_rfl, by kernel_rfl⟩) HR1.out ?_
          show wpAnyH _ _ _ _ _ _ _ (Act.put _ (some 116) _) _
          refine wpAnyH_take (i := 41) (v := undef) rfl (by kernel_rfl) (by kernel_rfl) (by kernel_rfl) (fun _ _ _ h => h) (Or.inr ⟨by kernel_rfl, by kernel_rfl⟩) HR1.out ?_
          show wpAnyH _ _ _ _ _ _ _ (Act.put _ (some 117) _) _
          refine wpAnyH_take (i := 42) (v := undef) rfl (by kernel_rfl) (by kernel_rfl) (by kernel_rfl) (fun _ _ _ h => h) (Or.inr ⟨by kernel_rfl, by kernel_rfl⟩) HR1.out ?_
          show wpAnyH _ _ _ _ _ _ _ (Act.put _ (some 118) _) _
          refine wpAnyH_take (i := 43) (v := ?_) rfl (by kernel_rfl) (by kernel_rfl) (by kernel_rfl) (fun _ _ _ h => h) (Or.inl ⟨by kernel_rfl, ?tq22⟩) HR1.out ?_
          case tq22 => (intro wq hq; have f0 := HFC.out wq hq; go_simp; first | done | with_reducible rfl)
          show wpAnyH _ _ _ _ _ _ _ (Act.put _ (some 119) _) _
          refine wpAnyH_take (i := 44) (v := ?_) rfl (by kernel_rfl) (by kernel_rfl) (by kernel_rfl) (fun _ _ _ h => h) (Or.inl ⟨by kernel_rfl, ?tq23⟩) HR1.out ?_
          case tq23 => (intro wq hq; have f0 := HFC.out wq hq; go_simp; first | done | with_reducible rfl)
          show wpAnyH _ _ _ _ _ _ _ (Act.put _ (some 120) _) _
          refine wpAnyH_done (by kernel_rfl) ?_ _
          refine NoPanic.normal ?_
          show Exit.then _ _ _ (Act.put _ (some 120) _) _
          simp only [Act.put, List.setIfInBounds_toArray, List.set_cons_zero, List.set_cons_succ]
          go_wp2_with fail
          go_roundw
          case rel => exact ⟨_, _, _, hlt, by go_num, by split <;> omega, HM10.out.below HR1.out, HFX.out, HFT2.out, HF10.out.trans (Fr.of_below HR1.out (fun _ => False)) (fun _ _ h => h.elim)⟩
          case measure => simp [intOf]; omega
        by_cases hxbb : x = b
        · have n1 : (x != a) = true := by simp [hxa]
          have n2 : (x != b) = false := by simp [hxbb]
          clear hxa hxbb
          clear hmem hx0
          refine wp_region_noPanic ?_
          refine wp_region_held_drew (S := fun w' => Below w10.heap.size w10 w') (by kernel_rfl) (Below.refl _ _).drew (fun _ => ?_)
          have HR1 := Lib.hid (Below.refl w10.heap.size w10).drew
          generalize w10.drew = r1 at *
          refine wpAnyH_take (i := 0) (v := ?_) rfl (by kernel_rfl) (by kernel_rfl) (by kernel_rfl) (fun _ _ _ h => h) (Or.inl ⟨by kernel_rfl, ?tq1⟩) HR1.out ?_
          case tq1 => (intro wq hq; have f0 := HFC.out wq hq; go_simp; first | done | with_reducible rfl)
          show wpAnyH _ _ _ _ _ _ _ (Act.put _ (some 76) _) _
          refine wpAnyH_take (i := 1) (v := ?_) rfl (by kernel_rfl) (by kernel_rfl) (by kernel_rfl) (fun _ _ _ h => h) (Or.inl ⟨by kernel_rfl, ?tq2⟩) HR1.out ?_
          case tq2 => (intro wq hq; have f0 := HFC.out wq hq; go_simp; first | done | with_reducible rfl)
          show wpAnyH _ _ _ _ _ _ _ (Act.put _ (some 77) _) _
          refine wpAnyH_take (i := 2) (v := ?_) rfl (by kernel_rfl) (by kernel_rfl) (by kernel_rfl) (fun _ _ _ h => h) (Or.inl ⟨by kernel_rfl, ?tq3⟩) HR1.out ?_
          case tq3 => (intro wq hq; have f0 := HFC.out wq hq; go_simp; first | done | with_reducible rfl)
          show wpAnyH _ _ _ _ _ _ _ (Act.put _ (some 78) _) _
          refine wpAnyH_take (i := 3) (v := ?_) rfl (by kernel_rfl) (by kernel_rfl) (by kernel_rfl) (fun _ _ _ h => h) (Or.inl ⟨by kernel_rfl, ?tq4⟩) HR1.out ?_
          case tq4 => (intro wq hq; have f0 := HFC.out wq hq; go_simp; first | done | with_reducible rfl)
          show wpAnyH _ _ _ _ _ _ _ (Act.put _ (some 79) _) _
          refine wpAnyH_take (i := 4) (v := ?_) rfl (by kernel_rfl) (by kernel_rfl) (by kernel_rfl) (fun _ _ _ h => h) (Or.inl ⟨by kernel_rfl, ?tq5⟩) HR1.out ?_
          case tq5 => (intro wq hq; have f0 := HFC.out wq hq; go_simp; first | done | with_reducible rfl)
          show wpAnyH _ _ _ _ _ _ _ (Act.put _ (some 80) _) _
          refine wpAnyH_take (i := 5) (v := ?_) rfl (by kernel_rfl) (by kernel_rfl) (by kernel_rfl) (fun _ _ _ h => h) (Or.inl ⟨by kernel_rfl, ?tq6⟩) HR1.out ?_
          case tq6 => (intro wq hq; have f0 := HFC.out wq hq; go_simp; first | done | with_reducible rfl)
          show wpAnyH _ _ _ _ _ _ _ (Act.put _ (some 81) _) _
          refine wpAnyH_take (i := 6) (v := ?_) rfl (by kernel_rfl) (by kernel_rfl) (by kernel_rfl) (fun _ _ _ h => h) (Or.inl ⟨by kernel_rfl, ?tq7⟩) HR1.out ?_
          case tq7 => (intro wq hq; have f0 := HFC.out wq hq; go_simp; first | done | with_reducible rfl)
          show wpAnyH _ _ _ _ _ _ _ (Act.put _ (some 82) _) _
          refine wpAnyH_take (i := 7) (v := ?_) rfl (by kernel_rfl) (by kernel_rfl) (by kernel_rfl) (fun _ _ _ h => h) (Or.inl ⟨by kernel_rfl, ?tq8⟩) HR1.out ?_
          case tq8 => (intro wq hq; have f0 := HFC.out wq hq; go_simp; first | done | with_reducible rfl)
          show wpAnyH _ _ _ _ _ _ _ (Act.put _ (some 83) _) _
          refine wpAnyH_take (i := 8) (v := ?_) rfl (by kernel_rfl) (by kernel_rfl) (by kernel_rfl) (fun _ _ _ h => h) (Or.inl ⟨by kernel_rfl, ?tq9⟩) HR1.out ?_
          case tq9 => (intro wq hq; have f0 := HFC.out wq hq; go_simp; first | done | with_reducible rfl)
          show wpAnyH _ _ _ _ _ _ _ (Act.put _ (some 84) _) _
          refine wpAnyH_take (i := 9) (v := ?_) rfl (by kernel_rfl) (by kernel_rfl) (by kernel_rfl) (fun _ _ _ h => h) (Or.inl ⟨by kernel_rfl, ?tq10⟩) HR1.out ?_
          case tq10 => (intro wq hq; have f0 := HFC.out wq hq; go_simp; first | done | with_reducible rfl)
          show wpAnyH _ _ _ _ _ _ _ (Act.put _ (some 85) _) _
          refine wpAnyH_take (i := 10) (v := ?_) rfl (by kernel_rfl) (by kernel_rfl) (by kernel_rfl) (fun _ _ _ h => h) (Or.inl ⟨by kernel_rfl, ?tq11⟩) HR1.out ?_
          case tq11 => (intro wq hq; have f0 := HFC.out wq hq; go_simp; first | done | with_reducible rfl)
          show wpAnyH _ _ _ _ _ _ _ (Act.put _ (some 86) _) _
          refine wpAnyH_take (i := 11) (v := ?_) rfl (by kernel_rfl) (by kernel_rfl) (by kernel_rfl) (fun _ _ _ h => h) (Or.inl ⟨by kernel_rfl, ?tq12⟩) HR1.out ?_
          case tq12 => (intro wq hq; have f0 := HFC.out wq hq; go_simp; first | done | with_reducible rfl)
          show wpAnyH _ _ _ _ _ _ _ (Act.put _ (some 87) _) _
          refine wpAnyH_take (i := 12) (v := ?_) rfl (by kernel_rfl) (by kernel_rfl) (by kernel_rfl) (fun _ _ _ h => h) (Or.inl ⟨by kernel_rfl, ?tq13⟩) HR1.out ?_
          case tq13 => (intro wq hq; have f0 := HFC.out wq hq; go_simp; first | done | with_reducible rfl)
          show wpAnyH _ _ _ _ _ _ _ (Act.put _ (some 88) _) _
          refine wpAnyH_take (i := 13) (v := ?_) rfl (by kernel_rfl) (by kernel_rfl) (by kernel_rfl) (fun _ _ _ h => h) (Or.inl ⟨by kernel_rfl, ?tq14⟩) HR1.out ?_
          case tq14 => (intro wq hq; have f0 := HFC.out wq hq; go_simp; first | done | with_reducible rfl)
          show wpAnyH _ _ _ _ _ _ _ (Act.put _ (some 89) _) _
          refine wpAnyH_take (i := 14) (v := ?_) rfl (by kernel_rfl) (by kernel_rfl) (by kernel_rfl) (fun _ _ _ h => h) (Or.inl ⟨by kernel_rfl, ?tq15⟩) HR1.out ?_
          case tq15 => (intro wq hq; have f0 := HFC.out wq hq; go_simp; first | done | with_reducible rfl)
          show wpAnyH _ _ _ _ _ _ _ (Act.put _ (some 90) _) _
          refine wpAnyH_take (i := 15) (v := ?_) rfl (by kernel_rfl) (by kernel_rfl) (by kernel_rfl) (fun _ _ _ h => h) (Or.inl ⟨by kernel_rfl, ?tq16⟩) HR1.out ?_
          case tq16 => (intro wq hq; have f0 := HFC.out wq hq; go_simp; first | done | with_reducible rfl)
          show wpAnyH _ _ _ _ _ _ _ (Act.put _ (some 91) _) _
          refine wpAnyH_take (i := 16) (v := ?_) rfl (by kernel_rfl) (by kernel_rfl) (by kernel_rfl) (fun _ _ _ h => h) (Or.inl ⟨by kernel_rfl, ?tq17⟩) HR1.out ?_
          case tq17 => (intro wq hq; have f0 := HFC.out wq hq; go_simp; first | done | with_reducible rfl)
          show wpAnyH _ _ _ _ _ _ _ (Act.put _ (some 92) _) _
          refine wpAnyH_take (i := 17) (v := ?_) rfl (by kernel_rfl) (by kernel_rfl) (by kernel_rfl) (fun _ _ _ h => h) (Or.inl ⟨by kernel_rfl, ?tq18⟩) HR1.out ?_
          case tq18 => (intro wq hq; have f0 := HFC.out wq hq; go_simp; first | done | with_reducible rfl)
          show wpAnyH _ _ _ _ _ _ _ (Act.put _ (some 93) _) _
          refine wpAnyH_take (i := 18) (v := ?_) rfl (by kernel_rfl) (by kernel_rfl) (by kernel_rfl) (fun _ _ _ h => h) (Or.inl ⟨by kernel_rfl, ?tq19⟩) HR1.out ?_
          case tq19 => (intro wq hq; have f0 := HFC.out wq hq; go_simp; first | done | with_reducible rfl)
          show wpAnyH _ _ _ _ _ _ _ (Act.put _ (some 94) _) _
          refine wpAnyH_take (i := 19) (v := ?_) rfl (by kernel_rfl) (by kernel_rfl) (by kernel_rfl) (fun _ _ _ h => h) (Or.inl ⟨by kernel_rfl, ?tq20⟩) HR1.out ?_
          case tq20 => (intro wq hq; have f0 := HFC.out wq hq; go_simp; first | done | with_reducible rfl)
          show wpAnyH _ _ _ _ _ _ _ (Act.put _ (some 95) _) _
          refine wpAnyH_take (i := 20) (v := ?_) rfl (by kernel_rfl) (by kernel_rfl) (by kernel_rfl) (fun _ _ _ h => h) (Or.inl ⟨by kernel_rfl, ?tq21⟩) HR1.out ?_
          case tq21 => (intro wq hq; have f0 := HFC.out wq hq; go_simp; first | done | with_reducible rfl)
          show wpAnyH _ _ _ _ _ _ _ (Act.put _ (some 96) _) _
          refine wpAnyH_take (i := 21) (v := undef) rfl (by kernel_rfl) (by kernel_rfl) (by kernel_rfl) (fun _ _ _ h => h) (Or.inr ⟨by kernel_rfl, by kernel_rfl⟩) HR1.out ?_
          show wpAnyH _ _ _ _ _ _ _ (Act.put _ (some 97) _) _
          refine wpAnyH_take (i := 22) (v := undef) rfl (by kernel_rfl) (by kernel_rfl) (by kernel_rfl) (fun _ _ _ h => h) (Or.inr ⟨by kernel_rfl, by kernel_rfl⟩) HR1.out ?_
          show wpAnyH _ _ _ _ _ _ _ (Act.put _ (some 98) _) _
          refine wpAnyH_take (i := 23) (v := undef) rfl (by kernel_rfl) (by kernel_rfl) (by kernel_rfl) (fun _ _ _ h => h) (Or.inr ⟨by kernel_rfl, by kernel_rfl⟩) HR1.out ?_
          show wpAnyH _ _ _ _ _ _ _ (Act.put _ (some 99) _) _
          refine wpAnyH_take (i := 24) (v := undef) rfl (by kernel_rfl) (by kernel_rfl) (by kernel_rfl) (fun _ _ _ h => h) (Or.inr ⟨by kernel_rfl, by kernel_rfl⟩) HR1.out ?_
          show wpAnyH _ _ _ _ _ _ _ (Act.put _ (some 100) _) _
          refine wpAnyH_take (i := 25) (v := undef) rfl (by kernel_rfl) (by kernel_rfl) (by kernel_rfl) (fun _ _ _ h => h) (Or.inr ⟨by kernel_rfl, by kernel_rfl⟩) HR1.out ?_
          show wpAnyH _ _ _ _ _ _ _ (Act.put _ (some 101) _) _
          refine wpAnyH_take (i := 26) (v := undef) rfl (by kernel_rfl) (by kernel_rfl) (by kernel_rfl) (fun _ _ _ h => h) (Or.inr ⟨by kernel_rfl, by kernel_rfl⟩) HR1.out ?_
          show wpAnyH _ _ _ _ _ _ _ (Act.put _ (some 102) _) _
          refine wpAnyH_take (i := 27) (v := ?_) rfl (by kernel_rfl) (by kernel_rfl) (by kernel_rfl) (fun _ _ _ h => h) (Or.inl ⟨by kernel_rfl, ?tq22⟩) HR1.out ?_
          case tq22 => (intro wq hq; have f0 := HFC.out wq hq; go_simp; first | done | with_reducible rfl)
          show wpAnyH _ _ _ _ _ _ _ (Act.put _ (some 103) _) _
          refine wpAnyH_take (i := 28) (v := ?_) rfl (by kernel_rfl) (by kernel_rfl) (by kernel_rfl) (fun _ _ _ h => h) (Or.inl ⟨by kernel_rfl, ?tq23⟩) HR1.out ?_
          case tq23 => (intro wq hq; have f0 := HFC.out wq hq; go_simp; first | done | with_reducible rfl)
          show wpAnyH _ _ _ _ _ _ _ (Act.put _ (some 104) _) _
          refine wpAnyH_take (i := 29) (v := ?_) rfl (by kernel_rfl) (by kernel_rfl) (by kernel_rfl) (fun _ _ _ h => h) (Or.inl ⟨by kernel_rfl, ?tq24⟩) HR1.out ?_
          case tq24 => (intro wq hq; have f0 := HFC.out wq hq; go_simp; first | done | with_reducible rfl)
          show wpAnyH _ _ _ _ _ _ _ (Act.put _ (some 105) _) _
          refine wpAnyH_take (i := 30) (v := ?_) rfl (by kernel_rfl) (by kernel_rfl) (by kernel_rfl) (fun _ _ _ h => h) (Or.inl ⟨by kernel_rfl, ?tq25⟩) HR1.out ?_
          case tq25 => (intro wq hq; have f0 := HFC.out wq hq; go_simp; first | done | with_reducible rfl)
          show wpAnyH _ _ _ _ _ _ _ (Act.put _ (some 106) _) _
          refine wpAnyH_take (i := 31) (v := ?_) rfl (by kernel_rfl) (by kernel_rfl) (by kernel_rfl) (fun _ _ _ h => h) (Or.inl ⟨by kernel_rfl, ?tq26⟩) HR1.out ?_
          case tq26 => (intro wq hq; have f0 := HFC.out wq hq; go_simp; first | done | with_reducible rfl)
          show wpAnyH _ _ _ _ _ _ _ (Act.put _ (some 107) _) _
          refine wpAnyH_take (i := 32) (v := ?_) rfl (by kernel_rfl) (by kernel_rfl) (by kernel_rfl) (fun _ _ _ h => h) (Or.inl ⟨by kernel_rfl, ?tq27⟩) HR1.out ?_
          case tq27 => (intro wq hq; have f0 := HFC.out wq hq; go_simp; first | done | with_reducible rfl)
          show wpAnyH _ _ _ _ _ _ _ (Act.put _ (some 108) _) _
          refine wpAnyH_take (i := 33) (v := undef) rfl (by kernel_rfl) (by kernel_rfl) (by kernel_rfl) (fun _ _ _ h => h) (Or.inr ⟨by kernel_rfl, by kernel_rfl⟩) HR1.out ?_
          show wpAnyH _ _ _ _ _ _ _ (Act.put _ (some 109) _) _
          refine wpAnyH_take (i := 34) (v := undef) rfl (by kernel_rfl) (by kernel_rfl) (by kernel_rfl) (fun _ _ _ h => h) (Or.inr ⟨by kernel_rfl, by kernel_rfl⟩) HR1.out ?_
          show wpAnyH _ _ _ _ _ _ _ (Act.put _ (some 110) _) _
          refine wpAnyH_take (i := 35) (v := undef) rfl (by kernel_rfl) (by kernel_rfl) (by kernel_rfl) (fun _ _ _ h => h) (Or.inr ⟨by kernel_rfl, by kernel_rfl⟩) HR1.out ?_
          show wpAnyH _ _ _ _ _ _ _ (Act.put _ (some 111) _) _
          refine wpAnyH_take (i := 36) (v := undef) rfl (by kernel_rfl) (by kernel_rfl) (by kernel_rfl) (fun _ _ _ h => h) (Or.inr ⟨by kernel_rfl, by kernel_rfl⟩) HR1.out ?_
          show wpAnyH _ _ _ _ _ _ _ (Act.put _ (some 112) _) _
          refine wpAnyH_take (i := 37) (v := undef) rfl (by kernel_rfl) (by kernel_rfl) (by kernel_rfl) (fun _ _ _ h => h) (Or.inr ⟨by kernel_rfl, by kernel_rfl⟩) HR1.out ?_
          show wpAnyH _ _ _ _ _ _ _ (Act.put _ (some 113) _) _
          refine wpAnyH_take (i := 38) (v := undef) rfl (by kernel_rfl) (by kernel_rfl) (by kernel_rfl) (fun _ _ _ h => h) (Or.inr ⟨by kernel_rfl, by kernel_rfl⟩) HR1.out ?_
          show wpAnyH _ _ _ _ _ _ _ (Act.put _ (some 114) _) _
          refine wpAnyH_take (i := 39) (v := undef) rfl (by kernel_rfl) (by kernel_rfl) (by kernel_rfl) (fun _ _ _ h => h) (Or.inr ⟨by kernel_rfl, by kernel_rfl⟩) HR1.out ?_
          show wpAnyH _ _ _ _ _ _ _ (Act.put _ (some 115) _) _
          refine wpAnyH_take (i := 40) (v := undef) rfl (by kernel_rfl) (by kernel_rfl) (by kernel_rfl) (fun _ _ _ h => h) (Or.inr ⟨by kernel_rfl, by kernel_rfl⟩) HR1.out ?_
          show wpAnyH _ _ _ _ _ _ _ (Act.put _ (some 116) _) _
          refine wpAnyH_take (i := 41) (v := undef) rfl (by kernel_rfl) (by kernel_rfl) (by kernel_rfl) (fun _ _ _ h => h) (Or.inr ⟨by kernel_rfl, by kernel_rfl⟩) HR1.out ?_
          show wpAnyH _ _ _ _ _ _ _ (Act.put _ (some 117) _) _
          refine wpAnyH_take (i := 42) (v := undef) rfl (by kernel_rfl) (by kernel_rfl) (by kernel_rfl) (fun _ _ _ h => h) (Or.inr ⟨by kernel_rfl, by kernel_rfl⟩) HR1.out ?_
          show wpAnyH _ _ _ _ _ _ _ (Act.put _ (some 118) _) _
          refine wpAnyH_take (i := 43) (v := ?_) rfl (by kernel_rfl) (by kernel_rfl) (by kernel_rfl) (fun _ _ _ h => h) (Or.inl ⟨by kernel_rfl, ?tq28⟩) HR1.out ?_
          case tq28 => (intro wq hq; have f0 := HFC.out wq hq; go_simp; first | done | with_reducible rfl)
          show wpAnyH _ _ _ _ _ _ _ (Act.put _ (some 119) _) _
          refine wpAnyH_take (i := 44) (v := ?_) rfl (by kernel_rfl) (by kernel_rfl) (by kernel_rfl) (fun _ _ _ h => h) (Or.inl ⟨by kernel_rfl, ?tq29⟩) HR1.out ?_
          case tq29 => (intro wq hq; have f0 := HFC.out wq hq; go_simp; first | done | with_reducible rfl)
          show wpAnyH _ _ _ _ _ _ _ (Act.put _ (some 120) _) _
          refine wpAnyH_done (by kernel_rfl) ?_ _
          refine NoPanic.normal ?_
          show Exit.then _ _ _ (Act.put _ (some 120) _) _
          simp only [Act.put, List.setIfInBounds_toArray, List.set_cons_zero, List.set_cons_succ]
          go_wp2_with fail
          go_roundw
          case rel => exact ⟨_, _, _, hlt, by go_num, by split <;> omega, HM10.out.below HR1.out, HFX.out, HFT2.out, HF10.out.trans (Fr.of_below HR1.out (fun _ => False)) (fun _ _ h => h.elim)⟩
          case measure => simp [intOf]; omega
        have hxc2 : x = c := by
          rcases hmem with h | h | h | h
          · exact absurd h hxa
          · exact absurd h hxbb
          · exact h
          · exact absurd h hx0
        have n1 : (x != a) = true := by simp [hxa]
        have n2 : (x != b) = true := by simp [hxbb]
        have n3 : (x != c) = false := by simp [hxc2]
        clear hxa hxbb hxc2
        clear hmem hx0
        refine wp_region_noPanic ?_
        refine wp_region_held_drew (S := fun w' => Below w10.heap.size w10 w') (by kernel_rfl) (Below.refl _ _).drew (fun _ => ?_)
        have HR1 := Lib.hid (Below.refl w10.heap.size w10).drew
        generalize w10.drew = r1 at *
        refine wpAnyH_take (i := 0) (v := ?_) rfl (by kernel_rfl) (by kernel_rfl) (by kernel_rfl) (fun _ _ _ h => h) (Or.inl ⟨by kernel_rfl, ?tq1⟩) HR1.out ?_
        case tq1 => (intro wq hq; have f0 := HFC.out wq hq; go_simp; first | done | with_reducible rfl)
        show wpAnyH _ _ _ _ _ _ _ (Act.put _ (some 76) _) _
        refine wpAnyH_take (i := 1) (v := ?_) rfl (by kernel_rfl) (by kernel_rfl) (by kernel_rfl) (fun _ _ _ h => h) (Or.inl ⟨by kernel_rfl, ?tq2⟩) HR1.out ?_
        case tq2 => (intro wq hq; have f0 := HFC.out wq hq; go_simp; first | done | with_reducible rfl)
        show wpAnyH _ _ _ _ _ _ _ (Act.put _ (some 77) _) _
        refine wpAnyH_take (i := 2) (v := ?_) rfl (by kernel_rfl) (by kernel_rfl) (by kernel_rfl) (fun _ _ _ h => h) (Or.inl ⟨by kernel_rfl, ?tq3⟩) HR1.out ?_
        case tq3 => (intro wq hq; have f0 := HFC.out wq hq; go_simp; first | done | with_reducible rfl)
        show wpAnyH _ _ _ _ _ _ _ (Act.put _ (some 78) _) _
        refine wpAnyH_take (i := 3) (v := ?_) rfl (by kernel_rfl) (by kernel_rfl) (by kernel_rfl) (fun _ _ _ h => h) (Or.inl ⟨by kernel_rfl, ?tq4⟩) HR1.out ?_
        case tq4 => (intro wq hq; have f0 := HFC.out wq hq; go_simp; first | done | with_reducible rfl)
        show wpAnyH _ _ _ _ _ _ _ (Act.put _ (some 79) _) _
        refine wpAnyH_take (i := 4) (v := ?_) rfl (by kernel_rfl) (by kernel_rfl) (by kernel_rfl) (fun _ _ _ h => h) (Or.inl ⟨by kernel_rfl, ?tq5⟩) HR1.out ?_
        case tq5 => (intro wq hq; have f0 := HFC.out wq hq; go_simp; first | done | with_reducible rfl)
        show wpAnyH _ _ _ _ _ _ _ (Act.put _ (some 80) _) _
        refine wpAnyH_take (i := 5) (v := ?_) rfl (by kernel_rfl) (by kernel_rfl) (by kernel_rfl) (fun _ _ _ h => h) (Or.inl ⟨by kernel_rfl, ?tq6⟩) HR1.out ?_
        case tq6 => (intro wq hq; have f0 := HFC.out wq hq; go_simp; first | done | with_reducible rfl)
        show wpAnyH _ _ _ _ _ _ _ (Act.put _ (some 81) _) _
        refine wpAnyH_take (i := 6) (v := ?_) rfl (by kernel_rfl) (by kernel_rfl) (by kernel_rfl) (fun _ _ _ h => h) (Or.inl ⟨by kernel_rfl, ?tq7⟩) HR1.out ?_
        case tq7 => (intro wq hq; have f0 := HFC.out wq hq; go_simp; first | done | with_reducible rfl)
        show wpAnyH _ _ _ _ _ _ _ (Act.put _ (some 82) _) _
        refine wpAnyH_take (i := 7) (v := ?_) rfl (by kernel_rfl) (by kernel_rfl) (by kernel_rfl) (fun _ _ _ h => h) (Or.inl ⟨by kernel_rfl, ?tq8⟩) HR1.out ?_
        case tq8 => (intro wq hq; have f0 := HFC.out wq hq; go_simp; first | done | with_reducible rfl)
        show wpAnyH _ _ _ _ _ _ _ (Act.put _ (some 83) _) _
        refine wpAnyH_take (i := 8) (v := ?_) rfl (by kernel_rfl) (by kernel_rfl) (by kernel_rfl) (fun _ _ _ h => h) (Or.inl ⟨by kernel_rfl, ?tq9⟩) HR1.out ?_
        case tq9 => (intro wq hq; have f0 := HFC.out wq hq; go_simp; first | done | with_reducible rfl)
        show wpAnyH _ _ _ _ _ _ _ (Act.put _ (some 84) _) _
        refine wpAnyH_take (i := 9) (v := ?_) rfl (by kernel_rfl) (by kernel_rfl) (by kernel_rfl) (fun _ _ _ h => h) (Or.inl ⟨by kernel_rfl, ?tq10⟩) HR1.out ?_
        case tq10 => (intro wq hq; have f0 := HFC.out wq hq; go_simp; first | done | with_reducible rfl)
        show wpAnyH _ _ _ _ _ _ _ (Act.put _ (some 85) _) _
        refine wpAnyH_take (i := 10) (v := ?_) rfl (by kernel_rfl) (by kernel_rfl) (by kernel_rfl) (fun _ _ _ h => h) (Or.inl ⟨by kernel_rfl, ?tq11⟩) HR1.out ?_
        case tq11 => (intro wq hq; have f0 := HFC.out wq hq; go_simp; first | done | with_reducible rfl)
        show wpAnyH _ _ _ _ _ _ _ (Act.put _ (some 86) _) _
        refine wpAnyH_take (i := 11) (v := ?_) rfl (by kernel_rfl) (by kernel_rfl) (by kernel_rfl) (fun _ _ _ h => h) (Or.inl ⟨by kernel_rfl, ?tq12⟩) HR1.out ?_
        case tq12 => (intro wq hq; have f0 := HFC.out wq hq; go_simp; first | done | with_reducible rfl)
        show wpAnyH _ _ _ _ _ _ _ (Act.put _ (some 87) _) _
        refine wpAnyH_take (i := 12) (v := ?_) rfl (by kernel_rfl) (by kernel_rfl) (by kernel_rfl) (fun _ _ _ h => h) (Or.inl ⟨by kernel_rfl, ?tq13⟩) HR1.out ?_
        case tq13 => (intro wq hq; have f0 := HFC.out wq hq; go_simp; first | done | with_reducible rfl)
        show wpAnyH _ _ _ _ _ _ _ (Act.put _ (some 88) _) _
        refine wpAnyH_take (i := 13) (v := ?_) rfl (by kernel_rfl) (by kernel_rfl) (by kernel_rfl) (fun _ _ _ h => h) (Or.inl ⟨by kernel_rfl, ?tq14⟩) HR1.out ?_
        case tq14 => (intro wq hq; have f0 := HFC.out wq hq; go_simp; first | done | with_reducible rfl)
        show wpAnyH _ _ _ _ _ _ _ (Act.put _ (some 89) _) _
        refine wpAnyH_take (i := 14) (v := ?_) rfl (by kernel_rfl) (by kernel_rfl) (by kernel_rfl) (fun _ _ _ h => h) (Or.inl ⟨by kernel_rfl, ?tq15⟩) HR1.out ?_
        case tq15 => (intro wq hq; have f0 := HFC.out wq hq; go_simp; first | done | with_reducible rfl)
        show wpAnyH _ _ _ _ _ _ _ (Act.put _ (some 90) _) _
        refine wpAnyH_take (i := 15) (v := ?_) rfl (by kernel_rfl) (by kernel_rfl) (by kernel_rfl) (fun _ _ _ h => h) (Or.inl ⟨by kernel_rfl, ?tq16⟩) HR1.out ?_
        case tq16 => (intro wq hq; have f0 := HFC.out wq hq; go_simp; first | done | with_reducible rfl)
        show wpAnyH _ _ _ _ _ _ _ (Act.put _ (some 91) _) _
        refine wpAnyH_take (i := 16) (v := ?_) rfl (by kernel_rfl) (by kernel_rfl) (by kernel_rfl) (fun _ _ _ h => h) (Or.inl ⟨by kernel_rfl, ?tq17⟩) HR1.out ?_
        case tq17 => (intro wq hq; have f0 := HFC.out wq hq; go_simp; first | done | with_reducible rfl)
        show wpAnyH _ _ _ _ _ _ _ (Act.put _ (some 92) _) _
        refine wpAnyH_take (i := 17) (v := ?_) rfl (by kernel_rfl) (by kernel_rfl) (by kernel_rfl) (fun _ _ _ h => h) (Or.inl ⟨by kernel_rfl, ?tq18⟩) HR1.out ?_
        case tq18 => (intro wq hq; have f0 := HFC.out wq hq; go_simp; first | done | with_reducible rfl)
        show wpAnyH _ _ _ _ _ _ _ (Act.put _ (some 93) _) _
        refine wpAnyH_take (i := 18) (v := ?_) rfl (by kernel_rfl) (by kernel_rfl) (by kernel_rfl) (fun _ _ _ h => h) (Or.inl ⟨by kernel_rfl, ?tq19⟩) HR1.out ?_
        case tq19 => (intro wq hq; have f0 := HFC.out wq hq; go_simp; first | done | with_reducible rfl)
        show wpAnyH _ _ _ _ _ _ _ (Act.put _ (some 94) _) _
        refine wpAnyH_take (i := 19) (v := ?_) rfl (by kernel_rfl) (by kernel_rfl) (by kernel_rfl) (fun _ _ _ h => h) (Or.inl ⟨by kernel_rfl, ?tq20⟩) HR1.out ?_
        case tq20 => (intro wq hq; have f0 := HFC.out wq hq; go_simp; first | done | with_reducible rfl)
        show wpAnyH _ _ _ _ _ _ _ (Act.put _ (some 95) _) _
        refine wpAnyH_take (i := 20) (v := ?_) rfl (by kernel_rfl) (by kernel_rfl) (by kernel_rfl) (fun _ _ _ h => h) (Or.inl ⟨by kernel_rfl, ?tq21⟩) HR1.out ?_
        case tq21 => (intro wq hq; have f0 := HFC.out wq hq; go_simp; first | done | with_reducible rfl)
        show wpAnyH _ _ _ _ _ _ _ (Act.put _ (some 96) _) _
        refine wpAnyH_take (i := 21) (v := ?_) rfl (by kernel_rfl) (by kernel_rfl) (by kernel_rfl) (fun _ _ _ h => h) (Or.inl ⟨by kernel_rfl, ?tq22⟩) HR1.out ?_
        case tq22 => (intro wq hq; have f0 := HFC.out wq hq; go_simp; first | done | with_reducible rfl)
        show wpAnyH _ _ _ _ _ _ _ (Act.put _ (some 97) _) _
        refine wpAnyH_take (i := 22) (v := ?_) rfl (by kernel_rfl) (by kernel_rfl) (by kernel_rfl) (fun _ _ _ h => h) (Or.inl ⟨by kernel_rfl, ?tq23⟩) HR1.out ?_
        case tq23 => (intro wq hq; have f0 := HFC.out wq hq; go_simp; first | done | with_reducible rfl)
        show wpAnyH _ _ _ _ _ _ _ (Act.put _ (some 98) _) _
        refine wpAnyH_take (i := 23) (v := ?_) rfl (by kernel_rfl) (by kernel_rfl) (by kernel_rfl) (fun _ _ _ h => h) (Or.inl ⟨by kernel_rfl, ?tq24⟩) HR1.out ?_
        case tq24 => (intro wq hq; have f0 := HFC.out wq hq; go_simp; first | done | with_reducible rfl)
        show wpAnyH _ _ _ _ _ _ _ (Act.put _ (some 99) _) _
        refine wpAnyH_take (i := 24) (v := ?_) rfl (by kernel_rfl) (by kernel_rfl) (by kernel_rfl) (fun _ _ _ h => h) (Or.inl ⟨by kernel_rfl, ?tq25⟩) HR1.out ?_
        case tq25 => (intro wq hq; have f0 := HFC.out wq hq; go_simp; first | done | with_reducible rfl)
        show wpAnyH _ _ _ _ _ _ _ (Act.put _ (some 100) _) _
        refine wpAnyH_take (i := 25) (v := ?_) rfl (by kernel_rfl) (by kernel_rfl) (by kernel_rfl) (fun _ _ _ h => h) (Or.inl ⟨by kernel_rfl, ?tq26⟩) HR1.out ?_
        case tq26 => (intro wq hq; have f0 := HFC.out wq hq; go_simp; first | done | with_reducible rfl)
        show wpAnyH _ _ _ _ _ _ _ (Act.put _ (some 101) _) _
        refine wpAnyH_take (i := 26) (v := ?_) rfl (by kernel_rfl) (by kernel_rfl) (by kernel_rfl) (fun _ _ _ h => h) (Or.inl ⟨by kernel_rfl, ?tq27⟩) HR1.out ?_
        case tq27 => (intro wq hq; have f0 := HFC.out wq hq; go_simp; first | done | with_reducible rfl)
        show wpAnyH _ _ _ _ _ _ _ (Act.put _ (some 102) _) _
        refine wpAnyH_take (i := 27) (v := ?_) rfl (by kernel_rfl) (by kernel_rfl) (by kernel_rfl) (fun _ _ _ h => h) (Or.inl ⟨by kernel_rfl, ?tq28⟩) HR1.out ?_
        case tq28 => (intro wq hq; have f0 := HFC.out wq hq; go_simp; first | done | with_reducible rfl)
        show wpAnyH _ _ _ _ _ _ _ (Act.put _ (some 103) _) _
        refine wpAnyH_take (i := 28) (v := ?_) rfl (by kernel_rfl) (by kernel_rfl) (by kernel_rfl) (fun _ _ _ h => h) (Or.inl ⟨by kernel_rfl, ?tq29⟩) HR1.out ?_
        case tq29 => (intro wq hq; have f0 := HFC.out wq hq; go_simp; first | done | with_reducible rfl)
        show wpAnyH _ _ _ _ _ _ _ (Act.put _ (some 104) _) _
        refine wpAnyH_take (i := 29) (v := ?_) rfl (by kernel_rfl) (by kernel_rfl) (by kernel_rfl) (fun _ _ _ h => h) (Or.inl ⟨by kernel_rfl, ?tq30⟩) HR1.out ?_
        case tq30 => (intro wq hq; have f0 := HFC.out wq hq; go_simp; first | done | with_reducible rfl)
        show wpAnyH _ _ _ _ _ _ _ (Act.put _ (some 105) _) _
        refine wpAnyH_take (i := 30) (v := ?_) rfl (by kernel_rfl) (by kernel_rfl) (by kernel_rfl) (fun _ _ _ h => h) (Or.inl ⟨by kernel_rfl, ?tq31⟩) HR1.out ?_
        case tq31 => (intro wq hq; have f0 := HFC.out wq hq; go_simp; first | done | with_reducible rfl)
        show wpAnyH _ _ _ _ _ _ _ (Act.put _ (some 106) _) _
        refine wpAnyH_take (i := 31) (v := ?_) rfl (by kernel_rfl) (by kernel_rfl) (by kernel_rfl) (fun _ _ _ h => h) (Or.inl ⟨by kernel_rfl, ?tq32⟩) HR1.out ?_
        case tq32 => (intro wq hq; have f0 := HFC.out wq hq; go_simp; first | done | with_reducible rfl)
        show wpAnyH _ _ _ _ _ _ _ (Act.put _ (some 107) _) _
        refine wpAnyH_take (i := 32) (v := ?_) rfl (by kernel_rfl) (by kernel_rfl) (by kernel_rfl) (fun _ _ _ h => h) (Or.inl ⟨by kernel_rfl, ?tq33⟩) HR1.out ?_
        case tq33 => (intro wq hq; have f0 := HFC.out wq hq; go_simp; first | done | with_reducible rfl)
        show wpAnyH _ _ _ _ _ _ _ (Act.put _ (some 108) _) _
        refine wpAnyH_take (i := 33) (v := undef) rfl (by kernel_rfl) (by kernel_rfl) (by kernel_rfl) (fun _ _ _ h => h) (Or.inr ⟨by kernel_rfl, by kernel_rfl⟩) HR1.out ?_
        show wpAnyH _ _ _ _ _ _ _ (Act.put _ (some 109) _) _
        refine wpAnyH_take (i := 34) (v := undef) rfl (by kernel_rfl) (by kernel_rfl) (by kernel_rfl) (fun _ _ _ h => h) (Or.inr ⟨by kernel_rfl, by kernel_rfl⟩) HR1.out ?_
        show wpAnyH _ _ _ _ _ _ _ (Act.put _ (some 110) _) _
        refine wpAnyH_take (i := 35) (v := undef) rfl (by kernel_rfl) (by kernel_rfl) (by kernel_rfl) (fun _ _ _ h => h) (Or.inr ⟨by kernel_rfl, by kernel_rfl⟩) HR1.out ?_
        show wpAnyH _ _ _ _ _ _ _ (Act.put _ (some 111) _) _
        refine wpAnyH_take (i := 36) (v := undef) rfl (by kernel_rfl) (by kernel_rfl) (by kernel_rfl) (fun _ _ _ h => h) (Or.inr ⟨by kernel_rfl, by kernel_rfl⟩) HR1.out ?_
        show wpAnyH _ _ _ _ _ _ _ (Act.put _ (some 112) _) _
        refine wpAnyH_take (i := 37) (v := undef) rfl (by kernel_rfl) (by kernel_rfl) (by kernel_rfl) (fun _ _ _ h => h) (Or.inr ⟨by kernel_rfl, by kernel_rfl⟩) HR1.out ?_
        show wpAnyH _ _ _ _ _ _ _ (Act.put _ (some 113) _) _
        refine wpAnyH_take (i := 38) (v := undef) rfl (by kernel_rfl) (by kernel_rfl) (by kernel_rfl) (fun _ _ _ h => h) (Or.inr ⟨by kernel_rfl, by kernel_rfl⟩) HR1.out ?_
        show wpAnyH _ _ _ _ _ _ _ (Act.put _ (some 114) _) _
        refine wpAnyH_take (i := 39) (v := undef) rfl (by kernel_rfl) (by kernel_rfl) (by kernel_rfl) (fun _ _ _ h => h) (Or.inr ⟨by kernel_rfl, by kernel_rfl⟩) HR1.out ?_
        show wpAnyH _ _ _ _ _ _ _ (Act.put _ (some 115) _) _
        refine wpAnyH_take (i := 40) (v := undef) rfl (by kernel_rfl) (by kernel_rfl) (by kernel_rfl) (fun _ _ _ h => h) (Or.inr ⟨by kernel_rfl, by kernel_rfl⟩) HR1.out ?_
        show wpAnyH _ _ _ _ _ _ _ (Act.put _ (some 116) _) _
        refine wpAnyH_take (i := 41) (v := undef) rfl (by kernel_rfl) (by kernel_rfl) (by kernel_rfl) (fun _ _ _ h => h) (Or.inr ⟨by kernel_rfl, by kernel_rfl⟩) HR1.out ?_
        show wpAnyH _ _ _ _ _ _ _ (Act.put _ (some 117) _) _
        refine wpAnyH_take (i := 42) (v := undef) rfl (by kernel_rfl) (by kernel_rfl) (by kernel_rfl) (fun _ _ _ h => h) (Or.inr ⟨by kernel_rfl, by kernel_rfl⟩) HR1.out ?_
        show wpAnyH _ _ _ _ _ _ _ (Act.put _ (some 118) _) _
        refine wpAnyH_take (i := 43) (v := ?_) rfl (by kernel_rfl) (by kernel_rfl) (by kernel_rfl) (fun _ _ _ h => h) (Or.inl ⟨by kernel_rfl, ?tq34⟩) HR1.out ?_
        case tq34 => (intro wq hq; have f0 := HFC.out wq hq; go_simp; first | done | with_reducible rfl)
        show wpAnyH _ _ _ _ _ _ _ (Act.put _ (some 119) _) _
        refine wpAnyH_take (i := 44) (v := ?_) rfl (by kernel_rfl) (by kernel_rfl) (by kernel_rfl) (fun _ _ _ h => h) (Or.inl ⟨by kernel_rfl, ?tq35⟩) HR1.out ?_
        case tq35 => (intro wq hq; have f0 := HFC.out wq hq; go_simp; first | done | with_reducible rfl)
        show wpAnyH _ _ _ _ _ _ _ (Act.put _ (some 120) _) _
        refine wpAnyH_done (by kernel_rfl) ?_ _
        refine NoPanic.normal ?_
        show Exit.then _ _ _ (Act.put _ (some 120) _) _
        simp only [Act.put, List.setIfInBounds_toArray, List.set_cons_zero, List.set_cons_succ]
        go_wp2_with fail
        go_roundw
        case rel => exact ⟨_, _, _, hlt, by go_num, by split <;> omega, HM10.out.below HR1.out, HFX.out, HFT2.out, HF10.out.trans (Fr.of_below HR1.out (fun _ => False)) (fun _ _ h => h.elim)⟩
        case measure => simp [intOf]; omega
      · obtain ⟨k, hk⟩ : ∃ k, i = k + 1 := ⟨i - 1, by omega⟩
        obtain ⟨y, hye⟩ : ∃ y, y = M[k] := ⟨_, rfl⟩
        have hyc := HCELL.out w10 HF10.out k (by omega)
        have hyx : y < x := by rw [hye, HXE.out]; exact hrise k i (by omega) hlt (by omega)
        rw [← hye] at hyc
        have ik : IntKind.i64.wrap ((i : Int) - 1) = (k : Int) := by rw [show ((i : Int) - 1) = (k : Int) by omega]; exact IntWalk.i64_in _ (by omega)
        have hkl : (k : Int) < M.length := by omega
        have hk0 : (0 : Int) ≤ (k : Int) := by omega
        have hip : 0 < i := by omega
        have hyx2 : ¬ x ≤ y := by omega
        have HIK := Lib.hid hk
        clear hye hrise hyx hk hz
        have HFC := Lib.hid (show ∀ wx, Below w10.heap.size w10 wx → wx.cell? ⟨gb, go + i, none⟩ = some (.int .i64 x) ∧ wx.cell? ⟨gb, go + k, none⟩ = some (.int .i64 y) from fun wx hx => ⟨below_cell hx hxc, below_cell hx hyc⟩)
        clear hxc hyc
        go_upto_region 14 with fail
        by_cases hxa : x = a
        · have n1 : (x != a) = false := by simp [hxa]
          clear hxa
          clear hmem hx0
          refine wp_region_noPanic ?_
          refine wp_region_held_drew (S := fun w' => Below w10.heap.size w10 w') (by kernel_rfl) (Below.refl _ _).drew (fun _ => ?_)
          have HR1 := Lib.hid (Below.refl w10.heap.size w10).drew
          generalize w10.drew = r1 at *
          refine wpAnyH_take (i := 0) (v := ?_) rfl (by kernel_rfl) (by kernel_rfl) (by kernel_rfl) (fun _ _ _ h => h) (Or.inl ⟨by kernel_rfl, ?tq1⟩) HR1.out ?_
          case tq1 => (intro wq hq; obtain ⟨f0, f1⟩ := HFC.out wq hq; go_simp; first | done | with_reducible rfl)
          show wpAnyH _ _ _ _ _ _ _ (Act.put _ (some 76) _) _
          refine wpAnyH_take (i := 1) (v := ?_) rfl (by kernel_rfl) (by kernel_rfl) (by kernel_rfl) (fun _ _ _ h => h) (Or.inl ⟨by kernel_rfl, ?tq2⟩) HR1.out ?_
          case tq2 => (intro wq hq; obtain ⟨f0, f1⟩ := HFC.out wq hq; go_simp; first | done | with_reducible rfl)
          show wpAnyH _ _ _ _ _ _ _ (Act.put _ (some 77) _) _
          refine wpAnyH_take (i := 2) (v := ?_) rfl (by kernel_rfl) (by kernel_rfl) (by kernel_rfl) (fun _ _ _ h => h) (Or.inl ⟨by kernel_rfl, ?tq3⟩) HR1.out ?_
          case tq3 => (intro wq hq; obtain ⟨f0, f1⟩ := HFC.out wq hq; go_simp; first | done | with_reducible rfl)
          show wpAnyH _ _ _ _ _ _ _ (Act.put _ (some 78) _) _
          refine wpAnyH_take (i := 3) (v := ?_) rfl (by kernel_rfl) (by kernel_rfl) (by kernel_rfl) (fun _ _ _ h => h) (Or.inl ⟨by kernel_rfl, ?tq4⟩) HR1.out ?_
          case tq4 => (intro wq hq; obtain ⟨f0, f1⟩ := HFC.out wq hq; go_simp; first | done | with_reducible rfl)
          show wpAnyH _ _ _ _ _ _ _ (Act.put _ (some 79) _) _
          refine wpAnyH_take (i := 4) (v := ?_) rfl (by kernel_rfl) (by kernel_rfl) (by kernel_rfl) (fun _ _ _ h => h) (Or.inl ⟨by kernel_rfl, ?tq5⟩) HR1.out ?_
          case tq5 => (intro wq hq; obtain ⟨f0, f1⟩ := HFC.out wq hq; go_simp; first | done | with_reducible rfl)
          show wpAnyH _ _ _ _ _ _ _ (Act.put _ (some 80) _) _
          refine wpAnyH_take (i := 5) (v := ?_) rfl (by kernel_rfl) (by kernel_rfl) (by kernel_rfl) (fun _ _ _ h => h) (Or.inl ⟨by kernel_rfl, ?tq6⟩) HR1.out ?_
          case tq6 => (intro wq hq; obtain ⟨f0, f1⟩ := HFC.out wq hq; go_simp; first | done | with_reducible rfl)
          show wpAnyH _ _ _ _ _ _ _ (Act.put _ (some 81) _) _
          refine wpAnyH_take (i := 6) (v := ?_) rfl (by kernel_rfl) (by kernel_rfl) (by kernel_rfl) (fun _ _ _ h => h) (Or.inl ⟨by kernel_rfl, ?tq7⟩) HR1.out ?_
          case tq7 => (intro wq hq; obtain ⟨f0, f1⟩ := HFC.out wq hq; go_simp; first | done | with_reducible rfl)
          show wpAnyH _ _ _ _ _ _ _ (Act.put _ (some 82) _) _
          refine wpAnyH_take (i := 7) (v := ?_) rfl (by kernel_rfl) (by kernel_rfl) (by kernel_rfl) (fun _ _ _ h => h) (Or.inl ⟨by kernel_rfl, ?tq8⟩) HR1.out ?_
          case tq8 => (intro wq hq; obtain ⟨f0, f1⟩ := HFC.out wq hq; go_simp; first | done | with_reducible rfl)
          show wpAnyH _ _ _ _ _ _ _ (Act.put _ (some 83) _) _
          refine wpAnyH_take (i := 8) (v := ?_) rfl (by kernel_rfl) (by kernel_rfl) (by kernel_rfl) (fun _ _ _ h => h) (Or.inl ⟨by kernel_rfl, ?tq9⟩) HR1.out ?_
          case tq9 => (intro wq hq; obtain ⟨f0, f1⟩ := HFC.out wq hq; go_simp; first | done | with_reducible rfl)
          show wpAnyH _ _ _ _ _ _ _ (Act.put _ (some 84) _) _
          refine wpAnyH_take (i := 9) (v := ?_) rfl (by kernel_rfl) (by kernel_rfl) (by kernel_rfl) (fun _ _ _ h => h) (Or.inl ⟨by kernel_rfl, ?tq10⟩) HR1.out ?_
          case tq10 => (intro wq hq; obtain ⟨f0, f1⟩ := HFC.out wq hq; go_simp; first | done | with_reducible rfl)
          show wpAnyH _ _ _ _ _ _ _ (Act.put _ (some 85) _) _
          refine wpAnyH_take (i := 10) (v := ?_) rfl (by kernel_rfl) (by kernel_rfl) (by kernel_rfl) (fun _ _ _ h => h) (Or.inl ⟨by kernel_rfl, ?tq11⟩) HR1.out ?_
          case tq11 => (intro wq hq; obtain ⟨f0, f1⟩ := HFC.out wq hq; go_simp; first | done | with_reducible rfl)
          show wpAnyH _ _ _ _ _ _ _ (Act.put _ (some 86) _) _
          refine wpAnyH_take (i := 11) (v := ?_) rfl (by kernel_rfl) (by kernel_rfl) (by kernel_rfl) (fun _ _ _ h => h) (Or.inl ⟨by kernel_rfl, ?tq12⟩) HR1.out ?_
          case tq12 => (intro wq hq; obtain ⟨f0, f1⟩ := HFC.out wq hq; go_simp; first | done | with_reducible rfl)
          show wpAnyH _ _ _ _ _ _ _ (Act.put _ (some 87) _) _
          refine wpAnyH_take (i := 12) (v := ?_) rfl (by kernel_rfl) (by kernel_rfl) (by kernel_rfl) (fun _ _ _ h => h) (Or.inl ⟨by kernel_rfl, ?tq13⟩) HR1.out ?_
          case tq13 => (intro wq hq; obtain ⟨f0, f1⟩ := HFC.out wq hq; go_simp; first | done | with_reducible rfl)
          show wpAnyH _ _ _ _ _ _ _ (Act.put _ (some 88) _) _
          refine wpAnyH_take (i := 13) (v := undef) rfl (by kernel_rfl) (by kernel_rfl) (by kernel_rfl) (fun _ _ _ h => h) (Or.inr ⟨by kernel_rfl, by kernel_rfl⟩) HR1.out ?_
          show wpAnyH _ _ _ _ _ _ _ (Act.put _ (some 89) _) _
          refine wpAnyH_take (i := 14) (v := undef) rfl (by kernel_rfl) (by kernel_rfl) (by kernel_rfl) (fun _ _ _ h => h) (Or.inr ⟨by kernel_rfl, by kernel_rfl⟩) HR1.out ?_
          show wpAnyH _ _ _ _ _ _ _ (Act.put _ (some 90) _) _
          refine wpAnyH_take (i := 15) (v := undef) rfl (by kernel_rfl) (by kernel_rfl) (by kernel_rfl) (fun _ _ _ h => h) (Or.inr ⟨by kernel_rfl, by kernel_rfl⟩) HR1.out ?_
          show wpAnyH _ _ _ _ _ _ _ (Act.put _ (some 91) _) _
          refine wpAnyH_take (i := 16) (v := undef) rfl (by kernel_rfl) (by kernel_rfl) (by kernel_rfl) (fun _ _ _ h => h) (Or.inr ⟨by kernel_rfl, by kernel_rfl⟩) HR1.out ?_
          show wpAnyH _ _ _ _ _ _ _ (Act.put _ (some 92) _) _
          refine wpAnyH_take (i := 17) (v := undef) rfl (by kernel_rfl) (by kernel_rfl) (by kernel_rfl) (fun _ _ _ h => h) (Or.inr ⟨by kernel_rfl, by kernel_rfl⟩) HR1.out ?_
          show wpAnyH _ _ _ _ _ _ _ (Act.put _ (some 93) _) _
          refine wpAnyH_take (i := 18) (v := undef) rfl (by kernel_rfl) (by kernel_rfl) (by kernel_rfl) (fun _ _ _ h => h) (Or.inr ⟨by kernel_rfl, by kernel_rfl⟩) HR1.out ?_
          show wpAnyH _ _ _ _ _ _ _ (Act.put _ (some 94) _) _
          refine wpAnyH_take (i := 19) (v := ?_) rfl (by kernel_rfl) (by kernel_rfl) (by kernel_rfl) (fun _ _ _ h => h) (Or.inl ⟨by kernel_rfl, ?tq14⟩) HR1.out ?_
          case tq14 => (intro wq hq; obtain ⟨f0, f1⟩ := HFC.out wq hq; go_simp; first | done | with_reducible rfl)
          show wpAnyH _ _ _ _ _ _ _ (Act.put _ (some 95) _) _
          refine wpAnyH_take (i := 20) (v := ?_) rfl (by kernel_rfl) (by kernel_rfl) (by kernel_rfl) (fun _ _ _ h => h) (Or.inl ⟨by kernel_rfl, ?tq15⟩) HR1.out ?_
          case tq15 => (intro wq hq; obtain ⟨f0, f1⟩ := HFC.out wq hq; go_simp; first | done | with_reducible rfl)
          show wpAnyH _ _ _ _ _ _ _ (Act.put _ (some 96) _) _
          refine wpAnyH_take (i := 21) (v := undef) rfl (by kernel_rfl) (by kernel_rfl) (by kernel_rfl) (fun _ _ _ h => h) (Or.inr ⟨by kernel_rfl, by kernel_rfl⟩) HR1.out ?_
          show wpAnyH _ _ _ _ _ _ _ (Act.put _ (some 97) _) _
          refine wpAnyH_take (i := 22) (v := undef) rfl (by kernel_rfl) (by kernel_rfl) (by kernel_rfl) (fun _ _ _ h => h) (Or.inr ⟨by kernel_rfl, by kernel_rfl⟩) HR1.out ?_
          show wpAnyH _ _ _ _ _ _ _ (Act.put _ (some 98) _) _
          refine wpAnyH_take (i := 23) (v := undef) rfl (by kernel_rfl) (by kernel_rfl) (by kernel_rfl) (fun _ _ _ h => h) (Or.inr ⟨by kernel_rfl, by kernel_rfl⟩) HR1.out ?_
          show wpAnyH _ _ _ _ _ _ _ (Act.put _ (some 99) _) _
          refine wpAnyH_take (i := 24) (v := undef) rfl (by kernel_rfl) (by kernel_rfl) (by kernel_rfl) (fun _ _ _ h => h) (Or.inr ⟨by kernel_rfl, by kernel_rfl⟩) HR1.out ?_
          show wpAnyH _ _ _ _ _ _ _ (Act.put _ (some 100) _) _
          refine wpAnyH_take (i := 25) (v := undef) rfl (by kernel_rfl) (by kernel_rfl) (by kernel_rfl) (fun _ _ _ h => h) (Or.inr ⟨by kernel_rfl, by kernel_rfl⟩) HR1.out ?_
          show wpAnyH _ _ _ _ _ _ _ (Act.put _ (some 101) _) _
          refine wpAnyH_take (i := 26) (v := undef) rfl (by kernel_rfl) (by kernel_rfl) (by kernel_rfl) (fun _ _ _ h => h) (Or.inr ⟨by kernel_rfl, by kernel_rfl⟩) HR1.out ?_
          show wpAnyH _ _ _ _ _ _ _ (Act.put _ (some 102) _) _
          refine wpAnyH_take (i := 27) (v := ?_) rfl (by kernel_rfl) (by kernel_rfl) (by kernel_rfl) (fun _ _ _ h => h) (Or.inl ⟨by kernel_rfl, ?tq16⟩) HR1.out ?_
          case tq16 => (intro wq hq; obtain ⟨f0, f1⟩ := HFC.out wq hq; go_simp; first | done | with_reducible rfl)
          show wpAnyH _ _ _ _ _ _ _ (Act.put _ (some 103) _) _
          refine wpAnyH_take (i := 28) (v := ?_) rfl (by kernel_rfl) (by kernel_rfl) (by kernel_rfl) (fun _ _ _ h => h) (Or.inl ⟨by kernel_rfl, ?tq17⟩) HR1.out ?_
          case tq17 => (intro wq hq; obtain ⟨f0, f1⟩ := HFC.out wq hq; go_simp; first | done | with_reducible rfl)
          show wpAnyH _ _ _ _ _ _ _ (Act.put _ (some 104) _) _
          refine wpAnyH_take (i := 29) (v := ?_) rfl (by kernel_rfl) (by kernel_rfl) (by kernel_rfl) (fun _ _ _ h => h) (Or.inl ⟨by kernel_rfl, ?tq18⟩) HR1.out ?_
          case tq18 => (intro wq hq; obtain ⟨f0, f1⟩ := HFC.out wq hq; go_simp; first | done | with_reducible rfl)
          show wpAnyH _ _ _ _ _ _ _ (Act.put _ (some 105) _) _
          refine wpAnyH_take (i := 30) (v := ?_) rfl (by kernel_rfl) (by kernel_rfl) (by kernel_rfl) (fun _ _ _ h => h) (Or.inl ⟨by kernel_rfl, ?tq19⟩) HR1.out ?_
          case tq19 => (intro wq hq; obtain ⟨f0, f1⟩ := HFC.out wq hq; go_simp; first | done | with_reducible rfl)
          show wpAnyH _ _ _ _ _ _ _ (Act.put _ (some 106) _) _
          refine wpAnyH_take (i := 31) (v := ?_) rfl (by kernel_rfl) (by kernel_rfl) (by kernel_rfl) (fun _ _ _ h => h) (Or.inl ⟨by kernel_rfl, ?tq20⟩) HR1.out ?_
          case tq20 => (intro wq hq; obtain ⟨f0, f1⟩ := HFC.out wq hq; go_simp; first | done | with_reducible rfl)
          show wpAnyH _ _ _ _ _ _ _ (Act.put _ (some 107) _) _
          refine wpAnyH_take (i := 32) (v := ?_) rfl (by kernel_rfl) (by kernel_rfl) (by kernel_rfl) (fun _ _ _ h => h) (Or.inl ⟨by kernel_rfl, ?tq21⟩) HR1.out ?_
          case tq21 => (intro wq hq; obtain ⟨f0, f1⟩ := HFC.out wq hq; go_simp; first | done | with_reducible rfl)
          show wpAnyH _ _ _ _ _ _ _ (Act.put _ (some 108) _) _
          refine wpAnyH_take (i := 33) (v := ?_) rfl (by kernel_rfl) (by kernel_rfl) (by kernel_rfl) (fun _ _ _ h => h) (Or.inl ⟨by kernel_rfl, ?tq22⟩) HR1.out ?_
          case tq22 => (intro wq hq; obtain ⟨f0, f1⟩ := HFC.out wq hq; go_simp; first | done | with_reducible rfl)
          show wpAnyH _ _ _ _ _ _ _ (Act.put _ (some 109) _) _
          refine wpAnyH_take (i := 34) (v := ?_) rfl (by kernel_rfl) (by kernel_rfl) (by kernel_rfl) (fun _ _ _ h => h) (Or.inl ⟨by kernel_rfl, ?tq23⟩) HR1.out ?_
          case tq23 => (intro wq hq; obtain ⟨f0, f1⟩ := HFC.out wq hq; go_simp; first | done | with_reducible rfl)
          show wpAnyH _ _ _ _ _ _ _ (Act.put _ (some 110) _) _
          refine wpAnyH_take (i := 35) (v := ?_) rfl (by kernel_rfl) (by kernel_rfl) (by kernel_rfl) (fun _ _ _ h => h) (Or.inl ⟨by kernel_rfl, ?tq24⟩) HR1.out ?_
          case tq24 => (intro wq hq; obtain ⟨f0, f1⟩ := HFC.out wq hq; go_simp; first | done | with_reducible rfl)
          show wpAnyH _ _ _ _ _ _ _ (Act.put _ (some 111) _) _
          refine wpAnyH_take (i := 36) (v := ?_) rfl (by kernel_rfl) (by kernel_rfl) (by kernel_rfl) (fun _ _ _ h => h) (Or.inl ⟨by kernel_rfl, ?tq25⟩) HR1.out ?_
          case tq25 => (intro wq hq; obtain ⟨f0, f1⟩ := HFC.out wq hq; go_simp; first | done | with_reducible rfl)
          show wpAnyH _ _ _ _ _ _ _ (Act.put _ (some 112) _) _
          refine wpAnyH_take (i := 37) (v := ?_) rfl (by kernel_rfl) (by kernel_rfl) (by kernel_rfl) (fun _ _ _ h => h) (Or.inl ⟨by kernel_rfl, ?tq26⟩) HR1.out ?_
          case tq26 => (intro wq hq; obtain ⟨f0, f1⟩ := HFC.out wq hq; go_simp; first | done | with_reducible rfl)
          show wpAnyH _ _ _ _ _ _ _ (Act.put _ (some 113) _) _
          refine wpAnyH_take (i := 38) (v := ?_) rfl (by kernel_rfl) (by kernel_rfl) (by kernel_rfl) (fun _ _ _ h => h) (Or.inl ⟨by kernel_rfl, ?tq27⟩) HR1.out ?_
          case tq27 => (intro wq hq; obtain ⟨f0, f1⟩ := HFC.out wq hq; go_simp; first | done | with_reducible rfl)
          show wpAnyH _ _ _ _ _ _ _ (Act.put _ (some 114) _) _
          refine wpAnyH_take (i := 39) (v := ?_) rfl (by kernel_rfl) (by kernel_rfl) (by kernel_rfl) (fun _ _ _ h => h) (Or.inl ⟨by kernel_rfl, ?tq28⟩) HR1.out ?_
          case tq28 => (intro wq hq; obtain ⟨f0, f1⟩ := HFC.out wq hq; go_simp; first | done | with_reducible rfl)
          show wpAnyH _ _ _ _ _ _ _ (Act.put _ (some 115) _) _
          refine wpAnyH_take (i := 40) (v := ?_) rfl (by kernel_rfl) (by kernel_rfl) (by kernel_rfl) (fun _ _ _ h => h) (Or.inl ⟨by kernel_rfl, ?tq29⟩) HR1.out ?_
          case tq29 => (intro wq hq; obtain ⟨f0, f1⟩ := HFC.out wq hq; go_simp; first | done | with_reducible rfl)
          show wpAnyH _ _ _ _ _ _ _ (Act.put _ (some 116) _) _
          refine wpAnyH_take (i := 41) (v := ?_) rfl (by kernel_rfl) (by kernel_rfl) (by kernel_rfl) (fun _ _ _ h => h) (Or.inl ⟨by kernel_rfl, ?tq30⟩) HR1.out ?_
          case tq30 => (intro wq hq; obtain ⟨f0, f1⟩ := HFC.out wq hq; go_simp; first | done | with_reducible rfl)
          show wpAnyH _ _ _ _ _ _ _ (Act.put _ (some 117) _) _
          refine wpAnyH_take (i := 42) (v := ?_) rfl (by kernel_rfl) (by kernel_rfl) (by kernel_rfl) (fun _ _ _ h => h) (Or.inl ⟨by kernel_rfl, ?tq31⟩) HR1.out ?_
          case tq31 => (intro wq hq; obtain ⟨f0, f1⟩ := HFC.out wq hq; go_simp; first | done | with_reducible rfl)
          show wpAnyH _ _ _ _ _ _ _ (Act.put _ (some 118) _) _
          refine wpAnyH_take (i := 43) (v := ?_) rfl (by kernel_rfl) (by kernel_rfl) (by kernel_rfl) (fun _ _ _ h => h) (Or.inl ⟨by kernel_rfl, ?tq32⟩) HR1.out ?_
          case tq32 => (intro wq hq; obtain ⟨f0, f1⟩ := HFC.out wq hq; go_simp; first | done | with_reducible rfl)
          show wpAnyH _ _ _ _ _ _ _ (Act.put _ (some 119) _) _
          refine wpAnyH_take (i := 44) (v := ?_) rfl (by kernel_rfl) (by kernel_rfl) (by kernel_rfl) (fun _ _ _ h => h) (Or.inl ⟨by kernel_rfl, ?tq33⟩) HR1.out ?_
          case tq33 => (intro wq hq; obtain ⟨f0, f1⟩ := HFC.out wq hq; go_simp; first | done | with_reducible rfl)
          show wpAnyH _ _ _ _ _ _ _ (Act.put _ (some 120) _) _
          refine wpAnyH_done (by kernel_rfl) ?_ _
          refine NoPanic.normal ?_
          show Exit.then _ _ _ (Act.put _ (some 120) _) _
          simp only [Act.put, List.setIfInBounds_toArray, List.set_cons_zero, List.set_cons_succ]
          go_wp2_with fail
          go_roundw
          case rel => exact ⟨_, _, _, hlt, by go_num, by split <;> omega, HM10.out.below HR1.out, HFX.out, HFT2.out, HF10.out.trans (Fr.of_below HR1.out (fun _ => False)) (fun _ _ h => h.elim)⟩
          case measure => simp [intOf]; omega
        by_cases hxbb : x = b
        · have n1 : (x != a) = true := by simp [hxa]
          have n2 : (x != b) = false := by simp [hxbb]
          clear hxa hxbb
          clear hmem hx0
          refine wp_region_noPanic ?_
          refine wp_region_held_drew (S := fun w' => Below w10.heap.size w10 w') (by kernel_rfl) (Below.refl _ _).drew (fun _ => ?_)
          have HR1 := Lib.hid (Below.refl w10.heap.size w10).drew
          generalize w10.drew = r1 at *
          refine wpAnyH_take (i := 0) (v := ?_) rfl (by kernel_rfl) (by kernel_rfl) (by kernel_rfl) (fun _ _ _ h => h) (Or.inl ⟨by kernel_rfl, ?tq1⟩) HR1.out ?_
          case tq1 => (intro wq hq; obtain ⟨f0, f1⟩ := HFC.out wq hq; go_simp; first | done | with_reducible rfl)
          show wpAnyH _ _ _ _ _ _ _ (Act.put _ (some 76) _) _
          refine wpAnyH_take (i := 1) (v := ?_) rfl (by kernel_rfl) (by kernel_rfl) (by kernel_rfl) (fun _ _ _ h => h) (Or.inl ⟨by kernel_rfl, ?tq2⟩) HR1.out ?_
          case tq2 => (intro wq hq; obtain ⟨f0, f1⟩ := HFC.out wq hq; go_simp; first | done | with_reducible rfl)
          show wpAnyH _ _ _ _ _ _ _ (Act.put _ (some 77) _) _
          refine wpAnyH_take (i := 2) (v := ?_) rfl (by kernel_rfl) (by kernel_rfl) (by kernel_rfl) (fun _ _ _ h => h) (Or.inl ⟨by kernel_rfl, ?tq3⟩) HR1.out ?_
          case tq3 => (intro wq hq; obtain ⟨f0, f1⟩ := HFC.out wq hq; go_simp; first | done | with_reducible rfl)
          show wpAnyH _ _ _ _ _ _ _ (Act.put _ (some 78) _) _
          refine wpAnyH_take (i := 3) (v := ?_) rfl (by kernel_rfl) (by kernel_rfl) (by kernel_rfl) (fun _ _ _ h => h) (Or.inl ⟨by kernel_rfl, ?tq4⟩) HR1.out ?_
          case tq4 => (intro wq hq; obtain ⟨f0, f1⟩ := HFC.out wq hq; go_simp; first | done | with_reducible rfl)
          show wpAnyH _ _ _ _ _ _ _ (Act.put _ (some 79) _) _
          refine wpAnyH_take (i := 4) (v := ?_) rfl (by kernel_rfl) (by kernel_rfl) (by kernel_rfl) (fun _ _ _ h => h) (Or.inl ⟨by kernel_rfl, ?tq5⟩) HR1.out ?_
          case tq5 => (intro wq hq; obtain ⟨f0, f1⟩ := HFC.out wq hq; go_simp; first | done | with_reducible rfl)
          show wpAnyH _ _ _ _ _ _ _ (Act.put _ (some 80) _) _
          refine wpAnyH_take (i := 5) (v := ?_) rfl (by kernel_rfl) (by kernel_rfl) (by kernel_rfl) (fun _ _ _ h => h) (Or.inl ⟨by kernel_rfl, ?tq6⟩) HR1.out ?_
          case tq6 => (intro wq hq; obtain ⟨f0, f1⟩ := HFC.out wq hq; go_simp; first | done | with_reducible rfl)
          show wpAnyH _ _ _ _ _ _ _ (Act.put _ (some 81) _) _
          refine wpAnyH_take (i := 6) (v := ?_) rfl (by kernel_rfl) (by kernel_rfl) (by kernel_rfl) (fun _ _ _ h => h) (Or.inl ⟨by kernel_rfl, ?tq7⟩) HR1.out ?_
          case tq7 => (intro wq hq; obtain ⟨f0, f1⟩ := HFC.out wq hq; go_simp; first | done | with_reducible rfl)
          show wpAnyH _ _ _ _ _ _ _ (Act.put _ (some 82) _) _
          refine wpAnyH_take (i := 7) (v := ?_) rfl (by kernel_rfl) (by kernel_rfl) (by kernel_rfl) (fun _ _ _ h => h) (Or.inl ⟨by kernel_rfl, ?tq8⟩) HR1.out ?_
          case tq8 => (intro wq hq; obtain ⟨f0, f1⟩ := HFC.out wq hq; go_simp; first | done | with_reducible rfl)
          show wpAnyH _ _ _ _ _ _ _ (Act.put _ (some 83) _) _
          refine wpAnyH_take (i := 8) (v := ?_) rfl (by kernel_rfl) (by kernel_rfl) (by kernel_rfl) (fun _ _ _ h => h) (Or.inl ⟨by kernel_rfl, ?tq9⟩) HR1.out ?_
          case tq9 => (intro wq hq; obtain ⟨f0, f1⟩ := HFC.out wq hq; go_simp; first | done | with_reducible rfl)
          show wpAnyH _ _ _ _ _ _ _ (Act.put _ (some 84) _) _
          refine wpAnyH_take (i := 9) (v := ?_) rfl (by kernel_rfl) (by kernel_rfl) (by kernel_rfl) (fun _ _ _ h => h) (Or.inl ⟨by kernel_rfl, ?tq10⟩) HR1.out ?_
          case tq10 => (intro wq hq; obtain ⟨f0, f1⟩ := HFC.out wq hq; go_simp; first | done | with_reducible rfl)
          show wpAnyH _ _ _ _ _ _ _ (Act.put _ (some 85) _) _
          refine wpAnyH_take (i := 10) (v := ?_) rfl (by kernel_rfl) (by kernel_rfl) (by kernel_rfl) (fun _ _ _ h => h) (Or.inl ⟨by kernel_rfl, ?tq11⟩) HR1.out ?_
          case tq11 => (intro wq hq; obtain ⟨f0, f1⟩ := HFC.out wq hq; go_simp; first | done | with_reducible rfl)
          show wpAnyH _ _ _ _ _ _ _ (Act.put _ (some 86) _) _
          refine wpAnyH_take (i := 11) (v := ?_) rfl (by kernel_rfl) (by kernel_rfl) (by kernel_rfl) (fun _ _ _ h => h) (Or.inl ⟨by kernel_rfl, ?tq12⟩) HR1.out ?_
          case tq12 => (intro wq hq; obtain ⟨f0, f1⟩ := HFC.out wq hq; go_simp; first | done | with_reducible rfl)
          show wpAnyH _ _ _ _ _ _ _ (Act.put _ (some 87) _) _
          refine wpAnyH_take (i := 12) (v := ?_) rfl (by kernel_rfl) (by kernel_rfl) (by kernel_rfl) (fun _ _ _ h => h) (Or.inl ⟨by kernel_rfl, ?tq13⟩) HR1.out ?_
          case tq13 => (intro wq hq; obtain ⟨f0, f1⟩ := HFC.out wq hq; go_simp; first | done | with_reducible rfl)
          show wpAnyH _ _ _ _ _ _ _ (Act.put _ (some 88) _) _
          refine wpAnyH_take (i := 13) (v := ?_) rfl (by kernel_rfl) (by kernel_rfl) (by kernel_rfl) (fun _ _ _ h => h) (Or.inl ⟨by kernel_rfl, ?tq14⟩) HR1.out ?_
          case tq14 => (intro wq hq; obtain ⟨f0, f1⟩ := HFC.out wq hq; go_simp; first | done | with_reducible rfl)
          show wpAnyH _ _ _ _ _ _ _ (Act.put _ (some 89) _) _
          refine wpAnyH_take (i := 14) (v := ?_) rfl (by kernel_rfl) (by kernel_rfl) (by kernel_rfl) (fun _ _ _ h => h) (Or.inl ⟨by kernel_rfl, ?tq15⟩) HR1.out ?_
          case tq15 => (intro wq hq; obtain ⟨f0, f1⟩ := HFC.out wq hq; go_simp; first | done | with_reducible rfl)
          show wpAnyH _ _ _ _ _ _ _ (Act.put _ (some 90) _) _
          refine wpAnyH_take (i := 15) (v := ?_) rfl (by kernel_rfl) (by kernel_rfl) (by kernel_rfl) (fun _ _ _ h => h) (Or.inl ⟨by kernel_rfl, ?tq16⟩) HR1.out ?_
          case tq16 => (intro wq hq; obtain ⟨f0, f1⟩ := HFC.out wq hq; go_simp; first | done | with_reducible rfl)
          show wpAnyH _ _ _ _ _ _ _ (Act.put _ (some 91) _) _
          refine wpAnyH_take (i := 16) (v := ?_) rfl (by kernel_rfl) (by kernel_rfl) (by kernel_rfl) (fun _ _ _ h => h) (Or.inl ⟨by kernel_rfl, ?tq17⟩) HR1.out ?_
          case tq17 => (intro wq hq; obtain ⟨f0, f1⟩ := HFC.out wq hq; go_simp; first | done | with_reducible rfl)
          show wpAnyH _ _ _ _ _ _ _ (Act.put _ (some 92) _) _
          refine wpAnyH_take (i := 17) (v := ?_) rfl (by kernel_rfl) (by kernel_rfl) (by kernel_rfl) (fun _ _ _ h => h) (Or.inl ⟨by kernel_rfl, ?tq18⟩) HR1.out ?_
          case tq18 => (intro wq hq; obtain ⟨f0, f1⟩ := HFC.out wq hq; go_simp; first | done | with_reducible rfl)
          show wpAnyH _ _ _ _ _ _ _ (Act.put _ (some 93) _) _
          refine wpAnyH_take (i := 18) (v := ?_) rfl (by kernel_rfl) (by kernel_rfl) (by kernel_rfl) (fun _ _ _ h => h) (Or.inl ⟨by kernel_rfl, ?tq19⟩) HR1.out ?_
          case tq19 => (intro wq hq; obtain ⟨f0, f1⟩ := HFC.out wq hq; go_simp; first | done | with_reducible rfl)
          show wpAnyH _ _ _ _ _ _ _ (Act.put _ (some 94) _) _
          refine wpAnyH_take (i := 19) (v := ?_) rfl (by kernel_rfl) (by kernel_rfl) (by kernel_rfl) (fun _ _ _ h => h) (Or.inl ⟨by kernel_rfl, ?tq20⟩) HR1.out ?_
          case tq20 => (intro wq hq; obtain ⟨f0, f1⟩ := HFC.out wq hq; go_simp; first | done | with_reducible rfl)
          show wpAnyH _ _ _ _ _ _ _ (Act.put _ (some 95) _) _
          refine wpAnyH_take (i := 20) (v := ?_) rfl (by kernel_rfl) (by kernel_rfl) (by kernel_rfl) (fun _ _ _ h => h) (Or.inl ⟨by kernel_rfl, ?tq21⟩) HR1.out ?_
          case tq21 => (intro wq hq; obtain ⟨f0, f1⟩ := HFC.out wq hq; go_simp; first | done | with_reducible rfl)
          show wpAnyH _ _ _ _ _ _ _ (Act.put _ (some 96) _) _
          refine wpAnyH_take (i := 21) (v := undef) rfl (by kernel_rfl) (by kernel_rfl) (by kernel_rfl) (fun _ _ _ h => h) (Or.inr ⟨by kernel_rfl, by kernel_rfl⟩) HR1.out ?_
          show wpAnyH _ _ _ _ _ _ _ (Act.put _ (some 97) _) _
          refine wpAnyH_take (i := 22) (v := undef) rfl (by kernel_rfl) (by kernel_rfl) (by kernel_rfl) (fun _ _ _ h => h) (Or.inr ⟨by kernel_rfl, by kernel_rfl⟩) HR1.out ?_
          show wpAnyH _ _ _ _ _ _ _ (Act.put _ (some 98) _) _
          refine wpAnyH_take (i := 23) (v := undef) rfl (by kernel_rfl) (by kernel_rfl) (by kernel_rfl) (fun _ _ _ h => h) (Or.inr ⟨by kernel_rfl, by kernel_rfl⟩) HR1.out ?_
          show wpAnyH _ _ _ _ _ _ _ (Act.put _ (some 99) _) _
          refine wpAnyH_take (i := 24) (v := undef) rfl (by kernel_rfl) (by kernel_rfl) (by kernel_rfl) (fun _ _ _ h => h) (Or.inr ⟨by kernel_rfl, by kernel_rfl⟩) HR1.out ?_
          show wpAnyH _ _ _ _ _ _ _ (Act.put _ (some 100) _) _
          refine wpAnyH_take (i := 25) (v := undef) rfl (by kernel_rfl) (by kernel_rfl) (by kernel_rfl) (fun _ _ _ h => h) (Or.inr ⟨by kernel_rfl, by kernel_rfl⟩) HR1.out ?_
          show wpAnyH _ _ _ _ _ _ _ (Act.put _ (some 101) _) _
          refine wpAnyH_take (i := 26) (v := undef) rfl (by kernel_rfl) (by kernel_rfl) (by kernel_rfl) (fun _ _ _ h => h) (Or.inr ⟨by kernel_rfl, by kernel_rfl⟩) HR1.out ?_
          show wpAnyH _ _ _ _ _ _ _ (Act.put _ (some 102) _) _
          refine wpAnyH_take (i := 27) (v := ?_) rfl (by kernel_rfl) (by kernel_rfl) (by kernel_rfl) (fun _ _ _ h => h) (Or.inl ⟨by kernel_rfl, ?tq22⟩) HR1.out ?_
          case tq22 => (intro wq hq; obtain ⟨f0, f1⟩ := HFC.out wq hq; go_simp; first | done | with_reducible rfl)
          show wpAnyH _ _ _ _ _ _ _ (Act.put _ (some 103) _) _
          refine wpAnyH_take (i := 28) (v := ?_) rfl (by kernel_rfl) (by kernel_rfl) (by kernel_rfl) (fun _ _ _ h => h) (Or.inl ⟨by kernel_rfl, ?tq23⟩) HR1.out ?_
          case tq23 => (intro wq hq; obtain ⟨f0, f1⟩ := HFC.out wq hq; go_simp; first | done | with_reducible rfl)
          show wpAnyH _ _ _ _ _ _ _ (Act.put _ (some 104) _) _
          refine wpAnyH_take (i := 29) (v := ?_) rfl (by kernel_rfl) (by kernel_rfl) (by kernel_rfl) (fun _ _ _ h => h) (Or.inl ⟨by kernel_rfl, ?tq24⟩) HR1.out ?_
          case tq24 => (intro wq hq; obtain ⟨f0, f1⟩ := HFC.out wq hq; go_simp; first | done | with_reducible rfl)
          show wpAnyH _ _ _ _ _ _ _ (Act.put _ (some 105) _) _
          refine wpAnyH_take (i := 30) (v := ?_) rfl (by kernel_rfl) (by kernel_rfl) (by kernel_rfl) (fun _ _ _ h => h) (Or.inl ⟨by kernel_rfl, ?tq25⟩) HR1.out ?_
          case tq25 => (intro wq hq; obtain ⟨f0, f1⟩ := HFC.out wq hq; go_simp; first | done | with_reducible rfl)
          show wpAnyH _ _ _ _ _ _ _ (Act.put _ (some 106) _) _
          refine wpAnyH_take (i := 31) (v := ?_) rfl (by kernel_rfl) (by kernel_rfl) (by kernel_rfl) (fun _ _ _ h => h) (Or.inl ⟨by kernel_rfl, ?tq26⟩) HR1.out ?_
          case tq26 => (intro wq hq; obtain ⟨f0, f1⟩ := HFC.out wq hq; go_simp; first | done | with_reducible rfl)
          show wpAnyH _ _ _ _ _ _ _ (Act.put _ (some 107) _) _
          refine wpAnyH_take (i := 32) (v := ?_) rfl (by kernel_rfl) (by kernel_rfl) (by kernel_rfl) (fun _ _ _ h => h) (Or.inl ⟨by kernel_rfl, ?tq27⟩) HR1.out ?_
          case tq27 => (intro wq hq; obtain ⟨f0, f1⟩ := HFC.out wq hq; go_simp; first | done | with_reducible rfl)
          show wpAnyH _ _ _ _ _ _ _ (Act.put _ (some 108) _) _
          refine wpAnyH_take (i := 33) (v := ?_) rfl (by kernel_rfl) (by kernel_rfl) (by kernel_rfl) (fun _ _ _ h => h) (Or.inl ⟨by kernel_rfl, ?tq28⟩) HR1.out ?_
          case tq28 => (intro wq hq; obtain ⟨f0, f1⟩ := HFC.out wq hq; go_simp; first | done | with_reducible rfl)
          show wpAnyH _ _ _ _ _ _ _ (Act.put _ (some 109) _) _
          refine wpAnyH_take (i := 34) (v := ?_) rfl (by kernel_rfl) (by kernel_rfl) (by kernel_rfl) (fun _ _ _ h => h) (Or.inl ⟨by kernel_rfl, ?tq29⟩) HR1.out ?_
          case tq29 => (intro wq hq; obtain ⟨f0, f1⟩ := HFC.out wq hq; go_simp; first | done | with_reducible rfl)
          show wpAnyH _ _ _ _ _ _ _ (Act.put _ (some 110) _) _
          refine wpAnyH_take (i := 35) (v := ?_) rfl (by kernel_rfl) (by kernel_rfl) (by kernel_rfl) (fun _ _ _ h => h) (Or.inl ⟨by kernel_rfl, ?tq30⟩) HR1.out ?_
          case tq30 => (intro wq hq; obtain ⟨f0, f1⟩ := HFC.out wq hq; go_simp; first | done | with_reducible rfl)
          show wpAnyH _ _ _ _ _ _ _ (Act.put _ (some 111) _) _
          refine wpAnyH_take (i := 36) (v := ?_) rfl (by kernel_rfl) (by kernel_rfl) (by kernel_rfl) (fun _ _ _ h => h) (Or.inl ⟨by kernel_rfl, ?tq31⟩) HR1.out ?_
          case tq31 => (intro wq hq; obtain ⟨f0, f1⟩ := HFC.out wq hq; go_simp; first | done | with_reducible rfl)
          show wpAnyH _ _ _ _ _ _ _ (Act.put _ (some 112) _) _
          refine wpAnyH_take (i := 37) (v := ?_) rfl (by kernel_rfl) (by kernel_rfl) (by kernel_rfl) (fun _ _ _ h => h) (Or.inl ⟨by kernel_rfl, ?tq32⟩) HR1.out ?_
          case tq32 => (intro wq hq; obtain ⟨f0, f1⟩ := HFC.out wq hq; go_simp; first | done | with_reducible rfl)
          show wpAnyH _ _ _ _ _ _ _ (Act.put _ (some 113) _) _
          refine wpAnyH_take (i := 38) (v := ?_) rfl (by kernel_rfl) (by kernel_rfl) (by kernel_rfl) (fun _ _ _ h => h) (Or.inl ⟨by kernel_rfl, ?tq33⟩) HR1.out ?_
          case tq33 => (intro wq hq; obtain ⟨f0, f1⟩ := HFC.out wq hq; go_simp; first | done | with_reducible rfl)
          show wpAnyH _ _ _ _ _ _ _ (Act.put _ (some 114) _) _
          refine wpAnyH_take (i := 39) (v := ?_) rfl (by kernel_rfl) (by kernel_rfl) (by kernel_rfl) (fun _ _ _ h => h) (Or.inl ⟨by kernel_rfl, ?tq34⟩) HR1.out ?_
          case tq34 => (intro wq hq; obtain ⟨f0, f1⟩ := HFC.out wq hq; go_simp; first | done | with_reducible rfl)
          show wpAnyH _ _ _ _ _ _ _ (Act.put _ (some 115) _) _
          refine wpAnyH_take (i := 40) (v := ?_) rfl (by kernel_rfl) (by kernel_rfl) (by kernel_rfl) (fun _ _ _ h => h) (Or.inl ⟨by kernel_rfl, ?tq35⟩) HR1.out ?_
          case tq35 => (intro wq hq; obtain ⟨f0, f1⟩ := HFC.out wq hq; go_simp; first | done | with_reducible rfl)
          show wpAnyH _ _ _ _ _ _ _ (Act.put _ (some 116) _) _
          refine wpAnyH_take (i := 41) (v := ?_) rfl (by kernel_rfl) (by kernel_rfl) (by kernel_rfl) (fun _ _ _ h => h) (Or.inl ⟨by kernel_rfl, ?tq36⟩) HR1.out ?_
          case tq36 => (intro wq hq; obtain ⟨f0, f1⟩ := HFC.out wq hq; go_simp; first | done | with_reducible rfl)
          show wpAnyH _ _ _ _ _ _ _ (Act.put _ (some 117) _) _
          refine wpAnyH_take (i := 42) (v := ?_) rfl (by kernel_rfl) (by kernel_rfl) (by kernel_rfl) (fun _ _ _ h => h) (Or.inl ⟨by kernel_rfl, ?tq37⟩) HR1.out ?_
          case tq37 => (intro wq hq; obtain ⟨f0, f1⟩ := HFC.out wq hq; go_simp; first | done | with_reducible rfl)
          show wpAnyH _ _ _ _ _ _ _ (Act.put _ (some 118) _) _
          refine wpAnyH_take (i := 43) (v := ?_) rfl (by kernel_rfl) (by kernel_rfl) (by kernel_rfl) (fun _ _ _ h => h) (Or.inl ⟨by kernel_rfl, ?tq38⟩) HR1.out ?_
          case tq38 => (intro wq hq; obtain ⟨f0, f1⟩ := HFC.out wq hq; go_simp; first | done | with_reducible rfl)
          show wpAnyH _ _ _ _ _ _ _ (Act.put _ (some 119) _) _
          refine wpAnyH_take (i := 44) (v := ?_) rfl (by kernel_rfl) (by kernel_rfl) (by kernel_rfl) (fun _ _ _ h => h) (Or.inl ⟨by kernel_rfl, ?tq39⟩) HR1.out ?_
          case tq39 => (intro wq hq; obtain ⟨f0, f1⟩ := HFC.out wq hq; go_simp; first | done | with_reducible rfl)
          show wpAnyH _ _ _ _ _ _ _ (Act.put _ (some 120) _) _
          refine wpAnyH_done (by kernel_rfl) ?_ _
          refine NoPanic.normal ?_
          show Exit.then _ _ _ (Act.put _ (some 120) _) _
          simp only [Act.put, List.setIfInBounds_toArray, List.set_cons_zero, List.set_cons_succ]
          go_wp2_with fail
          go_roundw
          case rel => exact ⟨_, _, _, hlt, by go_num, by split <;> omega, HM10.out.below HR1.out, HFX.out, HFT2.out, HF10.out.trans (Fr.of_below HR1.out (fun _ => False)) (fun _ _ h => h.elim)⟩
          case measure => simp [intOf]; omega
        have hxc2 : x = c := by
          rcases hmem with h | h | h | h
          · exact absurd h hxa
          · exact absurd h hxbb
          · exact h
          · exact absurd h hx0
        have n1 : (x != a) = true := by simp [hxa]
        have n2 : (x != b) = true := by simp [hxbb]
        have n3 : (x != c) = false := by simp [hxc2]
        clear hxa hxbb hxc2
        clear hmem hx0
        refine wp_region_noPanic ?_
        refine wp_region_held_drew (S := fun w' => Below w10.heap.size w10 w') (by kernel_rfl) (Below.refl _ _).drew (fun _ => ?_)
        have HR1 := Lib.hid (Below.refl w10.heap.size w10).drew
        generalize w10.drew = r1 at *
        refine wpAnyH_take (i := 0) (v := ?_) rfl (by kernel_rfl) (by kernel_rfl) (by kernel_rfl) (fun _ _ _ h => h) (Or.inl ⟨by kernel_rfl, ?tq1⟩) HR1.out ?_
        case tq1 => (intro wq hq; obtain ⟨f0, f1⟩ := HFC.out wq hq; go_simp; first | done | with_reducible rfl)
        show wpAnyH _ _ _ _ _ _ _ (Act.put _ (some 76) _) _
        refine wpAnyH_take (i := 1) (v := ?_) rfl (by kernel_rfl) (by kernel_rfl) (by kernel_rfl) (fun _ _ _ h => h) (Or.inl ⟨by kernel_rfl, ?tq2⟩) HR1.out ?_
        case tq2 => (intro wq hq; obtain ⟨f0, f1⟩ := HFC.out wq hq; go_simp; first | done | with_reducible rfl)
        show wpAnyH _ _ _ _ _ _ _ (Act.put _ (some 77) _) _
        refine wpAnyH_take (i := 2) (v := ?_) rfl (by kernel_rfl) (by kernel_rfl) (by kernel_rfl) (fun _ _ _ h => h) (Or.inl ⟨by kernel_rfl, ?tq3⟩) HR1.out ?_
        case tq3 => (intro wq hq; obtain ⟨f0, f1⟩ := HFC.out wq hq; go_simp; first | done | with_reducible rfl)
        show wpAnyH _ _ _ _ _ _ _ (Act.put _ (some 78) _) _
        refine wpAnyH_take (i := 3) (v := ?_) rfl (by kernel_rfl) (by kernel_rfl) (by kernel_rfl) (fun _ _ _ h => h) (Or.inl ⟨by kernel_rfl, ?tq4⟩) HR1.out ?_
        case tq4 => (intro wq hq; obtain ⟨f0, f1⟩ := HFC.out wq hq; go_simp; first | done | with_reducible rfl)
        show wpAnyH _ _ _ _ _ _ _ (Act.put _ (some 79) _) _
        refine wpAnyH_take (i := 4) (v := ?_) rfl (by kernel_rfl) (by kernel_rfl) (by kernel_rfl) (fun _ _ _ h => h) (Or.inl ⟨by kernel_rfl, ?tq5⟩) HR1.out ?_
        case tq5 => (intro wq hq; obtain ⟨f0, f1⟩ := HFC.out wq hq; go_simp; first | done | with_reducible rfl)
        show wpAnyH _ _ _ _ _ _ _ (Act.put _ (some 80) _) _
        refine wpAnyH_take (i := 5) (v := ?_) rfl (by kernel_rfl) (by kernel_rfl) (by kernel_rfl) (fun _ _ _ h => h) (Or.inl ⟨by kernel_rfl, ?tq6⟩) HR1.out ?_
        case tq6 => (intro wq hq; obtain ⟨f0, f1⟩ := HFC.out wq hq; go_simp; first | done | with_reducible rfl)
        show wpAnyH _ _ _ _ _ _ _ (Act.put _ (some 81) _) _
        refine wpAnyH_take (i := 6) (v := ?_) rfl (by kernel_rfl) (by kernel_rfl) (by kernel_rfl) (fun _ _ _ h => h) (Or.inl ⟨by kernel_rfl, ?tq7⟩) HR1.out ?_
        case tq7 => (intro wq hq; obtain ⟨f0, f1⟩ := HFC.out wq hq; go_simp; first | done | with_reducible rfl)
        show wpAnyH _ _ _ _ _ _ _ (Act.put _ (some 82) _) _
        refine wpAnyH_take (i := 7) (v := ?_) rfl (by kernel_rfl) (by kernel_rfl) (by kernel_rfl) (fun _ _ _ h => h) (Or.inl ⟨by kernel_rfl, ?tq8⟩) HR1.out ?_
        case tq8 => (intro wq hq; obtain ⟨f0, f1⟩ := HFC.out wq hq; go_simp; first | done | with_reducible rfl)
        show wpAnyH _ _ _ _ _ _ _ (Act.put _ (some 83) _) _
        refine wpAnyH_take (i := 8) (v := ?_) rfl (by kernel_rfl) (by kernel_rfl) (by kernel_rfl) (fun _ _ _ h => h) (Or.inl ⟨by kernel_rfl, ?tq9⟩) HR1.out ?_
        case tq9 => (intro wq hq; obtain ⟨f0, f1⟩ := HFC.out wq hq; go_simp; first | done | with_reducible rfl)
        show wpAnyH _ _ _ _ _ _ _ (Act.put _ (some 84) _) _
        refine wpAnyH_take (i := 9) (v := ?_) rfl (by kernel_rfl) (by kernel_rfl) (by kernel_rfl) (fun _ _ _ h => h) (Or.inl ⟨by kernel_rfl, ?tq10⟩) HR1.out ?_
        case tq10 => (intro wq hq; obtain ⟨f0, f1⟩ := HFC.out wq hq; go_simp; first | done | with_reducible rfl)
        show wpAnyH _ _ _ _ _ _ _ (Act.put _ (some 85) _) _
        refine wpAnyH_take (i := 10) (v := ?_) rfl (by kernel_rfl) (by kernel_rfl) (by kernel_rfl) (fun _ _ _ h => h) (Or.inl ⟨by kernel_rfl, ?tq11⟩) HR1.out ?_
        case tq11 => (intro wq hq; obtain ⟨f0, f1⟩ := HFC.out wq hq; go_simp; first | done | with_reducible rfl)
        show wpAnyH _ _ _ _ _ _ _ (Act.put _ (some 86) _) _
        refine wpAnyH_take (i := 11) (v := ?_) rfl (by kernel_rfl) (by kernel_rfl) (by kernel_rfl) (fun _ _ _ h => h) (Or.inl ⟨by kernel_rfl, ?tq12⟩) HR1.out ?_
        case tq12 => (intro wq hq; obtain ⟨f0, f1⟩ := HFC.out wq hq; go_simp; first | done | with_reducible rfl)
        show wpAnyH _ _ _ _ _ _ _ (Act.put _ (some 87) _) _
        refine wpAnyH_take (i := 12) (v := ?_) rfl (by kernel_rfl) (by kernel_rfl) (by kernel_rfl) (fun _ _ _ h => h) (Or.inl ⟨by kernel_rfl, ?tq13⟩) HR1.out ?_
        case tq13 => (intro wq hq; obtain ⟨f0, f1⟩ := HFC.out wq hq; go_simp; first | done | with_reducible rfl)
        show wpAnyH _ _ _ _ _ _ _ (Act.put _ (some 88) _) _
        refine wpAnyH_take (i := 13) (v := ?_) rfl (by kernel_rfl) (by kernel_rfl) (by kernel_rfl) (fun _ _ _ h => h) (Or.inl ⟨by kernel_rfl, ?tq14⟩) HR1.out ?_
        case tq14 => (intro wq hq; obtain ⟨f0, f1⟩ := HFC.out wq hq; go_simp; first | done | with_reducible rfl)
        show wpAnyH _ _ _ _ _ _ _ (Act.put _ (some 89) _) _
        refine wpAnyH_take (i := 14) (v := ?_) rfl (by kernel_rfl) (by kernel_rfl) (by kernel_rfl) (fun _ _ _ h => h) (Or.inl ⟨by kernel_rfl, ?tq15⟩) HR1.out ?_
        case tq15 => (intro wq hq; obtain ⟨f0, f1⟩ := HFC.out wq hq; go_simp; first | done | with_reducible rfl)
        show wpAnyH _ _ _ _ _ _ _ (Act.put _ (some 90) _) _
        refine wpAnyH_take (i := 15) (v := ?_) rfl (by kernel_rfl) (by kernel_rfl) (by kernel_rfl) (fun _ _ _ h => h) (Or.inl ⟨by kernel_rfl, ?tq16⟩) HR1.out ?_
        case tq16 => (intro wq hq; obtain ⟨f0, f1⟩ := HFC.out wq hq; go_simp; first | done | with_reducible rfl)
        show wpAnyH _ _ _ _ _ _ _ (Act.put _ (some 91) _) _
        refine wpAnyH_take (i := 16) (v := ?_) rfl (by kernel_rfl) (by kernel_rfl) (by kernel_rfl) (fun _ _ _ h => h) (Or.inl ⟨by kernel_rfl, ?tq17⟩) HR1.out ?_
        case tq17 => (intro wq hq; obtain ⟨f0, f1⟩ := HFC.out wq hq; go_simp; first | done | with_reducible rfl)
        show wpAnyH _ _ _ _ _ _ _ (Act.put _ (some 92) _) _
        refine wpAnyH_take (i := 17) (v := ?_) rfl (by kernel_rfl) (by kernel_rfl) (by kernel_rfl) (fun _ _ _ h => h) (Or.inl ⟨by kernel_rfl, ?tq18⟩) HR1.out ?_
        case tq18 => (intro wq hq; obtain ⟨f0, f1⟩ := HFC.out wq hq; go_simp; first | done | with_reducible rfl)
        show wpAnyH _ _ _ _ _ _ _ (Act.put _ (some 93) _) _
        refine wpAnyH_take (i := 18) (v := ?_) rfl (by kernel_rfl) (by kernel_rfl) (by kernel_rfl) (fun _ _ _ h => h) (Or.inl ⟨by kernel_rfl, ?tq19⟩) HR1.out ?_
        case tq19 => (intro wq hq; obtain ⟨f0, f1⟩ := HFC.out wq hq; go_simp; first | done | with_reducible rfl)
        show wpAnyH _ _ _ _ _ _ _ (Act.put _ (some 94) _) _
        refine wpAnyH_take (i := 19) (v := ?_) rfl (by kernel_rfl) (by kernel_rfl) (by kernel_rfl) (fun _ _ _ h => h) (Or.inl ⟨by kernel_rfl, ?tq20⟩) HR1.out ?_
        case tq20 => (intro wq hq; obtain ⟨f0, f1⟩ := HFC.out wq hq; go_simp; first | done | with_reducible rfl)
        show wpAnyH _ _ _ _ _ _ _ (Act.put _ (some 95) _) _
        refine wpAnyH_take (i := 20) (v := ?_) rfl (by kernel_rfl) (by kernel_rfl) (by kernel_rfl) (fun _ _ _ h => h) (Or.inl ⟨by kernel_rfl, ?tq21⟩) HR1.out ?_
        case tq21 => (intro wq hq; obtain ⟨f0, f1⟩ := HFC.out wq hq; go_simp; first | done | with_reducible rfl)
        show wpAnyH _ _ _ _ _ _ _ (Act.put _ (some 96) _) _
        refine wpAnyH_take (i := 21) (v := ?_) rfl (by kernel_rfl) (by kernel_rfl) (by kernel_rfl) (fun _ _ _ h => h) (Or.inl ⟨by kernel_rfl, ?tq22⟩) HR1.out ?_
        case tq22 => (intro wq hq; obtain ⟨f0, f1⟩ := HFC.out wq hq; go_simp; first | done | with_reducible rfl)
        show wpAnyH _ _ _ _ _ _ _ (Act.put _ (some 97) _) _
        refine wpAnyH_take (i := 22) (v := ?_) rfl (by kernel_rfl) (by kernel_rfl) (by kernel_rfl) (fun _ _ _ h => h) (Or.inl ⟨by kernel_rfl, ?tq23⟩) HR1.out ?_
        case tq23 => (intro wq hq; obtain ⟨f0, f1⟩ := HFC.out wq hq; go_simp; first | done | with_reducible rfl)
        show wpAnyH _ _ _ _ _ _ _ (Act.put _ (some 98) _) _
        refine wpAnyH_take (i := 23) (v := ?_) rfl (by kernel_rfl) (by kernel_rfl) (by kernel_rfl) (fun _ _ _ h => h) (Or.inl ⟨by kernel_rfl, ?tq24⟩) HR1.out ?_
        case tq24 => (intro wq hq; obtain ⟨f0, f1⟩ := HFC.out wq hq; go_simp; first | done | with_reducible rfl)
        show wpAnyH _ _ _ _ _ _ _ (Act.put _ (some 99) _) _
        refine wpAnyH_take (i := 24) (v := ?_) rfl (by kernel_rfl) (by kernel_rfl) (by kernel_rfl) (fun _ _ _ h => h) (Or.inl ⟨by kernel_rfl, ?tq25⟩) HR1.out ?_
        case tq25 => (intro wq hq; obtain ⟨f0, f1⟩ := HFC.out wq hq; go_simp; first | done | with_reducible rfl)
        show wpAnyH _ _ _ _ _ _ _ (Act.put _ (some 100) _) _
        refine wpAnyH_take (i := 25) (v := ?_) rfl (by kernel_rfl) (by kernel_rfl) (by kernel_rfl) (fun _ _ _ h => h) (Or.inl ⟨by kernel_rfl, ?tq26⟩) HR1.out ?_
        case tq26 => (intro wq hq; obtain ⟨f0, f1⟩ := HFC.out wq hq; go_simp; first | done | with_reducible rfl)
        show wpAnyH _ _ _ _ _ _ _ (Act.put _ (some 101) _) _
        refine wpAnyH_take (i := 26) (v := ?_) rfl (by kernel_rfl) (by kernel_rfl) (by kernel_rfl) (fun _ _ _ h => h) (Or.inl ⟨by kernel_rfl, ?tq27⟩) HR1.out ?_
        case tq27 => (intro wq hq; obtain ⟨f0, f1⟩ := HFC.out wq hq; go_simp; first | done | with_reducible rfl)
        show wpAnyH _ _ _ _ _ _ _ (Act.put _ (some 102) _) _
        refine wpAnyH_take (i := 27) (v := ?_) rfl (by kernel_rfl) (by kernel_rfl) (by kernel_rfl) (fun _ _ _ h => h) (Or.inl ⟨by kernel_rfl, ?tq28⟩) HR1.out ?_
        case tq28 => (intro wq hq; obtain ⟨f0, f1⟩ := HFC.out wq hq; go_simp; first | done | with_reducible rfl)
        show wpAnyH _ _ _ _ _ _ _ (Act.put _ (some 103) _) _
        refine wpAnyH_take (i := 28) (v := ?_) rfl (by kernel_rfl) (by kernel_rfl) (by kernel_rfl) (fun _ _ _ h => h) (Or.inl ⟨by kernel_rfl, ?tq29⟩) HR1.out ?_
        case tq29 => (intro wq hq; obtain ⟨f0, f1⟩ := HFC.out wq hq; go_simp; first | done | with_reducible rfl)
        show wpAnyH _ _ _ _ _ _ _ (Act.put _ (some 104) _) _
        refine wpAnyH_take (i := 29) (v := ?_) rfl (by kernel_rfl) (by kernel_rfl) (by kernel_rfl) (fun _ _ _ h => h) (Or.inl ⟨by kernel_rfl, ?tq30⟩) HR1.out ?_
        case tq30 => (intro wq hq; obtain ⟨f0, f1⟩ := HFC.out wq hq; go_simp; first | done | with_reducible rfl)
        show wpAnyH _ _ _ _ _ _ _ (Act.put _ (some 105) _) _
        refine wpAnyH_take (i := 30) (v := ?_) rfl (by kernel_rfl) (by kernel_rfl) (by kernel_rfl) (fun _ _ _ h => h) (Or.inl ⟨by kernel_rfl, ?tq31⟩) HR1.out ?_
        case tq31 => (intro wq hq; obtain ⟨f0, f1⟩ := HFC.out wq hq; go_simp; first | done | with_reducible rfl)
        show wpAnyH _ _ _ _ _ _ _ (Act.put _ (some 106) _) _
        refine wpAnyH_take (i := 31) (v := ?_) rfl (by kernel_rfl) (by kernel_rfl) (by kernel_rfl) (fun _ _ _ h => h) (Or.inl ⟨by kernel_rfl, ?tq32⟩) HR1.out ?_
        case tq32 => (intro wq hq; obtain ⟨f0, f1⟩ := HFC.out wq hq; go_simp; first | done | with_reducible rfl)
        show wpAnyH _ _ _ _ _ _ _ (Act.put _ (some 107) _) _
        refine wpAnyH_take (i := 32) (v := ?_) rfl (by kernel_rfl) (by kernel_rfl) (by kernel_rfl) (fun _ _ _ h => h) (Or.inl ⟨by kernel_rfl, ?tq33⟩) HR1.out ?_
        case tq33 => (intro wq hq; obtain ⟨f0, f1⟩ := HFC.out wq hq; go_simp; first | done | with_reducible rfl)
        show wpAnyH _ _ _ _ _ _ _ (Act.put _ (some 108) _) _
        refine wpAnyH_take (i := 33) (v := ?_) rfl (by kernel_rfl) (by kernel_rfl) (by kernel_rfl) (fun _ _ _ h => h) (Or.inl ⟨by kernel_rfl, ?tq34⟩) HR1.out ?_
        case tq34 => (intro wq hq; obtain ⟨f0, f1⟩ := HFC.out wq hq; go_simp; first | done | with_reducible rfl)
        show wpAnyH _ _ _ _ _ _ _ (Act.put _ (some 109) _) _
        refine wpAnyH_take (i := 34) (v := ?_) rfl (by kernel_rfl) (by kernel_rfl) (by kernel_rfl) (fun _ _ _ h => h) (Or.inl ⟨by kernel_rfl, ?tq35⟩) HR1.out ?_
        case tq35 => (intro wq hq; obtain ⟨f0, f1⟩ := HFC.out wq hq; go_simp; first | done | with_reducible rfl)
        show wpAnyH _ _ _ _ _ _ _ (Act.put _ (some 110) _) _
        refine wpAnyH_take (i := 35) (v := ?_) rfl (by kernel_rfl) (by kernel_rfl) (by kernel_rfl) (fun _ _ _ h => h) (Or.inl ⟨by kernel_rfl, ?tq36⟩) HR1.out ?_
        case tq36 => (intro wq hq; obtain ⟨f0, f1⟩ := HFC.out wq hq; go_simp; first | done | with_reducible rfl)
        show wpAnyH _ _ _ _ _ _ _ (Act.put _ (some 111) _) _
        refine wpAnyH_take (i := 36) (v := ?_) rfl (by kernel_rfl) (by kernel_rfl) (by kernel_rfl) (fun _ _ _ h => h) (Or.inl ⟨by kernel_rfl, ?tq37⟩) HR1.out ?_
        case tq37 => (intro wq hq; obtain ⟨f0, f1⟩ := HFC.out wq hq; go_simp; first | done | with_reducible rfl)
        show wpAnyH _ _ _ _ _ _ _ (Act.put _ (some 112) _) _
        refine wpAnyH_take (i := 37) (v := ?_) rfl (by kernel_rfl) (by kernel_rfl) (by kernel_rfl) (fun _ _ _ h => h) (Or.inl ⟨by kernel_rfl, ?tq38⟩) HR1.out ?_
        case tq38 => (intro wq hq; obtain ⟨f0, f1⟩ := HFC.out wq hq; go_simp; first | done | with_reducible rfl)
        show wpAnyH _ _ _ _ _ _ _ (Act.put _ (some 113) _) _
        refine wpAnyH_take (i := 38) (v := ?_) rfl (by kernel_rfl) (by kernel_rfl) (by kernel_rfl) (fun _ _ _ h => h) (Or.inl ⟨by kernel_rfl, ?tq39⟩) HR1.out ?_
        case tq39 => (intro wq hq; obtain ⟨f0, f1⟩ := HFC.out wq hq; go_simp; first | done | with_reducible rfl)
        show wpAnyH _ _ _ _ _ _ _ (Act.put _ (some 114) _) _
        refine wpAnyH_take (i := 39) (v := ?_) rfl (by kernel_rfl) (by kernel_rfl) (by kernel_rfl) (fun _ _ _ h => h) (Or.inl ⟨by kernel_rfl, ?tq40⟩) HR1.out ?_
        case tq40 => (intro wq hq; obtain ⟨f0, f1⟩ := HFC.out wq hq; go_simp; first | done | with_reducible rfl)
        show wpAnyH _ _ _ _ _ _ _ (Act.put _ (some 115) _) _
        refine wpAnyH_take (i := 40) (v := ?_) rfl (by kernel_rfl) (by kernel_rfl) (by kernel_rfl) (fun _ _ _ h => h) (Or.inl ⟨by kernel_rfl, ?tq41⟩) HR1.out ?_
        case tq41 => (intro wq hq; obtain ⟨f0, f1⟩ := HFC.out wq hq; go_simp; first | done | with_reducible rfl)
        show wpAnyH _ _ _ _ _ _ _ (Act.put _ (some 116) _) _
        refine wpAnyH_take (i := 41) (v := ?_) rfl (by kernel_rfl) (by kernel_rfl) (by kernel_rfl) (fun _ _ _ h => h) (Or.inl ⟨by kernel_rfl, ?tq42⟩) HR1.out ?_
        case tq42 => (intro wq hq; obtain ⟨f0, f1⟩ := HFC.out wq hq; go_simp; first | done | with_reducible rfl)
        show wpAnyH _ _ _ _ _ _ _ (Act.put _ (some 117) _) _
        refine wpAnyH_take (i := 42) (v := ?_) rfl (by kernel_rfl) (by kernel_rfl) (by kernel_rfl) (fun _ _ _ h => h) (Or.inl ⟨by kernel_rfl, ?tq43⟩) HR1.out ?_
        case tq43 => (intro wq hq; obtain ⟨f0, f1⟩ := HFC.out wq hq; go_simp; first | done | with_reducible rfl)
        show wpAnyH _ _ _ _ _ _ _ (Act.put _ (some 118) _) _
        refine wpAnyH_take (i := 43) (v := ?_) rfl (by kernel_rfl) (by kernel_rfl) (by kernel_rfl) (fun _ _ _ h => h) (Or.inl ⟨by kernel_rfl, ?tq44⟩) HR1.out ?_
        case tq44 => (intro wq hq; obtain ⟨f0, f1⟩ := HFC.out wq hq; go_simp; first | done | with_reducible rfl)
        show wpAnyH _ _ _ _ _ _ _ (Act.put _ (some 119) _) _
        refine wpAnyH_take (i := 44) (v := ?_) rfl (by kernel_rfl) (by kernel_rfl) (by kernel_rfl) (fun _ _ _ h => h) (Or.inl ⟨by kernel_rfl, ?tq45⟩) HR1.out ?_
        case tq45 => (intro wq hq; obtain ⟨f0, f1⟩ := HFC.out wq hq; go_simp; first | done | with_reducible rfl)
        show wpAnyH _ _ _ _ _ _ _ (Act.put _ (some 120) _) _
        refine wpAnyH_done (by kernel_rfl) ?_ _
        refine NoPanic.normal ?_
        show Exit.then _ _ _ (Act.put _ (some 120) _) _
        simp only [Act.put, List.setIfInBounds_toArray, List.set_cons_zero, List.set_cons_succ]
        go_wp2_with fail
        go_roundw
        case rel => exact ⟨_, _, _, hlt, by go_num, by split <;> omega, HM10.out.below HR1.out, HFX.out, HFT2.out, HF10.out.trans (Fr.of_below HR1.out (fun _ => False)) (fun _ _ h => h.elim)⟩
        case measure => simp [intOf]; omega
    · have hi' : i = M.length := by omega
      subst hi'
      rw [List.take_length] at hfx
      have ht : Tryz.prog.underlying 54 = some (.map intK.k 4) := Tryz.underlying54
      have hlk : ∀ x, x ≠ 0 → x ∈ [a, b, c, 0] → i64B x → (Instr.lookup 54 (.map (some ib)) (.int .i64 x) false).run Tryz.prog wr = .ok (.bool true) wr := fun x h0 hm hb => by
        have h1 := (hfx x hb).2 ((HIS.out.2 x).2 ⟨hb, hm, h0⟩)
        have hf : f x = some true := by
          cases hf : f x with
          | none => rw [hf] at h1; cases h1
          | some v => rw [hft x v hf]
        exact ((hmp.look ht (show (zeroValue 4).run Tryz.prog wr = .ok (.bool false) wr by kernel_rfl) x hb).1 true hf).1
      have hbW : Below L.heap.size L wr := HB9.out.trans (hfr.below HB9.out.size (fun q hq => by have := HLT.out; omega))
      have hb7W : Below w7.heap.size w7 wr := HB79.out.trans (hfr.below HB79.out.size (fun q hq => by have := HI7.out; omega))
      have PCW := Lib.hid (PC.out C _ mb b0 nm V HCL.out wr hbW (HMP.out.below hb7W))
      have HUW := Lib.hid (HUS.out.fr hfr (fun k hk e => by have := HUB.out k hk; omega))
      have HBW := Lib.hid (HBL.out.trans (hbW.mono HBL.out.size))
      obtain ⟨k0, k1, k2⟩ := HPK.out wr hbW
      obtain ⟨j0, j1, j2, j3, j4, j5, j6⟩ := HLK.out wr hbW
      obtain ⟨hia, hib, hic⟩ := HIB.out
      have la := hlk a
      have lb := hlk b
      have lc := hlk c
      clear hlk hmp hfx hft hfr ht hbW hb7W hM4 hmi hi
      obtain ⟨wz, hwz⟩ : ∃ wz, wz = wr := ⟨_, rfl⟩
      rw [← hwz] at PCW HUW HBW k0 k1 k2 j0 j1 j2 j3 j4 j5 j6 la lb lc ⊢
      clear hwz
      by_cases ha0 : a = 0
      · have na : (a == 0) = true := by simp [ha0]
        clear la ha0
        by_cases hb0 : b = 0
        · have nb : (b == 0) = true := by simp [hb0]
          clear lb hb0
          by_cases hc0 : c = 0
          · have nc : (c == 0) = true := by simp [hc0]
            clear lc hc0
            clear hia hib hic
            go_wp2_with fail
            refine PCW.out.mono ?_
            rintro e w10 ⟨v10, M', rfl, ho10, hM', hb10⟩
            obtain rfl : M' = M := hM'.eq HIS.out
            obtain ⟨qa, qc, rfl, hqs⟩ := own_int ho10
            have hM4 := HM4.out
            have si := sameInts_any w10 _ _ qa ua M' M' qc uc hqs (HUW.out.fr (Fr.of_below hb10 (fun _ => False)) (fun _ _ h => h)) (by omega) (by omega)
            rw [decide_eq_true rfl] at si
            have SI := Lib.hid si
            have HBX := Lib.hid (HBW.out.trans (hb10.mono HBW.out.size))
            clear si hqs ho10 hM' hb10 hM4
            go_wp2_with fail
            refine SI.out.mono ?_
            rintro e w11 ⟨rfl, n11, rfl⟩
            go_wp2_with fail
            go_ret
            exact ⟨rfl, below_drewN HBX.out _⟩
          · have nc : (c == 0) = false := by simp [hc0]
            have lc := lc hc0 (by simp) hic
            clear hc0
            clear hia hib hic
            go_wp2_with fail
            refine PCW.out.mono ?_
            rintro e w10 ⟨v10, M', rfl, ho10, hM', hb10⟩
            obtain rfl : M' = M := hM'.eq HIS.out
            obtain ⟨qa, qc, rfl, hqs⟩ := own_int ho10
            have hM4 := HM4.out
            have si := sameInts_any w10 _ _ qa ua M' M' qc uc hqs (HUW.out.fr (Fr.of_below hb10 (fun _ => False)) (fun _ _ h => h)) (by omega) (by omega)
            rw [decide_eq_true rfl] at si
            have SI := Lib.hid si
            have HBX := Lib.hid (HBW.out.trans (hb10.mono HBW.out.size))
            clear si hqs ho10 hM' hb10 hM4
            go_wp2_with fail
            refine SI.out.mono ?_
            rintro e w11 ⟨rfl, n11, rfl⟩
            go_wp2_with fail
            go_ret
            exact ⟨rfl, below_drewN HBX.out _⟩
        · have nb : (b == 0) = false := by simp [hb0]
          have lb := lb hb0 (by simp) hib
          clear hb0
          by_cases hc0 : c = 0
          · have nc : (c == 0) = true := by simp [hc0]
            clear lc hc0
            clear hia hib hic
            go_wp2_with fail
            refine PCW.out.mono ?_
            rintro e w10 ⟨v10, M', rfl, ho10, hM', hb10⟩
            obtain rfl : M' = M := hM'.eq HIS.out
            obtain ⟨qa, qc, rfl, hqs⟩ := own_int ho10
            have hM4 := HM4.out
            have si := sameInts_any w10 _ _ qa ua M' M' qc uc hqs (HUW.out.fr (Fr.of_below hb10 (fun _ => False)) (fun _ _ h => h)) (by omega) (by omega)
            rw [decide_eq_true rfl] at si
            have SI := Lib.hid si
            have HBX := Lib.hid (HBW.out.trans (hb10.mono HBW.out.size))
            clear si hqs ho10 hM' hb10 hM4
            go_wp2_with fail
            refine SI.out.mono ?_
            rintro e w11 ⟨rfl, n11, rfl⟩
            go_wp2_with fail
            go_ret
            exact ⟨rfl, below_drewN HBX.out _⟩
          · have nc : (c == 0) = false := by simp [hc0]
            have lc := lc hc0 (by simp) hic
            clear hc0
            clear hia hib hic
            go_wp2_with fail
            refine PCW.out.mono ?_
            rintro e w10 ⟨v10, M', rfl, ho10, hM', hb10⟩
            obtain rfl : M' = M := hM'.eq HIS.out
            obtain ⟨qa, qc, rfl, hqs⟩ := own_int ho10
            have hM4 := HM4.out
            have si := sameInts_any w10 _ _ qa ua M' M' qc uc hqs (HUW.out.fr (Fr.of_below hb10 (fun _ => False)) (fun _ _ h => h)) (by omega) (by omega)
            rw [decide_eq_true rfl] at si
            have SI := Lib.hid si
            have HBX := Lib.hid (HBW.out.trans (hb10.mono HBW.out.size))
            clear si hqs ho10 hM' hb10 hM4
            go_wp2_with fail
            refine SI.out.mono ?_
            rintro e w11 ⟨rfl, n11, rfl⟩
            go_wp2_with fail
            go_ret
            exact ⟨rfl, below_drewN HBX.out _⟩
      · have na : (a == 0) = false := by simp [ha0]
        have la := la ha0 (by simp) hia
        clear ha0
        by_cases hb0 : b = 0
        · have nb : (b == 0) = true := by simp [hb0]
          clear lb hb0
          by_cases hc0 : c = 0
          · have nc : (c == 0) = true := by simp [hc0]
            clear lc hc0
            clear hia hib hic
            go_wp2_with fail
            refine PCW.out.mono ?_
            rintro e w10 ⟨v10, M', rfl, ho10, hM', hb10⟩
            obtain rfl : M' = M := hM'.eq HIS.out
            obtain ⟨qa, qc, rfl, hqs⟩ := own_int ho10
            have hM4 := HM4.out
            have si := sameInts_any w10 _ _ qa ua M' M' qc uc hqs (HUW.out.fr (Fr.of_below hb10 (fun _ => False)) (fun _ _ h => h)) (by omega) (by omega)
            rw [decide_eq_true rfl] at si
            have SI := Lib.hid si
            have HBX := Lib.hid (HBW.out.trans (hb10.mono HBW.out.size))
            clear si hqs ho10 hM' hb10 hM4
            go_wp2_with fail
            refine SI.out.mono ?_
            rintro e w11 ⟨rfl, n11, rfl⟩
            go_wp2_with fail
            go_ret
            exact ⟨rfl, below_drewN HBX.out _⟩
          · have nc : (c == 0) = false := by simp [hc0]
            have lc := lc hc0 (by simp) hic
            clear hc0
            clear hia hib hic
            go_wp2_with fail
            refine PCW.out.mono ?_
            rintro e w10 ⟨v10, M', rfl, ho10, hM', hb10⟩
            obtain rfl : M' = M := hM'.eq HIS.out
            obtain ⟨qa, qc, rfl, hqs⟩ := own_int ho10
            have hM4 := HM4.out
            have si := sameInts_any w10 _ _ qa ua M' M' qc uc hqs (HUW.out.fr (Fr.of_below hb10 (fun _ => False)) (fun _ _ h => h)) (by omega) (by omega)
            rw [decide_eq_true rfl] at si
            have SI := Lib.hid si
            have HBX := Lib.hid (HBW.out.trans (hb10.mono HBW.out.size))
            clear si hqs ho10 hM' hb10 hM4
            go_wp2_with fail
            refine SI.out.mono ?_
            rintro e w11 ⟨rfl, n11, rfl⟩
            go_wp2_with fail
            go_ret
            exact ⟨rfl, below_drewN HBX.out _⟩
        · have nb : (b == 0) = false := by simp [hb0]
          have lb := lb hb0 (by simp) hib
          clear hb0
          by_cases hc0 : c = 0
          · have nc : (c == 0) = true := by simp [hc0]
            clear lc hc0
            clear hia hib hic
            go_wp2_with fail
            refine PCW.out.mono ?_
            rintro e w10 ⟨v10, M', rfl, ho10, hM', hb10⟩
            obtain rfl : M' = M := hM'.eq HIS.out
            obtain ⟨qa, qc, rfl, hqs⟩ := own_int ho10
            have hM4 := HM4.out
            have si := sameInts_any w10 _ _ qa ua M' M' qc uc hqs (HUW.out.fr (Fr.of_below hb10 (fun _ => False)) (fun _ _ h => h)) (by omega) (by omega)
            rw [decide_eq_true rfl] at si
            have SI := Lib.hid si
            have HBX := Lib.hid (HBW.out.trans (hb10.mono HBW.out.size))
            clear si hqs ho10 hM' hb10 hM4
            go_wp2_with fail
            refine SI.out.mono ?_
            rintro e w11 ⟨rfl, n11, rfl⟩
            go_wp2_with fail
            go_ret
            exact ⟨rfl, below_drewN HBX.out _⟩
          · have nc : (c == 0) = false := by simp [hc0]
            have lc := lc hc0 (by simp) hic
            clear hc0
            clear hia hib hic
            go_wp2_with fail
            refine PCW.out.mono ?_
            rintro e w10 ⟨v10, M', rfl, ho10, hM', hb10⟩
            obtain rfl : M' = M := hM'.eq HIS.out
            obtain ⟨qa, qc, rfl, hqs⟩ := own_int ho10
            have hM4 := HM4.out
            have si := sameInts_any w10 _ _ qa ua M' M' qc uc hqs (HUW.out.fr (Fr.of_below hb10 (fun _ => False)) (fun _ _ h => h)) (by omega) (by omega)
            rw [decide_eq_true rfl] at si
            have SI := Lib.hid si
            have HBX := Lib.hid (HBW.out.trans (hb10.mono HBW.out.size))
            clear si hqs ho10 hM' hb10 hM4
            go_wp2_with fail
            refine SI.out.mono ?_
            rintro e w11 ⟨rfl, n11, rfl⟩
            go_wp2_with fail
            go_ret
            exact ⟨rfl, below_drewN HBX.out _⟩
theorem own : ownKnob Tryz.prog.godebug = none := by kernel_rfl
theorem laidOut : laidOutB Tryz.prog = true := by kernel_rfl
set_option maxRecDepth 100000 in
theorem lifted (os : Os) (started : os.Started) (H : Type) (enc : TypeId × Value → H) :
    ReturnsInHanded {} Tryz.checked os 3 .any (Rows.rootsRecordsSpec.pre6 enc Tryz.prog Tryz.f3 Rows.rootsRecordsRow.domain false) (Rows.rootsRecordsSpec.post enc Tryz.prog Tryz.f3 false true false false) := by
  refine returnsInHanded_of_change (C := Tryz.checked) own started (by kernel_rfl) Tryz.func3
    (ChangeSpec.witness6 (enc := enc) (C := Tryz.checked) false ⟨#[], #[.int .i64 0, .int .i64 0, .int .i64 0, .int .i64 0], []⟩ 8 (by kernel_rfl) (by kernel_rfl) (by kernel_rfl) (by kernel_rfl)) ?_
  intro W base args ds gs before hval0 hW hcnd _
  have hval : ∀ (j : Nat) t v, Tryz.f3.params[j]? = some t → args[j]? = some v → Value.okWide Tryz.prog W .any base t v := hval0
  have hW' := hW
  obtain ⟨p, q, hA0, hV, rfl, hfz, hnd⟩ := hW
  have hA : DataW.TrodAll enc Tryz.prog W 0 (fun _ => true) true Tryz.f3.params.toList args.toList ds p := hA0
  rw [Tryz.params3] at hA hval
  obtain ⟨v0, vs0, d0, ds0, p0, q0, hargs, rfl, rfl, h0, r0⟩ := trodAll_cons hA
  obtain ⟨v1, vs1, d1, ds1, p1, q1, rfl, rfl, rfl, h1, r1⟩ := trodAll_cons r0
  obtain ⟨v2, vs2, d2, ds2, p2, q2, rfl, rfl, rfl, h2, r2⟩ := trodAll_cons r1
  obtain ⟨v3, vs3, d3, ds3, p3, q3, rfl, rfl, rfl, h3, r3⟩ := trodAll_cons r2
  obtain ⟨rfl, rfl, rfl⟩ := trodAll_nil r3
  obtain rfl : args = #[v0, v1, v2, v3] := by cases args; simp_all
  obtain ⟨a0, rfl, rfl, rfl, w0⟩ := open_int Tryz.underlying3 (hval 0 3 v0 rfl rfl) h0
  obtain ⟨a1, rfl, rfl, rfl, w1⟩ := open_int Tryz.underlying3 (hval 1 3 v1 rfl rfl) h1
  obtain ⟨a2, rfl, rfl, rfl, w2⟩ := open_int Tryz.underlying3 (hval 2 3 v2 rfl rfl) h2
  obtain ⟨a3, rfl, rfl, rfl, w3⟩ := open_int Tryz.underlying3 (hval 3 3 v3 rfl rfl) h3
  clear hA0 hval0
  simp only [List.append_nil] at hW'
  refine (walk W a0 w0 a1 w1 a2 w2 a3 w3).mono fun e W' ⟨he, hb⟩ => ?_
  subst he
  exact ⟨_, rfl, law_post laidOut (by kernel_rfl) rfl Tryz.underlying4 hW' rfl (fun ds h => by match ds, h with | [_, _, _, _], _ => rfl) hb⟩
theorem over : Rows.rootsRecordsRow.holds Tryz.pinned (OpenSpec.ofChange Rows.rootsRecordsSpec) :=
  OpenClaim.holds_of_wide 3 Tryz.f3 rfl rfl rfl rfl rfl rfl rfl ⟨rfl, rfl, rfl, rfl, rfl⟩ rfl rfl rfl rfl rfl (by kernel_rfl) Tryz.func3 (by kernel_rfl)
    (of_decide_eq_true (by kernel_rfl)) (by unfold Func.isWrapper; first | (rw [if_pos (by decide +kernel)]; kernel_rfl) | (rw [if_neg (by decide +kernel)]; exact ⟨rfl, rfl⟩))
    (fun os started H enc _ => lifted os started H enc)
theorem proved : Rows.RootsRecordsSaid := over
#print axioms proved
end Go.Proofs.YtknbllbhakpaaaaGreat.rootsRecords
