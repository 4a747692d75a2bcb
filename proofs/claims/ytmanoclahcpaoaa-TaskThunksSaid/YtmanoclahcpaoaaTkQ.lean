/- Walks: stack.Fit, stack.New. -/
import Derived.Test.YtmanoclahcpaoaaTkP
namespace Go.Proofs.Ytmanoclahcpaoaa
open Go.ChangeShapes Go.WideShapes Go.ChangeAt Go.RowKit Go.Maps

set_option maxRecDepth 100000 in
theorem fit_stay (w : World) (first need : Int) (h1 : 1 ≤ first) (h2 : need ≤ first) (h3 : first ≤ 1000000) :
    Calls Try.prog 24 #[.int .i64 first, .int .i64 need] w fun e w' => e = .returned (.int .i64 first) ∧ w = w' := by
  have n1 : ¬ first < 1 := by omega
  have n2 : ¬ first < need := by omega
  have n3 : ¬ 1000000 < first := by omega
  go_enter Try.func24, Try.ntmps24
  go_wp2_with fail
  go_loopw [0] (fun v wr => v = .int .i64 first ∧ wr = w) (fun _ _ => 0)
  case atStart => exact ⟨rfl, by first | rfl | trivial⟩
  case round =>
    obtain ⟨rfl, rfl⟩ := hrel
    go_wp2_with fail
    go_ret
    exact ⟨rfl, by first | rfl | trivial⟩
set_option maxRecDepth 100000 in
theorem fit24 (w : World) :
    Calls Try.prog 24 #[.int .i64 2, .int .i64 4] w fun e w' => e = .returned (.int .i64 4) ∧ w = w' := by
  go_enter Try.func24, Try.ntmps24
  go_wp2_with fail
  go_loopw [0] (fun v wr => (v = .int .i64 2 ∨ v = .int .i64 4) ∧ wr = w) (fun v _ => 4 - (intOf v).toNat)
  case atStart => exact ⟨.inl rfl, by first | rfl | trivial⟩
  case round =>
    obtain ⟨h, rfl⟩ := hrel
    rcases h with rfl | rfl
    · go_wp2_with fail
      go_roundw
      case rel => exact ⟨.inr (by first | rfl | go_num), by first | rfl | trivial⟩
      case measure => first | decide | (simp [intOf]; done) | (simp [intOf]; omega)
    · go_wp2_with fail
      go_ret
      exact ⟨rfl, by first | rfl | trivial⟩
set_option maxRecDepth 100000 in
theorem make_ints (w : World) (n : Nat) (hn : n ≤ 100000) : (Instr.makeSlice 23 (.int .i64 n) (.int .i64 n)).run Try.prog w = .ok (.slice (some ⟨w.heap.size, 0, none⟩) n n) (w.alloc (intRow (List.replicate n 0) 3)) := by
  obtain ⟨i0, hi, hz0, hz1, hz2⟩ := info_parts intE.info
  have h := run_makeSlice (P := Try.prog) (w := w) 23 3 i0 (.int .i64 0) Try.underlying23 hi hz0 .i64 .i64 (n : Int) (n : Int) (by omega) (Int.le_refl _) (by rw [hz1]; show (n : Int).toNat * 1 ≤ 16777216; omega) (by rw [hz2]; show (8 : Int) * (n : Int) ≤ 281474976710656; omega) (by omega)
  rw [h]
  simp only [Int.toNat_natCast, hz1]
  have e : madeCells (Value.int .i64 0).cells (n * intE.size) = ((List.replicate n (0 : Int)).map (Value.int .i64)).toArray := by
    show madeCells #[Value.int .i64 0] (n * 1) = _
    unfold madeCells
    apply Array.ext
    · simp
    · intro i h1 h2
      simp [Nat.mod_one]
  rw [e]
  rfl
set_option maxRecDepth 100000 in
set_option maxHeartbeats 1600000 in
theorem stNew_any (w : World) (serial : Nat) (hs : serial ≤ 100000) (n : Nat) (h1 : 1 ≤ n) (h2 : n ≤ 4096) :
    Calls Try.prog 25 #[.int .i64 serial, .int .i64 n] w fun e w' => ∃ sb wb, e = .returned (.pointer (some ⟨sb, 0, none⟩)) ∧ StAt w' sb wb (1073741824 + (serial : Int) * 8192) (List.replicate n 0) ∧ w.heap.size ≤ sb ∧ w.heap.size ≤ wb ∧ sb < w'.heap.size ∧ wb < w'.heap.size ∧ Below w.heap.size w w' := by
  have mk := fun w => make_ints w n (by omega)
  have n1 : ¬ (serial : Int) < 0 := by omega
  have n2 : ¬ (100000 : Int) < (serial : Int) := by omega
  have n3 : ¬ (n : Int) < 1 := by omega
  have n4 : ¬ (4096 : Int) < (n : Int) := by omega
  have m1 : (0 : Int) ≤ (serial : Int) := by omega
  have m2 : (serial : Int) ≤ 100000 := by omega
  have m3 : (1 : Int) ≤ (n : Int) := by omega
  have m4 : (n : Int) ≤ 4096 := by omega
  go_enter Try.func25, Try.ntmps25
  go_wp2_with fail
  go_ret
  have hr1 := heap_new (w.alloc (intRow (List.replicate n 0) 3)) (.cells #[.int .i64 (1073741824 + (serial : Int) * 8192), .slice (some ⟨w.heap.size, 0, none⟩) n n] 95)
  rw [show (w.alloc (intRow (List.replicate n 0) 3)).heap.size = w.heap.size + 1 from by simp] at hr1
  have hr2 := row_alloc (heap_new w (intRow (List.replicate n 0) 3)) (.cells #[.int .i64 (1073741824 + (serial : Int) * 8192), .slice (some ⟨w.heap.size, 0, none⟩) n n] 95)
  refine ⟨w.heap.size + 1, rfl, w.heap.size, ⟨?_, hr2⟩, ?_⟩
  · rw [List.length_replicate]
    exact hr1
  · refine ⟨by omega, Nat.le_refl _, by simp, by simp; omega, ((Below.refl _ _).alloc (Nat.le_refl _) _).alloc (by simp) _⟩
end Go.Proofs.Ytmanoclahcpaoaa
