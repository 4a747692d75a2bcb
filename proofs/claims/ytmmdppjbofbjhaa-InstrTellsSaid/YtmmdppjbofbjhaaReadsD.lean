/- Walk: the reference's answer to which slots an instruction reads: the others. -/
import Derived.Test.YtmmdppjbofbjhaaReadsC
namespace Go.Proofs.Ytmmdppjbofbjhaa
open Go.ChangeShapes Go.WideShapes Go.ChangeAt Go.RowKit

set_option maxRecDepth 100000 in
set_option maxHeartbeats 8000000 in
theorem rreads_b (w : World) (op a b c args : Int) (hop : op ∈ [2,12,14,17,19]) : Calls Try.prog 55 #[.agg #[.int .i64 op, .int .i64 a, .int .i64 b, .int .i64 c], .int .i64 args] w (ReadsSaid ⟨op, a, b, c⟩ args w) := by
  simp only [List.mem_cons, List.not_mem_nil, or_false] at hop
  have hfin : readsL ⟨op, a, b, c⟩ args = onceL [b] := by rcases hop with rfl|rfl|rfl|rfl|rfl <;> rfl
  have HFIN := Lib.hid hfin; clear hfin
  have hby := box2 w #[.int .i64 op, .int .i64 a, .int .i64 b, .int .i64 c] #[.int .i64 b] 58 3
  obtain ⟨W0, hW0⟩ : ∃ W0, W0 = (w.alloc (.cells #[.int .i64 op, .int .i64 a, .int .i64 b, .int .i64 c] 58)).alloc (.cells #[.int .i64 b] 3) := ⟨_, rfl⟩
  rw [← hW0] at hby
  have HBY := Lib.hid hby; clear hby
  have HW0 := Lib.hid hW0; clear hW0
  rcases hop with rfl|rfl|rfl|rfl|rfl
  all_goals
    go_enter Try.func55, Try.ntmps55
    go_wp2_with fail
    rw [← HW0.out]
    go_loopw [7, 8] (fun v i wr => ∃ k : Nat, k ≤ 1 ∧ i = .int .i64 k ∧ Own intE wr (w.heap.size + 2) v (onceL ([b].take k)) ∧ Below (w.heap.size + 2) W0 wr) (fun _ i _ => 1 - (intOf i).toNat)
    case atStart => exact ⟨0, by omega, rfl, Own.nil _ _ _, Below.refl _ _⟩
    case round =>
      obtain ⟨k, hk, rfl, hown, hB⟩ := hrel
      obtain ⟨hx1, hx2, hbw, hsz⟩ := HBY.out wr hB
      have d0 := hx1 0 _ rfl
      have d1 := hx2 0 _ rfl
      clear hx1 hx2
      match k, hk with
      | 0, _ =>
        have HOWN := Lib.hid (show Own intE wr (w.heap.size + 2) _ [] from hown); clear hown
        have HB := Lib.hid hB; clear hB
        go_wp2_with fail
        go_quiet (fail)
        go_wp2_with (at_builtin; refine append_own intE rfl (.tmp 104) (.tmp 109) rfl (w.heap.size + 2) _ [b] _ rfl ((HOWN.out.drewN _).alloc _) _ 0 1 rfl (CellsAt.new _ _ _ _) ?c1 ?c2 ?_)
        case c1 => simp
        case c2 => simp; omega
        intro v2 w2 hown2 hg2
        have hB2 := Lib.hid (below_grown ((below_drewN HB.out _).alloc (by simp; omega) _) ((HOWN.out.drewN _).alloc _) hg2 (by simp; omega) (Nat.le_refl _))
        have HO2 := Lib.hid hown2; clear hown2 hg2
        go_wp2_with fail
        go_roundw
        case rel => exact ⟨0 + 1, by omega, by first | rfl | go_num, by skip; exact HO2.out, hB2.out⟩
        case measure => simp [intOf]
      | 1, _ =>
        have hown : Own intE wr (w.heap.size + 2) _ (onceL [b]) := hown
        clear d1
        have hP : ∀ v, Own intE wr (w.heap.size + 2) v (onceL [b]) → ReadsSaid ⟨_, a, b, c⟩ args w (.returned v) wr := fun v hv => ⟨v, rfl, by rw [HFIN.out]; exact Own.base hv (fun k hk => by have := (hv.lt hk).1; omega), hbw⟩
        have HP := Lib.hid (hP _ hown)
        clear hP hown hB hbw d0
        go_wp2_with fail
        go_ret
        exact HP.out
set_option maxRecDepth 100000 in
set_option maxHeartbeats 8000000 in
theorem rreads_a (w : World) (op a b c args : Int) (hop : op ∈ [10,29]) : Calls Try.prog 55 #[.agg #[.int .i64 op, .int .i64 a, .int .i64 b, .int .i64 c], .int .i64 args] w (ReadsSaid ⟨op, a, b, c⟩ args w) := by
  simp only [List.mem_cons, List.not_mem_nil, or_false] at hop
  have hfin : readsL ⟨op, a, b, c⟩ args = onceL [a] := by rcases hop with rfl|rfl <;> rfl
  have HFIN := Lib.hid hfin; clear hfin
  have hby := box2 w #[.int .i64 op, .int .i64 a, .int .i64 b, .int .i64 c] #[.int .i64 a] 58 3
  obtain ⟨W0, hW0⟩ : ∃ W0, W0 = (w.alloc (.cells #[.int .i64 op, .int .i64 a, .int .i64 b, .int .i64 c] 58)).alloc (.cells #[.int .i64 a] 3) := ⟨_, rfl⟩
  rw [← hW0] at hby
  have HBY := Lib.hid hby; clear hby
  have HW0 := Lib.hid hW0; clear hW0
  rcases hop with rfl|rfl
  all_goals
    go_enter Try.func55, Try.ntmps55
    go_wp2_with fail
    rw [← HW0.out]
    go_loopw [7, 8] (fun v i wr => ∃ k : Nat, k ≤ 1 ∧ i = .int .i64 k ∧ Own intE wr (w.heap.size + 2) v (onceL ([a].take k)) ∧ Below (w.heap.size + 2) W0 wr) (fun _ i _ => 1 - (intOf i).toNat)
    case atStart => exact ⟨0, by omega, rfl, Own.nil _ _ _, Below.refl _ _⟩
    case round =>
      obtain ⟨k, hk, rfl, hown, hB⟩ := hrel
      obtain ⟨hx1, hx2, hbw, hsz⟩ := HBY.out wr hB
      have d0 := hx1 0 _ rfl
      have d1 := hx2 0 _ rfl
      clear hx1 hx2
      match k, hk with
      | 0, _ =>
        have HOWN := Lib.hid (show Own intE wr (w.heap.size + 2) _ [] from hown); clear hown
        have HB := Lib.hid hB; clear hB
        go_wp2_with fail
        go_quiet (fail)
        go_wp2_with (at_builtin; refine append_own intE rfl (.tmp 104) (.tmp 109) rfl (w.heap.size + 2) _ [a] _ rfl ((HOWN.out.drewN _).alloc _) _ 0 1 rfl (CellsAt.new _ _ _ _) ?c1 ?c2 ?_)
        case c1 => simp
        case c2 => simp; omega
        intro v2 w2 hown2 hg2
        have hB2 := Lib.hid (below_grown ((below_drewN HB.out _).alloc (by simp; omega) _) ((HOWN.out.drewN _).alloc _) hg2 (by simp; omega) (Nat.le_refl _))
        have HO2 := Lib.hid hown2; clear hown2 hg2
        go_wp2_with fail
        go_roundw
        case rel => exact ⟨0 + 1, by omega, by first | rfl | go_num, by skip; exact HO2.out, hB2.out⟩
        case measure => simp [intOf]
      | 1, _ =>
        have hown : Own intE wr (w.heap.size + 2) _ (onceL [a]) := hown
        clear d1
        have hP : ∀ v, Own intE wr (w.heap.size + 2) v (onceL [a]) → ReadsSaid ⟨_, a, b, c⟩ args w (.returned v) wr := fun v hv => ⟨v, rfl, by rw [HFIN.out]; exact Own.base hv (fun k hk => by have := (hv.lt hk).1; omega), hbw⟩
        have HP := Lib.hid (hP _ hown)
        clear hP hown hB hbw d0
        go_wp2_with fail
        go_ret
        exact HP.out
set_option maxRecDepth 100000 in
set_option maxHeartbeats 4000000 in
theorem rreads_none (w : World) (op a b c args : Int) (hop : op ∉ [2, 12, 14, 17, 19, 3, 4, 5, 6, 7, 8, 10, 29, 15, 20, 25, 21, 23, 24]) : Calls Try.prog 55 #[.agg #[.int .i64 op, .int .i64 a, .int .i64 b, .int .i64 c], .int .i64 args] w (ReadsSaid ⟨op, a, b, c⟩ args w) := by
  have hfin : readsL ⟨op, a, b, c⟩ args = [] := by
    simp at hop
    simp [readsL, hop]
  simp at hop
  obtain ⟨e0, e1, e2, e3, e4, e5, e6, e7, e8, e9, e10, e11, e12, e13, e14, e15, e16, e17, e18⟩ := hop
  have HFIN := Lib.hid hfin; clear hfin
  have hP : ReadsSaid ⟨op, a, b, c⟩ args w (.returned (.slice none 0 0)) (w.alloc (.cells #[.int .i64 op, .int .i64 a, .int .i64 b, .int .i64 c] 58)) := ⟨_, rfl, by rw [HFIN.out]; exact Own.nil _ _ _, (Below.refl _ _).alloc (Nat.le_refl _) _⟩
  obtain ⟨W0, hW0⟩ : ∃ W0, W0 = w.alloc (.cells #[.int .i64 op, .int .i64 a, .int .i64 b, .int .i64 c] 58) := ⟨_, rfl⟩
  rw [← hW0] at hP
  have HP := Lib.hid hP; clear hP
  have HW0 := Lib.hid hW0; clear hW0
  go_enter Try.func55, Try.ntmps55
  go_wp2_with fail
  rw [← HW0.out]
  clear e0 e1 e2 e3 e4 e5 e6 e7 e8 e9 e10 e11 e12 e13 e14 e15 e16 e17 e18
  go_loopw [7, 8] (fun v i wr => v = .slice none 0 0 ∧ i = .int .i64 0 ∧ wr = W0) (fun _ i _ => 0)
  case atStart => exact ⟨rfl, rfl, rfl⟩
  case round =>
    obtain ⟨rfl, rfl, rfl⟩ := hrel
    go_wp2_with fail
    go_ret
    exact HP.out
end Go.Proofs.Ytmmdppjbofbjhaa
