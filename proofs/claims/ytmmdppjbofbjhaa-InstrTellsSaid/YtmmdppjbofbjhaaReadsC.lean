/- Walk: the reference's answer to which slots an instruction reads. -/
import Derived.Test.YtmmdppjbofbjhaaReadsB
namespace Go.Proofs.Ytmmdppjbofbjhaa
open Go.ChangeShapes Go.WideShapes Go.ChangeAt Go.RowKit

theorem Own.drewN {P : Program} {α : Type} {E : Elem P α} {w : World} {B : Nat} {v : Value} {l : List α} (h : Own E w B v l) (n : Nat) : Own E (w.drewN n) B v l := h
set_option maxRecDepth 100000 in
set_option maxHeartbeats 8000000 in
theorem rreads_bc (w : World) (op a b c args : Int) (hop : op ∈ [3,4,5,6,7,8]) : Calls Try.prog 55 #[.agg #[.int .i64 op, .int .i64 a, .int .i64 b, .int .i64 c], .int .i64 args] w (ReadsSaid ⟨op, a, b, c⟩ args w) := by
  simp only [List.mem_cons, List.not_mem_nil, or_false] at hop
  have hfin : readsL ⟨op, a, b, c⟩ args = onceL [b, c] := by rcases hop with rfl|rfl|rfl|rfl|rfl|rfl <;> rfl
  have HFIN := Lib.hid hfin; clear hfin
  have hby := box2 w #[.int .i64 op, .int .i64 a, .int .i64 b, .int .i64 c] #[.int .i64 b, .int .i64 c] 58 3
  obtain ⟨W0, hW0⟩ : ∃ W0, W0 = (w.alloc (.cells #[.int .i64 op, .int .i64 a, .int .i64 b, .int .i64 c] 58)).alloc (.cells #[.int .i64 b, .int .i64 c] 3) := ⟨_, rfl⟩
  rw [← hW0] at hby
  have HBY := Lib.hid hby; clear hby
  have HW0 := Lib.hid hW0; clear hW0
  rcases hop with rfl|rfl|rfl|rfl|rfl|rfl
  all_goals
    go_enter Try.func55, Try.ntmps55
    go_wp2_with fail
    rw [← HW0.out]
    go_loopw [7, 8] (fun v i wr => ∃ k : Nat, k ≤ 2 ∧ i = .int .i64 k ∧ Own intE wr (w.heap.size + 2) v (onceL ([b, c].take k)) ∧ Below (w.heap.size + 2) W0 wr) (fun _ i _ => 2 - (intOf i).toNat)
    case atStart => exact ⟨0, by omega, rfl, Own.nil _ _ _, Below.refl _ _⟩
    case round =>
      obtain ⟨k, hk, rfl, hown, hB⟩ := hrel
      obtain ⟨hx1, hx2, hbw, hsz⟩ := HBY.out wr hB
      have d0 := hx1 0 _ rfl
      have d1 := hx2 0 _ rfl
      have d2 := hx2 1 _ rfl
      clear hx1 hx2
      match k, hk with
      | 0, _ =>
        have HOWN := Lib.hid (show Own intE wr (w.heap.size + 2) _ [] from hown); clear hown
        have HB := Lib.hid hB; clear hB
        go_wp2_with fail
        go_quiet (fail)
        go_wp2_with (at_builtin; refine append_own intE rfl (.tmp 104) (.tmp 109) rfl (w.heap.size + 2) _ [b] _ rfl ((HOWN.out.drewN _).alloc _) _ 0 1 rfl (CellsAt.new _ _ _ _) ?c1 ?c2 ?_)
        case c1 => simp
        case c2 => simp; omega
        intro v2 w2 hown2 hg2
        have hB2 := Lib.hid (below_grown ((below_drewN HB.out _).alloc (by simp; omega) _) ((HOWN.out.drewN _).alloc _) hg2 (by simp; omega) (Nat.le_refl _))
        have HO2 := Lib.hid hown2; clear hown2 hg2
        go_wp2_with fail
        go_roundw
        case rel => exact ⟨0 + 1, by omega, by first | rfl | go_num, by skip; exact HO2.out, hB2.out⟩
        case measure => simp [intOf]
      | 1, _ =>
        have HOWN := Lib.hid (show Own intE wr (w.heap.size + 2) _ [b] from hown); clear hown
        have HB := Lib.hid hB; clear hB
        by_cases hxy : c = b
        · have e : onceL ([b, c].take 2) = [b] := by simp [onceL, hxy]
          have hne : (c != b) = false := by simpa using hxy
          have E := Lib.hid e; clear e
          clear hxy
          go_wp2_with fail
          go_quiet (fail)
          go_wp2_with fail
          go_roundw
          case rel => exact ⟨2, by omega, rfl, by rw [E.out]; exact HOWN.out, below_drewN HB.out _⟩
          case measure => simp [intOf]
        · have e : onceL ([b, c].take (1 + 1)) = [b, c] := by simp [onceL, hxy]
          have hne : (c != b) = true := by simpa using hxy
          have E := Lib.hid e; clear e
          clear hxy
          go_wp2_with fail
          go_quiet (fail)
          go_wp2_with (at_builtin; refine append_own intE rfl (.tmp 104) (.tmp 109) rfl (w.heap.size + 2) _ [c] _ rfl ((HOWN.out.drewN _).alloc _) _ 0 1 rfl (CellsAt.new _ _ _ _) ?c1 ?c2 ?_)
          case c1 => simp
          case c2 => simp; omega
          intro v2 w2 hown2 hg2
          have hB2 := Lib.hid (below_grown ((below_drewN HB.out _).alloc (by simp; omega) _) ((HOWN.out.drewN _).alloc _) hg2 (by simp; omega) (Nat.le_refl _))
          have HO2 := Lib.hid hown2; clear hown2 hg2
          go_wp2_with fail
          go_roundw
          case rel => exact ⟨1 + 1, by omega, by first | rfl | go_num, by rw [E.out]; exact HO2.out, hB2.out⟩
          case measure => simp [intOf]
      | 2, _ =>
        have hown : Own intE wr (w.heap.size + 2) _ (onceL [b, c]) := hown
        clear d1 d2
        have hP : ∀ v, Own intE wr (w.heap.size + 2) v (onceL [b,c]) → ReadsSaid ⟨_, a, b, c⟩ args w (.returned v) wr := fun v hv => ⟨v, rfl, by rw [HFIN.out]; exact Own.base hv (fun k hk => by have := (hv.lt hk).1; omega), hbw⟩
        have HP := Lib.hid (hP _ hown)
        clear hP hown hB hbw d0
        go_wp2_with fail
        go_ret
        exact HP.out
set_option maxRecDepth 100000 in
set_option maxHeartbeats 8000000 in
theorem rreads_ac (w : World) (op a b c args : Int) (hop : op ∈ [15,20]) : Calls Try.prog 55 #[.agg #[.int .i64 op, .int .i64 a, .int .i64 b, .int .i64 c], .int .i64 args] w (ReadsSaid ⟨op, a, b, c⟩ args w) := by
  simp only [List.mem_cons, List.not_mem_nil, or_false] at hop
  have hfin : readsL ⟨op, a, b, c⟩ args = onceL [a, c] := by rcases hop with rfl|rfl <;> rfl
  have HFIN := Lib.hid hfin; clear hfin
  have hby := box2 w #[.int .i64 op, .int .i64 a, .int .i64 b, .int .i64 c] #[.int .i64 a, .int .i64 c] 58 3
  obtain ⟨W0, hW0⟩ : ∃ W0, W0 = (w.alloc (.cells #[.int .i64 op, .int .i64 a, .int .i64 b, .int .i64 c] 58)).alloc (.cells #[.int .i64 a, .int .i64 c] 3) := ⟨_, rfl⟩
  rw [← hW0] at hby
  have HBY := Lib.hid hby; clear hby
  have HW0 := Lib.hid hW0; clear hW0
  rcases hop with rfl|rfl
  all_goals
    go_enter Try.func55, Try.ntmps55
    go_wp2_with fail
    rw [← HW0.out]
    go_loopw [7, 8] (fun v i wr => ∃ k : Nat, k ≤ 2 ∧ i = .int .i64 k ∧ Own intE wr (w.heap.size + 2) v (onceL ([a, c].take k)) ∧ Below (w.heap.size + 2) W0 wr) (fun _ i _ => 2 - (intOf i).toNat)
    case atStart => exact ⟨0, by omega, rfl, Own.nil _ _ _, Below.refl _ _⟩
    case round =>
      obtain ⟨k, hk, rfl, hown, hB⟩ := hrel
      obtain ⟨hx1, hx2, hbw, hsz⟩ := HBY.out wr hB
      have d0 := hx1 0 _ rfl
      have d1 := hx2 0 _ rfl
      have d2 := hx2 1 _ rfl
      clear hx1 hx2
      match k, hk with
      | 0, _ =>
        have HOWN := Lib.hid (show Own intE wr (w.heap.size + 2) _ [] from hown); clear hown
        have HB := Lib.hid hB; clear hB
        go_wp2_with fail
        go_quiet (fail)
        go_wp2_with (at_builtin; refine append_own intE rfl (.tmp 104) (.tmp 109) rfl (w.heap.size + 2) _ [a] _ rfl ((HOWN.out.drewN _).alloc _) _ 0 1 rfl (CellsAt.new _ _ _ _) ?c1 ?c2 ?_)
        case c1 => simp
        case c2 => simp; omega
        intro v2 w2 hown2 hg2
        have hB2 := Lib.hid (below_grown ((below_drewN HB.out _).alloc (by simp; omega) _) ((HOWN.out.drewN _).alloc _) hg2 (by simp; omega) (Nat.le_refl _))
        have HO2 := Lib.hid hown2; clear hown2 hg2
        go_wp2_with fail
        go_roundw
        case rel => exact ⟨0 + 1, by omega, by first | rfl | go_num, by skip; exact HO2.out, hB2.out⟩
        case measure => simp [intOf]
      | 1, _ =>
        have HOWN := Lib.hid (show Own intE wr (w.heap.size + 2) _ [a] from hown); clear hown
        have HB := Lib.hid hB; clear hB
        by_cases hxy : c = a
        · have e : onceL ([a, c].take 2) = [a] := by simp [onceL, hxy]
          have hne : (c != a) = false := by simpa using hxy
          have E := Lib.hid e; clear e
          clear hxy
          go_wp2_with fail
          go_quiet (fail)
          go_wp2_with fail
          go_roundw
          case rel => exact ⟨2, by omega, rfl, by rw [E.out]; exact HOWN.out, below_drewN HB.out _⟩
          case measure => simp [intOf]
        · have e : onceL ([a, c].take (1 + 1)) = [a, c] := by simp [onceL, hxy]
          have hne : (c != a) = true := by simpa using hxy
          have E := Lib.hid e; clear e
          clear hxy
          go_wp2_with fail
          go_quiet (fail)
          go_wp2_with (at_builtin; refine append_own intE rfl (.tmp 104) (.tmp 109) rfl (w.heap.size + 2) _ [c] _ rfl ((HOWN.out.drewN _).alloc _) _ 0 1 rfl (CellsAt.new _ _ _ _) ?c1 ?c2 ?_)
          case c1 => simp
          case c2 => simp; omega
          intro v2 w2 hown2 hg2
          have hB2 := Lib.hid (below_grown ((below_drewN HB.out _).alloc (by simp; omega) _) ((HOWN.out.drewN _).alloc _) hg2 (by simp; omega) (Nat.le_refl _))
          have HO2 := Lib.hid hown2; clear hown2 hg2
          go_wp2_with fail
          go_roundw
          case rel => exact ⟨1 + 1, by omega, by first | rfl | go_num, by rw [E.out]; exact HO2.out, hB2.out⟩
          case measure => simp [intOf]
      | 2, _ =>
        have hown : Own intE wr (w.heap.size + 2) _ (onceL [a, c]) := hown
        clear d1 d2
        have hP : ∀ v, Own intE wr (w.heap.size + 2) v (onceL [a,c]) → ReadsSaid ⟨_, a, b, c⟩ args w (.returned v) wr := fun v hv => ⟨v, rfl, by rw [HFIN.out]; exact Own.base hv (fun k hk => by have := (hv.lt hk).1; omega), hbw⟩
        have HP := Lib.hid (hP _ hown)
        clear hP hown hB hbw d0
        go_wp2_with fail
        go_ret
        exact HP.out
set_option maxRecDepth 100000 in
set_option maxHeartbeats 8000000 in
theorem rreads_ab (w : World) (op a b c args : Int) (hop : op ∈ [25]) : Calls Try.prog 55 #[.agg #[.int .i64 op, .int .i64 a, .int .i64 b, .int .i64 c], .int .i64 args] w (ReadsSaid ⟨op, a, b, c⟩ args w) := by
  simp only [List.mem_cons, List.not_mem_nil, or_false] at hop
  have hfin : readsL ⟨op, a, b, c⟩ args = onceL [a, b] := by rcases hop with rfl <;> rfl
  have HFIN := Lib.hid hfin; clear hfin
  have hby := box2 w #[.int .i64 op, .int .i64 a, .int .i64 b, .int .i64 c] #[.int .i64 a, .int .i64 b] 58 3
  obtain ⟨W0, hW0⟩ : ∃ W0, W0 = (w.alloc (.cells #[.int .i64 op, .int .i64 a, .int .i64 b, .int .i64 c] 58)).alloc (.cells #[.int .i64 a, .int .i64 b] 3) := ⟨_, rfl⟩
  rw [← hW0] at hby
  have HBY := Lib.hid hby; clear hby
  have HW0 := Lib.hid hW0; clear hW0
  rcases hop with rfl
  all_goals
    go_enter Try.func55, Try.ntmps55
    go_wp2_with fail
    rw [← HW0.out]
    go_loopw [7, 8] (fun v i wr => ∃ k : Nat, k ≤ 2 ∧ i = .int .i64 k ∧ Own intE wr (w.heap.size + 2) v (onceL ([a, b].take k)) ∧ Below (w.heap.size + 2) W0 wr) (fun _ i _ => 2 - (intOf i).toNat)
    case atStart => exact ⟨0, by omega, rfl, Own.nil _ _ _, Below.refl _ _⟩
    case round =>
      obtain ⟨k, hk, rfl, hown, hB⟩ := hrel
      obtain ⟨hx1, hx2, hbw, hsz⟩ := HBY.out wr hB
      have d0 := hx1 0 _ rfl
      have d1 := hx2 0 _ rfl
      have d2 := hx2 1 _ rfl
      clear hx1 hx2
      match k, hk with
      | 0, _ =>
        have HOWN := Lib.hid (show Own intE wr (w.heap.size + 2) _ [] from hown); clear hown
        have HB := Lib.hid hB; clear hB
        go_wp2_with fail
        go_quiet (fail)
        go_wp2_with (at_builtin; refine append_own intE rfl (.tmp 104) (.tmp 109) rfl (w.heap.size + 2) _ [a] _ rfl ((HOWN.out.drewN _).alloc _) _ 0 1 rfl (CellsAt.new _ _ _ _) ?c1 ?c2 ?_)
        case c1 => simp
        case c2 => simp; omega
        intro v2 w2 hown2 hg2
        have hB2 := Lib.hid (below_grown ((below_drewN HB.out _).alloc (by simp; omega) _) ((HOWN.out.drewN _).alloc _) hg2 (by simp; omega) (Nat.le_refl _))
        have HO2 := Lib.hid hown2; clear hown2 hg2
        go_wp2_with fail
        go_roundw
        case rel => exact ⟨0 + 1, by omega, by first | rfl | go_num, by skip; exact HO2.out, hB2.out⟩
        case measure => simp [intOf]
      | 1, _ =>
        have HOWN := Lib.hid (show Own intE wr (w.heap.size + 2) _ [a] from hown); clear hown
        have HB := Lib.hid hB; clear hB
        by_cases hxy : b = a
        · have e : onceL ([a, b].take 2) = [a] := by simp [onceL, hxy]
          have hne : (b != a) = false := by simpa using hxy
          have E := Lib.hid e; clear e
          clear hxy
          go_wp2_with fail
          go_quiet (fail)
          go_wp2_with fail
          go_roundw
          case rel => exact ⟨2, by omega, rfl, by rw [E.out]; exact HOWN.out, below_drewN HB.out _⟩
          case measure => simp [intOf]
        · have e : onceL ([a, b].take (1 + 1)) = [a, b] := by simp [onceL, hxy]
          have hne : (b != a) = true := by simpa using hxy
          have E := Lib.hid e; clear e
          clear hxy
          go_wp2_with fail
          go_quiet (fail)
          go_wp2_with (at_builtin; refine append_own intE rfl (.tmp 104) (.tmp 109) rfl (w.heap.size + 2) _ [b] _ rfl ((HOWN.out.drewN _).alloc _) _ 0 1 rfl (CellsAt.new _ _ _ _) ?c1 ?c2 ?_)
          case c1 => simp
          case c2 => simp; omega
          intro v2 w2 hown2 hg2
          have hB2 := Lib.hid (below_grown ((below_drewN HB.out _).alloc (by simp; omega) _) ((HOWN.out.drewN _).alloc _) hg2 (by simp; omega) (Nat.le_refl _))
          have HO2 := Lib.hid hown2; clear hown2 hg2
          go_wp2_with fail
          go_roundw
          case rel => exact ⟨1 + 1, by omega, by first | rfl | go_num, by rw [E.out]; exact HO2.out, hB2.out⟩
          case measure => simp [intOf]
      | 2, _ =>
        have hown : Own intE wr (w.heap.size + 2) _ (onceL [a, b]) := hown
        clear d1 d2
        have hP : ∀ v, Own intE wr (w.heap.size + 2) v (onceL [a,b]) → ReadsSaid ⟨_, a, b, c⟩ args w (.returned v) wr := fun v hv => ⟨v, rfl, by rw [HFIN.out]; exact Own.base hv (fun k hk => by have := (hv.lt hk).1; omega), hbw⟩
        have HP := Lib.hid (hP _ hown)
        clear hP hown hB hbw d0
        go_wp2_with fail
        go_ret
        exact HP.out
end Go.Proofs.Ytmmdppjbofbjhaa
