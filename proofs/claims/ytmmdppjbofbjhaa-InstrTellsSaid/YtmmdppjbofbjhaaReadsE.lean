/- Walk: the reference's answer to which slots an instruction reads: of calls; of all. -/
import Derived.Test.YtmmdppjbofbjhaaReadsD
namespace Go.Proofs.Ytmmdppjbofbjhaa
open Go.ChangeShapes Go.WideShapes Go.ChangeAt Go.RowKit

theorem int_cells {w : World} {B : Nat} {v : Value} {l : List Int} (h : Own intE w B v l) (hne : 1 ≤ l.length) : ∃ g c, v = .slice (some ⟨g, 0, none⟩) l.length c ∧ B ≤ g ∧ g < w.heap.size ∧ ∀ j (hj : j < l.length), w.cell? ⟨g, j, none⟩ = some (.int .i64 l[j]) := by
  obtain ⟨g, c, rfl, h1, h2, _⟩ := h.cells hne
  refine ⟨g, c, rfl, h1, h2, fun j hj => ?_⟩
  obtain ⟨a', c', he, hsl⟩ := own_int h
  injection he with e1 e2 e3
  obtain ⟨b, o, e, _, hc⟩ := hsl j hj
  rw [← e1] at e
  injection e with e
  injection e with e4 e5
  subst e4 e5
  rw [Nat.zero_add] at hc
  exact hc
theorem argSlots_get (c : Int) (n j : Nat) (hj : j < (argSlots c n).length) : (argSlots c n)[j] = wrap64 (c + (j : Int)) := by simp [argSlots]
set_option maxRecDepth 100000 in
set_option maxHeartbeats 4000000 in
theorem rreads_call (w : World) (op a b c args : Int) (hop : op ∈ [21, 23, 24]) : Calls Try.prog 55 #[.agg #[.int .i64 op, .int .i64 a, .int .i64 b, .int .i64 c], .int .i64 args] w (ReadsSaid ⟨op, a, b, c⟩ args w) := by
  have hfin : readsL ⟨op, a, b, c⟩ args = argSlots c (nArgs args) := by
    simp only [List.mem_cons, List.not_mem_nil, or_false] at hop
    rcases hop with rfl | rfl | rfl <;> rfl
  have hbx := box1 w #[.int .i64 op, .int .i64 a, .int .i64 b, .int .i64 c] 58
  have hn := nArgs_le args
  have HBX := Lib.hid hbx; clear hbx
  have hor : op = 21 ∨ op = 23 ∨ op = 24 := by simpa using hop
  clear hop
  by_cases h0 : args < 0
  · have hz : nArgs args = 0 := by omega
    rw [hz] at hfin
    clear hn hz
    have HFIN := Lib.hid hfin; clear hfin
    rcases hor with rfl | rfl | rfl
    · skip
      go_enter Try.func55, Try.ntmps55
      go_wp2_with fail
      go_loopw [5, 6] (fun v i wa => v = .slice none 0 0 ∧ i = .int .i64 0 ∧ wa = w.alloc (.cells #[.int .i64 21, .int .i64 a, .int .i64 b, .int .i64 c] 58)) (fun _ i _ => 0)
      case atStart => exact ⟨rfl, rfl, rfl⟩
      case round =>
        obtain ⟨rfl, rfl, hwr⟩ := hrel
        obtain ⟨wa, hwa⟩ : ∃ wa, wa = wr := ⟨_, rfl⟩
        subst hwa
        have hbw : Below w.heap.size w wa := by rw [hwr]; exact (Below.refl _ _).alloc (Nat.le_refl _) _
        have hsz : w.heap.size + 1 = wa.heap.size := by rw [hwr]; simp
        clear hwr
        have HBW := Lib.hid hbw; clear hbw
        go_wp2_with fail
        go_loopw [7, 8] (fun v i wr => ∃ j : Nat, j ≤ 0 ∧ i = .int .i64 j ∧ Own intE wr wa.heap.size v (argSlots c j) ∧ Below wa.heap.size wa wr) (fun _ i _ => 0 - (intOf i).toNat)
        case atStart => exact ⟨0, Nat.zero_le _, rfl, Own.nil _ _ _, Below.refl _ _⟩
        case round =>
          obtain ⟨j, hj, rfl, hown, hB⟩ := hrel
          have hj' : j = 0 := by omega
          subst hj'
          have hP : ∀ v, Own intE wr wa.heap.size v (argSlots c 0) → ReadsSaid ⟨21, a, b, c⟩ args w (.returned v) wr := fun v hv => ⟨v, rfl, by rw [HFIN.out]; exact Own.base hv (fun k hk => by have := (hv.lt hk).1; omega), HBW.out.trans (hB.mono (by omega))⟩
          have HP := Lib.hid (hP _ hown)
          clear hP hown hB
          go_wp2_with fail
          go_ret
          exact HP.out
    · skip
      go_enter Try.func55, Try.ntmps55
      go_wp2_with fail
      go_loopw [5, 6] (fun v i wa => v = .slice none 0 0 ∧ i = .int .i64 0 ∧ wa = w.alloc (.cells #[.int .i64 23, .int .i64 a, .int .i64 b, .int .i64 c] 58)) (fun _ i _ => 0)
      case atStart => exact ⟨rfl, rfl, rfl⟩
      case round =>
        obtain ⟨rfl, rfl, hwr⟩ := hrel
        obtain ⟨wa, hwa⟩ : ∃ wa, wa = wr := ⟨_, rfl⟩
        subst hwa
        have hbw : Below w.heap.size w wa := by rw [hwr]; exact (Below.refl _ _).alloc (Nat.le_refl _) _
        have hsz : w.heap.size + 1 = wa.heap.size := by rw [hwr]; simp
        clear hwr
        have HBW := Lib.hid hbw; clear hbw
        go_wp2_with fail
        go_loopw [7, 8] (fun v i wr => ∃ j : Nat, j ≤ 0 ∧ i = .int .i64 j ∧ Own intE wr wa.heap.size v (argSlots c j) ∧ Below wa.heap.size wa wr) (fun _ i _ => 0 - (intOf i).toNat)
        case atStart => exact ⟨0, Nat.zero_le _, rfl, Own.nil _ _ _, Below.refl _ _⟩
        case round =>
          obtain ⟨j, hj, rfl, hown, hB⟩ := hrel
          have hj' : j = 0 := by omega
          subst hj'
          have hP : ∀ v, Own intE wr wa.heap.size v (argSlots c 0) → ReadsSaid ⟨23, a, b, c⟩ args w (.returned v) wr := fun v hv => ⟨v, rfl, by rw [HFIN.out]; exact Own.base hv (fun k hk => by have := (hv.lt hk).1; omega), HBW.out.trans (hB.mono (by omega))⟩
          have HP := Lib.hid (hP _ hown)
          clear hP hown hB
          go_wp2_with fail
          go_ret
          exact HP.out
    · skip
      go_enter Try.func55, Try.ntmps55
      go_wp2_with fail
      go_loopw [5, 6] (fun v i wa => v = .slice none 0 0 ∧ i = .int .i64 0 ∧ wa = w.alloc (.cells #[.int .i64 24, .int .i64 a, .int .i64 b, .int .i64 c] 58)) (fun _ i _ => 0)
      case atStart => exact ⟨rfl, rfl, rfl⟩
      case round =>
        obtain ⟨rfl, rfl, hwr⟩ := hrel
        obtain ⟨wa, hwa⟩ : ∃ wa, wa = wr := ⟨_, rfl⟩
        subst hwa
        have hbw : Below w.heap.size w wa := by rw [hwr]; exact (Below.refl _ _).alloc (Nat.le_refl _) _
        have hsz : w.heap.size + 1 = wa.heap.size := by rw [hwr]; simp
        clear hwr
        have HBW := Lib.hid hbw; clear hbw
        go_wp2_with fail
        go_loopw [7, 8] (fun v i wr => ∃ j : Nat, j ≤ 0 ∧ i = .int .i64 j ∧ Own intE wr wa.heap.size v (argSlots c j) ∧ Below wa.heap.size wa wr) (fun _ i _ => 0 - (intOf i).toNat)
        case atStart => exact ⟨0, Nat.zero_le _, rfl, Own.nil _ _ _, Below.refl _ _⟩
        case round =>
          obtain ⟨j, hj, rfl, hown, hB⟩ := hrel
          have hj' : j = 0 := by omega
          subst hj'
          have hP : ∀ v, Own intE wr wa.heap.size v (argSlots c 0) → ReadsSaid ⟨24, a, b, c⟩ args w (.returned v) wr := fun v hv => ⟨v, rfl, by rw [HFIN.out]; exact Own.base hv (fun k hk => by have := (hv.lt hk).1; omega), HBW.out.trans (hB.mono (by omega))⟩
          have HP := Lib.hid (hP _ hown)
          clear hP hown hB
          go_wp2_with fail
          go_ret
          exact HP.out
  by_cases h16 : 16 < args
  · have hz : nArgs args = 16 := by omega
    rw [hz] at hfin
    clear hn hz
    have HFIN := Lib.hid hfin; clear hfin
    rcases hor with rfl | rfl | rfl
    · skip
      go_enter Try.func55, Try.ntmps55
      go_wp2_with fail
      go_loopw [5, 6] (fun v i wa => ∃ k : Nat, k ≤ 16 ∧ i = .int .i64 k ∧ Own intE wa (w.heap.size + 1) v (argSlots c k) ∧ Below (w.heap.size + 1) (w.alloc (.cells #[.int .i64 21, .int .i64 a, .int .i64 b, .int .i64 c] 58)) wa) (fun _ i _ => 16 - (intOf i).toNat)
      case atStart => exact ⟨0, Nat.zero_le _, rfl, Own.nil _ _ _, Below.refl _ _⟩
      case round =>
        obtain ⟨k, hk, rfl, hown, hB⟩ := hrel
        obtain ⟨wa, hwa⟩ : ∃ wa, wa = wr := ⟨_, rfl⟩
        subst hwa
        obtain ⟨hx, hbw, hsz⟩ := HBX.out wa hB
        have q0 := hx 0 _ rfl
        have q3 := hx 3 _ rfl
        clear hx
        by_cases hlt : k < 16
        · have hsn := argSlots_snoc c k
          have hl := argSlots_len c k
          generalize argSlots c k = L at *
          have HSN := Lib.hid hsn; clear hsn
          have HOWN := Lib.hid hown; clear hown
          have HB := Lib.hid hB; clear hB
          have HBW := Lib.hid hbw; clear hbw
          have HL := Lib.hid hl; clear hl
          go_wp2_with (at_builtin; refine append_own intE rfl (.tmp 64) (.tmp 69) rfl (w.heap.size + 1) L [wrap64 (c + (k : Int))] _ rfl (HOWN.out.alloc _) wa.heap.size 0 1 rfl (CellsAt.new _ _ _ _) ?c1 ?c2 ?_)
          case c1 => rw [HL.out]; simp; omega
          case c2 => simp; omega
          intro v2 w2 hown2 hg2
          have hB2 := Lib.hid (below_grown (HB.out.alloc (by omega) _) (HOWN.out.alloc _) hg2 (by simp; omega) (Nat.le_refl _))
          have HO2 := Lib.hid hown2; clear hown2 hg2 q3 q0
          go_wp2_with fail
          go_roundw
          case rel => exact ⟨k + 1, by omega, by go_num, by rw [HSN.out]; exact HO2.out, hB2.out⟩
          case measure => simp [intOf]; omega
        · have hk' : k = 16 := by omega
          rw [hk'] at hown
          clear hk'
          obtain ⟨g, c1, hv1, hgb, hgl, hcl⟩ := int_cells hown (by rw [argSlots_len]; omega)
          subst hv1
          have hcl : ∀ j, j < 16 → wa.cell? ⟨g, j, none⟩ = some (.int .i64 (wrap64 (c + (j : Int)))) := fun j hj => by
            have := hcl j (by rw [argSlots_len]; exact hj)
            rw [argSlots_get] at this
            exact this
          rw [argSlots_len]
          clear hown hB q3
          have HCL := Lib.hid hcl; clear hcl
          have HBW := Lib.hid hbw; clear hbw
          have Q0 := Lib.hid q0; clear q0
          go_wp2_with fail
          go_loopw [7, 8] (fun v i wr => ∃ j : Nat, j ≤ 16 ∧ i = .int .i64 j ∧ Own intE wr wa.heap.size v (argSlots c j) ∧ Below wa.heap.size wa wr) (fun _ i _ => 16 - (intOf i).toNat)
          case atStart => exact ⟨0, Nat.zero_le _, rfl, Own.nil _ _ _, Below.refl _ _⟩
          case round =>
            obtain ⟨j, hj, rfl, hown, hB⟩ := hrel
            by_cases hlt : j < 16
            · obtain ⟨hx2, _, hs2⟩ := bcell hB
              have d0 : wr.cell? ⟨w.heap.size, 0, none⟩ = some (.int .i64 21) := (hx2 _ _ (by omega)).trans Q0.out
              have dj := (hx2 _ _ hgl).trans (HCL.out j hlt)
              have dz := (hx2 _ _ hgl).trans (HCL.out 0 (by omega))
              clear hx2
              have hsn := argSlots_snoc c j
              have hl := argSlots_len c j
              have hi1 : (0 : Int) ≤ (j : Int) := Int.natCast_nonneg j
              have hi2 : (j : Int) < 16 := by omega
              generalize argSlots c j = L at *
              generalize wrap64 (c + (j : Int)) = x at dj hsn
              generalize wrap64 (c + ((0 : Nat) : Int)) = y at dz
              have HSN := Lib.hid hsn; clear hsn
              have HOWN := Lib.hid hown; clear hown
              have HB := Lib.hid hB; clear hB
              have HL := Lib.hid hl; clear hl
              by_cases hj0 : j = 0
              · have hk : ((j : Int) == 0) = true := by simp [hj0]
                clear hj0 dz
                go_wp2_with fail
                go_quiet (fail)
                go_wp2_with (at_builtin; refine append_own intE rfl (.tmp 104) (.tmp 109) rfl wa.heap.size _ [x] _ rfl ((HOWN.out.drewN _).alloc _) _ 0 1 rfl (CellsAt.new _ _ _ _) ?c1 ?c2 ?_)
                case c1 => rw [HL.out]; simp; omega
                case c2 => simp; omega
                intro v2 w2 hown2 hg2
                have hB2 := Lib.hid (below_grown ((below_drewN HB.out _).alloc (by simp; omega) _) ((HOWN.out.drewN _).alloc _) hg2 (by simp; omega) (Nat.le_refl _))
                have HO2 := Lib.hid hown2; clear hown2 hg2
                go_wp2_with fail
                go_roundw
                case rel => exact ⟨j + 1, by omega, by first | rfl | go_num, by rw [HSN.out]; exact HO2.out, hB2.out⟩
                case measure => simp [intOf]; omega
              · have hk : ((j : Int) == 0) = false := by simp; omega
                clear hj0
                by_cases hxy : x = y
                · have hne : (x != y) = false := by simpa using hxy
                  clear hxy
                  go_wp2_with fail
                  go_quiet (fail)
                  go_wp2_with (at_builtin; refine append_own intE rfl (.tmp 104) (.tmp 109) rfl wa.heap.size _ [x] _ rfl ((HOWN.out.drewN _).alloc _) _ 0 1 rfl (CellsAt.new _ _ _ _) ?c1 ?c2 ?_)
                  case c1 => rw [HL.out]; simp; omega
                  case c2 => simp; omega
                  intro v2 w2 hown2 hg2
                  have hB2 := Lib.hid (below_grown ((below_drewN HB.out _).alloc (by simp; omega) _) ((HOWN.out.drewN _).alloc _) hg2 (by simp; omega) (Nat.le_refl _))
                  have HO2 := Lib.hid hown2; clear hown2 hg2
                  go_wp2_with fail
                  go_roundw
                  case rel => exact ⟨j + 1, by omega, by first | rfl | go_num, by rw [HSN.out]; exact HO2.out, hB2.out⟩
                  case measure => simp [intOf]; omega
                · have hne : (x != y) = true := by simpa using hxy
                  clear hxy
                  go_wp2_with fail
                  go_quiet (fail)
                  go_wp2_with (at_builtin; refine append_own intE rfl (.tmp 104) (.tmp 109) rfl wa.heap.size _ [x] _ rfl ((HOWN.out.drewN _).alloc _) _ 0 1 rfl (CellsAt.new _ _ _ _) ?c1 ?c2 ?_)
                  case c1 => rw [HL.out]; simp; omega
                  case c2 => simp; omega
                  intro v2 w2 hown2 hg2
                  have hB2 := Lib.hid (below_grown ((below_drewN HB.out _).alloc (by simp; omega) _) ((HOWN.out.drewN _).alloc _) hg2 (by simp; omega) (Nat.le_refl _))
                  have HO2 := Lib.hid hown2; clear hown2 hg2
                  go_wp2_with fail
                  go_roundw
                  case rel => exact ⟨j + 1, by omega, by first | rfl | go_num, by rw [HSN.out]; exact HO2.out, hB2.out⟩
                  case measure => simp [intOf]; omega
            · have hj' : j = 16 := by omega
              rw [hj'] at hown
              clear hj'
              have hP : ∀ v, Own intE wr wa.heap.size v (argSlots c 16) → ReadsSaid ⟨21, a, b, c⟩ args w (.returned v) wr := fun v hv => ⟨v, rfl, by rw [HFIN.out]; exact Own.base hv (fun k hk => by have := (hv.lt hk).1; omega), HBW.out.trans (hB.mono (by omega))⟩
              have HP := Lib.hid (hP _ hown)
              clear hP hown hB
              go_wp2_with fail
              go_ret
              exact HP.out
    · skip
      go_enter Try.func55, Try.ntmps55
      go_wp2_with fail
      go_loopw [5, 6] (fun v i wa => ∃ k : Nat, k ≤ 16 ∧ i = .int .i64 k ∧ Own intE wa (w.heap.size + 1) v (argSlots c k) ∧ Below (w.heap.size + 1) (w.alloc (.cells #[.int .i64 23, .int .i64 a, .int .i64 b, .int .i64 c] 58)) wa) (fun _ i _ => 16 - (intOf i).toNat)
      case atStart => exact ⟨0, Nat.zero_le _, rfl, Own.nil _ _ _, Below.refl _ _⟩
      case round =>
        obtain ⟨k, hk, rfl, hown, hB⟩ := hrel
        obtain ⟨wa, hwa⟩ : ∃ wa, wa = wr := ⟨_, rfl⟩
        subst hwa
        obtain ⟨hx, hbw, hsz⟩ := HBX.out wa hB
        have q0 := hx 0 _ rfl
        have q3 := hx 3 _ rfl
        clear hx
        by_cases hlt : k < 16
        · have hsn := argSlots_snoc c k
          have hl := argSlots_len c k
          generalize argSlots c k = L at *
          have HSN := Lib.hid hsn; clear hsn
          have HOWN := Lib.hid hown; clear hown
          have HB := Lib.hid hB; clear hB
          have HBW := Lib.hid hbw; clear hbw
          have HL := Lib.hid hl; clear hl
          go_wp2_with (at_builtin; refine append_own intE rfl (.tmp 64) (.tmp 69) rfl (w.heap.size + 1) L [wrap64 (c + (k : Int))] _ rfl (HOWN.out.alloc _) wa.heap.size 0 1 rfl (CellsAt.new _ _ _ _) ?c1 ?c2 ?_)
          case c1 => rw [HL.out]; simp; omega
          case c2 => simp; omega
          intro v2 w2 hown2 hg2
          have hB2 := Lib.hid (below_grown (HB.out.alloc (by omega) _) (HOWN.out.alloc _) hg2 (by simp; omega) (Nat.le_refl _))
          have HO2 := Lib.hid hown2; clear hown2 hg2 q3 q0
          go_wp2_with fail
          go_roundw
          case rel => exact ⟨k + 1, by omega, by go_num, by rw [HSN.out]; exact HO2.out, hB2.out⟩
          case measure => simp [intOf]; omega
        · have hk' : k = 16 := by omega
          rw [hk'] at hown
          clear hk'
          obtain ⟨g, c1, hv1, hgb, hgl, hcl⟩ := int_cells hown (by rw [argSlots_len]; omega)
          subst hv1
          have hcl : ∀ j, j < 16 → wa.cell? ⟨g, j, none⟩ = some (.int .i64 (wrap64 (c + (j : Int)))) := fun j hj => by
            have := hcl j (by rw [argSlots_len]; exact hj)
            rw [argSlots_get] at this
            exact this
          rw [argSlots_len]
          clear hown hB q3
          have HCL := Lib.hid hcl; clear hcl
          have HBW := Lib.hid hbw; clear hbw
          have Q0 := Lib.hid q0; clear q0
          go_wp2_with fail
          go_loopw [7, 8] (fun v i wr => ∃ j : Nat, j ≤ 16 ∧ i = .int .i64 j ∧ Own intE wr wa.heap.size v (argSlots c j) ∧ Below wa.heap.size wa wr) (fun _ i _ => 16 - (intOf i).toNat)
          case atStart => exact ⟨0, Nat.zero_le _, rfl, Own.nil _ _ _, Below.refl _ _⟩
          case round =>
            obtain ⟨j, hj, rfl, hown, hB⟩ := hrel
            by_cases hlt : j < 16
            · obtain ⟨hx2, _, hs2⟩ := bcell hB
              have d0 : wr.cell? ⟨w.heap.size, 0, none⟩ = some (.int .i64 23) := (hx2 _ _ (by omega)).trans Q0.out
              have dj := (hx2 _ _ hgl).trans (HCL.out j hlt)
              have dz := (hx2 _ _ hgl).trans (HCL.out 0 (by omega))
              clear hx2
              have hsn := argSlots_snoc c j
              have hl := argSlots_len c j
              have hi1 : (0 : Int) ≤ (j : Int) := Int.natCast_nonneg j
              have hi2 : (j : Int) < 16 := by omega
              generalize argSlots c j = L at *
              generalize wrap64 (c + (j : Int)) = x at dj hsn
              generalize wrap64 (c + ((0 : Nat) : Int)) = y at dz
              have HSN := Lib.hid hsn; clear hsn
              have HOWN := Lib.hid hown; clear hown
              have HB := Lib.hid hB; clear hB
              have HL := Lib.hid hl; clear hl
              by_cases hj0 : j = 0
              · have hk : ((j : Int) == 0) = true := by simp [hj0]
                clear hj0 dz
                go_wp2_with fail
                go_quiet (fail)
                go_wp2_with (at_builtin; refine append_own intE rfl (.tmp 104) (.tmp 109) rfl wa.heap.size _ [x] _ rfl ((HOWN.out.drewN _).alloc _) _ 0 1 rfl (CellsAt.new _ _ _ _) ?c1 ?c2 ?_)
                case c1 => rw [HL.out]; simp; omega
                case c2 => simp; omega
                intro v2 w2 hown2 hg2
                have hB2 := Lib.hid (below_grown ((below_drewN HB.out _).alloc (by simp; omega) _) ((HOWN.out.drewN _).alloc _) hg2 (by simp; omega) (Nat.le_refl _))
                have HO2 := Lib.hid hown2; clear hown2 hg2
                go_wp2_with fail
                go_roundw
                case rel => exact ⟨j + 1, by omega, by first | rfl | go_num, by rw [HSN.out]; exact HO2.out, hB2.out⟩
                case measure => simp [intOf]; omega
              · have hk : ((j : Int) == 0) = false := by simp; omega
                clear hj0
                by_cases hxy : x = y
                · have hne : (x != y) = false := by simpa using hxy
                  clear hxy
                  go_wp2_with fail
                  go_quiet (fail)
                  go_wp2_with (at_builtin; refine append_own intE rfl (.tmp 104) (.tmp 109) rfl wa.heap.size _ [x] _ rfl ((HOWN.out.drewN _).alloc _) _ 0 1 rfl (CellsAt.new _ _ _ _) ?c1 ?c2 ?_)
                  case c1 => rw [HL.out]; simp; omega
                  case c2 => simp; omega
                  intro v2 w2 hown2 hg2
                  have hB2 := Lib.hid (below_grown ((below_drewN HB.out _).alloc (by simp; omega) _) ((HOWN.out.drewN _).alloc _) hg2 (by simp; omega) (Nat.le_refl _))
                  have HO2 := Lib.hid hown2; clear hown2 hg2
                  go_wp2_with fail
                  go_roundw
                  case rel => exact ⟨j + 1, by omega, by first | rfl | go_num, by rw [HSN.out]; exact HO2.out, hB2.out⟩
                  case measure => simp [intOf]; omega
                · have hne : (x != y) = true := by simpa using hxy
                  clear hxy
                  go_wp2_with fail
                  go_quiet (fail)
                  go_wp2_with (at_builtin; refine append_own intE rfl (.tmp 104) (.tmp 109) rfl wa.heap.size _ [x] _ rfl ((HOWN.out.drewN _).alloc _) _ 0 1 rfl (CellsAt.new _ _ _ _) ?c1 ?c2 ?_)
                  case c1 => rw [HL.out]; simp; omega
                  case c2 => simp; omega
                  intro v2 w2 hown2 hg2
                  have hB2 := Lib.hid (below_grown ((below_drewN HB.out _).alloc (by simp; omega) _) ((HOWN.out.drewN _).alloc _) hg2 (by simp; omega) (Nat.le_refl _))
                  have HO2 := Lib.hid hown2; clear hown2 hg2
                  go_wp2_with fail
                  go_roundw
                  case rel => exact ⟨j + 1, by omega, by first | rfl | go_num, by rw [HSN.out]; exact HO2.out, hB2.out⟩
                  case measure => simp [intOf]; omega
            · have hj' : j = 16 := by omega
              rw [hj'] at hown
              clear hj'
              have hP : ∀ v, Own intE wr wa.heap.size v (argSlots c 16) → ReadsSaid ⟨23, a, b, c⟩ args w (.returned v) wr := fun v hv => ⟨v, rfl, by rw [HFIN.out]; exact Own.base hv (fun k hk => by have := (hv.lt hk).1; omega), HBW.out.trans (hB.mono (by omega))⟩
              have HP := Lib.hid (hP _ hown)
              clear hP hown hB
              go_wp2_with fail
              go_ret
              exact HP.out
    · skip
      go_enter Try.func55, Try.ntmps55
      go_wp2_with fail
      go_loopw [5, 6] (fun v i wa => ∃ k : Nat, k ≤ 16 ∧ i = .int .i64 k ∧ Own intE wa (w.heap.size + 1) v (argSlots c k) ∧ Below (w.heap.size + 1) (w.alloc (.cells #[.int .i64 24, .int .i64 a, .int .i64 b, .int .i64 c] 58)) wa) (fun _ i _ => 16 - (intOf i).toNat)
      case atStart => exact ⟨0, Nat.zero_le _, rfl, Own.nil _ _ _, Below.refl _ _⟩
      case round =>
        obtain ⟨k, hk, rfl, hown, hB⟩ := hrel
        obtain ⟨wa, hwa⟩ : ∃ wa, wa = wr := ⟨_, rfl⟩
        subst hwa
        obtain ⟨hx, hbw, hsz⟩ := HBX.out wa hB
        have q0 := hx 0 _ rfl
        have q3 := hx 3 _ rfl
        clear hx
        by_cases hlt : k < 16
        · have hsn := argSlots_snoc c k
          have hl := argSlots_len c k
          generalize argSlots c k = L at *
          have HSN := Lib.hid hsn; clear hsn
          have HOWN := Lib.hid hown; clear hown
          have HB := Lib.hid hB; clear hB
          have HBW := Lib.hid hbw; clear hbw
          have HL := Lib.hid hl; clear hl
          go_wp2_with (at_builtin; refine append_own intE rfl (.tmp 64) (.tmp 69) rfl (w.heap.size + 1) L [wrap64 (c + (k : Int))] _ rfl (HOWN.out.alloc _) wa.heap.size 0 1 rfl (CellsAt.new _ _ _ _) ?c1 ?c2 ?_)
          case c1 => rw [HL.out]; simp; omega
          case c2 => simp; omega
          intro v2 w2 hown2 hg2
          have hB2 := Lib.hid (below_grown (HB.out.alloc (by omega) _) (HOWN.out.alloc _) hg2 (by simp; omega) (Nat.le_refl _))
          have HO2 := Lib.hid hown2; clear hown2 hg2 q3 q0
          go_wp2_with fail
          go_roundw
          case rel => exact ⟨k + 1, by omega, by go_num, by rw [HSN.out]; exact HO2.out, hB2.out⟩
          case measure => simp [intOf]; omega
        · have hk' : k = 16 := by omega
          rw [hk'] at hown
          clear hk'
          obtain ⟨g, c1, hv1, hgb, hgl, hcl⟩ := int_cells hown (by rw [argSlots_len]; omega)
          subst hv1
          have hcl : ∀ j, j < 16 → wa.cell? ⟨g, j, none⟩ = some (.int .i64 (wrap64 (c + (j : Int)))) := fun j hj => by
            have := hcl j (by rw [argSlots_len]; exact hj)
            rw [argSlots_get] at this
            exact this
          rw [argSlots_len]
          clear hown hB q3
          have HCL := Lib.hid hcl; clear hcl
          have HBW := Lib.hid hbw; clear hbw
          have Q0 := Lib.hid q0; clear q0
          go_wp2_with fail
          go_loopw [7, 8] (fun v i wr => ∃ j : Nat, j ≤ 16 ∧ i = .int .i64 j ∧ Own intE wr wa.heap.size v (argSlots c j) ∧ Below wa.heap.size wa wr) (fun _ i _ => 16 - (intOf i).toNat)
          case atStart => exact ⟨0, Nat.zero_le _, rfl, Own.nil _ _ _, Below.refl _ _⟩
          case round =>
            obtain ⟨j, hj, rfl, hown, hB⟩ := hrel
            by_cases hlt : j < 16
            · obtain ⟨hx2, _, hs2⟩ := bcell hB
              have d0 : wr.cell? ⟨w.heap.size, 0, none⟩ = some (.int .i64 24) := (hx2 _ _ (by omega)).trans Q0.out
              have dj := (hx2 _ _ hgl).trans (HCL.out j hlt)
              have dz := (hx2 _ _ hgl).trans (HCL.out 0 (by omega))
              clear hx2
              have hsn := argSlots_snoc c j
              have hl := argSlots_len c j
              have hi1 : (0 : Int) ≤ (j : Int) := Int.natCast_nonneg j
              have hi2 : (j : Int) < 16 := by omega
              generalize argSlots c j = L at *
              generalize wrap64 (c + (j : Int)) = x at dj hsn
              generalize wrap64 (c + ((0 : Nat) : Int)) = y at dz
              have HSN := Lib.hid hsn; clear hsn
              have HOWN := Lib.hid hown; clear hown
              have HB := Lib.hid hB; clear hB
              have HL := Lib.hid hl; clear hl
              by_cases hj0 : j = 0
              · have hk : ((j : Int) == 0) = true := by simp [hj0]
                clear hj0 dz
                go_wp2_with fail
                go_quiet (fail)
                go_wp2_with (at_builtin; refine append_own intE rfl (.tmp 104) (.tmp 109) rfl wa.heap.size _ [x] _ rfl ((HOWN.out.drewN _).alloc _) _ 0 1 rfl (CellsAt.new _ _ _ _) ?c1 ?c2 ?_)
                case c1 => rw [HL.out]; simp; omega
                case c2 => simp; omega
                intro v2 w2 hown2 hg2
                have hB2 := Lib.hid (below_grown ((below_drewN HB.out _).alloc (by simp; omega) _) ((HOWN.out.drewN _).alloc _) hg2 (by simp; omega) (Nat.le_refl _))
                have HO2 := Lib.hid hown2; clear hown2 hg2
                go_wp2_with fail
                go_roundw
                case rel => exact ⟨j + 1, by omega, by first | rfl | go_num, by rw [HSN.out]; exact HO2.out, hB2.out⟩
                case measure => simp [intOf]; omega
              · have hk : ((j : Int) == 0) = false := by simp; omega
                clear hj0
                by_cases hxy : x = y
                · have hne : (x != y) = false := by simpa using hxy
                  clear hxy
                  go_wp2_with fail
                  go_quiet (fail)
                  go_wp2_with (at_builtin; refine append_own intE rfl (.tmp 104) (.tmp 109) rfl wa.heap.size _ [x] _ rfl ((HOWN.out.drewN _).alloc _) _ 0 1 rfl (CellsAt.new _ _ _ _) ?c1 ?c2 ?_)
                  case c1 => rw [HL.out]; simp; omega
                  case c2 => simp; omega
                  intro v2 w2 hown2 hg2
                  have hB2 := Lib.hid (below_grown ((below_drewN HB.out _).alloc (by simp; omega) _) ((HOWN.out.drewN _).alloc _) hg2 (by simp; omega) (Nat.le_refl _))
                  have HO2 := Lib.hid hown2; clear hown2 hg2
                  go_wp2_with fail
                  go_roundw
                  case rel => exact ⟨j + 1, by omega, by first | rfl | go_num, by rw [HSN.out]; exact HO2.out, hB2.out⟩
                  case measure => simp [intOf]; omega
                · have hne : (x != y) = true := by simpa using hxy
                  clear hxy
                  go_wp2_with fail
                  go_quiet (fail)
                  go_wp2_with (at_builtin; refine append_own intE rfl (.tmp 104) (.tmp 109) rfl wa.heap.size _ [x] _ rfl ((HOWN.out.drewN _).alloc _) _ 0 1 rfl (CellsAt.new _ _ _ _) ?c1 ?c2 ?_)
                  case c1 => rw [HL.out]; simp; omega
                  case c2 => simp; omega
                  intro v2 w2 hown2 hg2
                  have hB2 := Lib.hid (below_grown ((below_drewN HB.out _).alloc (by simp; omega) _) ((HOWN.out.drewN _).alloc _) hg2 (by simp; omega) (Nat.le_refl _))
                  have HO2 := Lib.hid hown2; clear hown2 hg2
                  go_wp2_with fail
                  go_roundw
                  case rel => exact ⟨j + 1, by omega, by first | rfl | go_num, by rw [HSN.out]; exact HO2.out, hB2.out⟩
                  case measure => simp [intOf]; omega
            · have hj' : j = 16 := by omega
              rw [hj'] at hown
              clear hj'
              have hP : ∀ v, Own intE wr wa.heap.size v (argSlots c 16) → ReadsSaid ⟨24, a, b, c⟩ args w (.returned v) wr := fun v hv => ⟨v, rfl, by rw [HFIN.out]; exact Own.base hv (fun k hk => by have := (hv.lt hk).1; omega), HBW.out.trans (hB.mono (by omega))⟩
              have HP := Lib.hid (hP _ hown)
              clear hP hown hB
              go_wp2_with fail
              go_ret
              exact HP.out
  obtain ⟨n, rfl⟩ := Int.eq_ofNat_of_zero_le (show 0 ≤ args by omega)
  have hz : nArgs (n : Int) = n := by omega
  rw [hz] at hfin
  have hn16 : n ≤ 16 := by omega
  clear hn hz h0 h16
  by_cases hn0 : n = 0
  · subst hn0
    have HFIN := Lib.hid hfin; clear hfin
    rcases hor with rfl | rfl | rfl
    · skip
      go_enter Try.func55, Try.ntmps55
      go_wp2_with fail
      go_loopw [5, 6] (fun v i wa => v = .slice none 0 0 ∧ i = .int .i64 0 ∧ wa = w.alloc (.cells #[.int .i64 21, .int .i64 a, .int .i64 b, .int .i64 c] 58)) (fun _ i _ => 0)
      case atStart => exact ⟨rfl, rfl, rfl⟩
      case round =>
        obtain ⟨rfl, rfl, hwr⟩ := hrel
        obtain ⟨wa, hwa⟩ : ∃ wa, wa = wr := ⟨_, rfl⟩
        subst hwa
        have hbw : Below w.heap.size w wa := by rw [hwr]; exact (Below.refl _ _).alloc (Nat.le_refl _) _
        have hsz : w.heap.size + 1 = wa.heap.size := by rw [hwr]; simp
        clear hwr
        have HBW := Lib.hid hbw; clear hbw
        go_wp2_with fail
        go_loopw [7, 8] (fun v i wr => ∃ j : Nat, j ≤ 0 ∧ i = .int .i64 j ∧ Own intE wr wa.heap.size v (argSlots c j) ∧ Below wa.heap.size wa wr) (fun _ i _ => 0 - (intOf i).toNat)
        case atStart => exact ⟨0, Nat.zero_le _, rfl, Own.nil _ _ _, Below.refl _ _⟩
        case round =>
          obtain ⟨j, hj, rfl, hown, hB⟩ := hrel
          have hj' : j = 0 := by omega
          subst hj'
          have hP : ∀ v, Own intE wr wa.heap.size v (argSlots c 0) → ReadsSaid ⟨21, a, b, c⟩ ((0:Nat):Int) w (.returned v) wr := fun v hv => ⟨v, rfl, by rw [HFIN.out]; exact Own.base hv (fun k hk => by have := (hv.lt hk).1; omega), HBW.out.trans (hB.mono (by omega))⟩
          have HP := Lib.hid (hP _ hown)
          clear hP hown hB
          go_wp2_with fail
          go_ret
          exact HP.out
    · skip
      go_enter Try.func55, Try.ntmps55
      go_wp2_with fail
      go_loopw [5, 6] (fun v i wa => v = .slice none 0 0 ∧ i = .int .i64 0 ∧ wa = w.alloc (.cells #[.int .i64 23, .int .i64 a, .int .i64 b, .int .i64 c] 58)) (fun _ i _ => 0)
      case atStart => exact ⟨rfl, rfl, rfl⟩
      case round =>
        obtain ⟨rfl, rfl, hwr⟩ := hrel
        obtain ⟨wa, hwa⟩ : ∃ wa, wa = wr := ⟨_, rfl⟩
        subst hwa
        have hbw : Below w.heap.size w wa := by rw [hwr]; exact (Below.refl _ _).alloc (Nat.le_refl _) _
        have hsz : w.heap.size + 1 = wa.heap.size := by rw [hwr]; simp
        clear hwr
        have HBW := Lib.hid hbw; clear hbw
        go_wp2_with fail
        go_loopw [7, 8] (fun v i wr => ∃ j : Nat, j ≤ 0 ∧ i = .int .i64 j ∧ Own intE wr wa.heap.size v (argSlots c j) ∧ Below wa.heap.size wa wr) (fun _ i _ => 0 - (intOf i).toNat)
        case atStart => exact ⟨0, Nat.zero_le _, rfl, Own.nil _ _ _, Below.refl _ _⟩
        case round =>
          obtain ⟨j, hj, rfl, hown, hB⟩ := hrel
          have hj' : j = 0 := by omega
          subst hj'
          have hP : ∀ v, Own intE wr wa.heap.size v (argSlots c 0) → ReadsSaid ⟨23, a, b, c⟩ ((0:Nat):Int) w (.returned v) wr := fun v hv => ⟨v, rfl, by rw [HFIN.out]; exact Own.base hv (fun k hk => by have := (hv.lt hk).1; omega), HBW.out.trans (hB.mono (by omega))⟩
          have HP := Lib.hid (hP _ hown)
          clear hP hown hB
          go_wp2_with fail
          go_ret
          exact HP.out
    · skip
      go_enter Try.func55, Try.ntmps55
      go_wp2_with fail
      go_loopw [5, 6] (fun v i wa => v = .slice none 0 0 ∧ i = .int .i64 0 ∧ wa = w.alloc (.cells #[.int .i64 24, .int .i64 a, .int .i64 b, .int .i64 c] 58)) (fun _ i _ => 0)
      case atStart => exact ⟨rfl, rfl, rfl⟩
      case round =>
        obtain ⟨rfl, rfl, hwr⟩ := hrel
        obtain ⟨wa, hwa⟩ : ∃ wa, wa = wr := ⟨_, rfl⟩
        subst hwa
        have hbw : Below w.heap.size w wa := by rw [hwr]; exact (Below.refl _ _).alloc (Nat.le_refl _) _
        have hsz : w.heap.size + 1 = wa.heap.size := by rw [hwr]; simp
        clear hwr
        have HBW := Lib.hid hbw; clear hbw
        go_wp2_with fail
        go_loopw [7, 8] (fun v i wr => ∃ j : Nat, j ≤ 0 ∧ i = .int .i64 j ∧ Own intE wr wa.heap.size v (argSlots c j) ∧ Below wa.heap.size wa wr) (fun _ i _ => 0 - (intOf i).toNat)
        case atStart => exact ⟨0, Nat.zero_le _, rfl, Own.nil _ _ _, Below.refl _ _⟩
        case round =>
          obtain ⟨j, hj, rfl, hown, hB⟩ := hrel
          have hj' : j = 0 := by omega
          subst hj'
          have hP : ∀ v, Own intE wr wa.heap.size v (argSlots c 0) → ReadsSaid ⟨24, a, b, c⟩ ((0:Nat):Int) w (.returned v) wr := fun v hv => ⟨v, rfl, by rw [HFIN.out]; exact Own.base hv (fun k hk => by have := (hv.lt hk).1; omega), HBW.out.trans (hB.mono (by omega))⟩
          have HP := Lib.hid (hP _ hown)
          clear hP hown hB
          go_wp2_with fail
          go_ret
          exact HP.out
  have hn1 : 1 ≤ n := by omega
  clear hn0
  have HFIN := Lib.hid hfin; clear hfin
  rcases hor with rfl | rfl | rfl
  · skip
    go_enter Try.func55, Try.ntmps55
    go_wp2_with fail
    go_loopw [5, 6] (fun v i wa => ∃ k : Nat, k ≤ n ∧ i = .int .i64 k ∧ Own intE wa (w.heap.size + 1) v (argSlots c k) ∧ Below (w.heap.size + 1) (w.alloc (.cells #[.int .i64 21, .int .i64 a, .int .i64 b, .int .i64 c] 58)) wa) (fun _ i _ => n - (intOf i).toNat)
    case atStart => exact ⟨0, Nat.zero_le _, rfl, Own.nil _ _ _, Below.refl _ _⟩
    case round =>
      obtain ⟨k, hk, rfl, hown, hB⟩ := hrel
      obtain ⟨wa, hwa⟩ : ∃ wa, wa = wr := ⟨_, rfl⟩
      subst hwa
      obtain ⟨hx, hbw, hsz⟩ := HBX.out wa hB
      have q0 := hx 0 _ rfl
      have q3 := hx 3 _ rfl
      clear hx
      by_cases hlt : k < n
      · have hsn := argSlots_snoc c k
        have hl := argSlots_len c k
        generalize argSlots c k = L at *
        have HSN := Lib.hid hsn; clear hsn
        have HOWN := Lib.hid hown; clear hown
        have HB := Lib.hid hB; clear hB
        have HBW := Lib.hid hbw; clear hbw
        have HL := Lib.hid hl; clear hl
        go_wp2_with (at_builtin; refine append_own intE rfl (.tmp 64) (.tmp 69) rfl (w.heap.size + 1) L [wrap64 (c + (k : Int))] _ rfl (HOWN.out.alloc _) wa.heap.size 0 1 rfl (CellsAt.new _ _ _ _) ?c1 ?c2 ?_)
        case c1 => rw [HL.out]; simp; omega
        case c2 => simp; omega
        intro v2 w2 hown2 hg2
        have hB2 := Lib.hid (below_grown (HB.out.alloc (by omega) _) (HOWN.out.alloc _) hg2 (by simp; omega) (Nat.le_refl _))
        have HO2 := Lib.hid hown2; clear hown2 hg2 q3 q0
        go_wp2_with fail
        go_roundw
        case rel => exact ⟨k + 1, by omega, by go_num, by rw [HSN.out]; exact HO2.out, hB2.out⟩
        case measure => simp [intOf]; omega
      · have hk' : k = n := by omega
        rw [hk'] at hown
        clear hk'
        obtain ⟨g, c1, hv1, hgb, hgl, hcl⟩ := int_cells hown (by rw [argSlots_len]; omega)
        subst hv1
        have hcl : ∀ j, j < n → wa.cell? ⟨g, j, none⟩ = some (.int .i64 (wrap64 (c + (j : Int)))) := fun j hj => by
          have := hcl j (by rw [argSlots_len]; exact hj)
          rw [argSlots_get] at this
          exact this
        rw [argSlots_len]
        clear hown hB q3
        have HCL := Lib.hid hcl; clear hcl
        have HBW := Lib.hid hbw; clear hbw
        have Q0 := Lib.hid q0; clear q0
        go_wp2_with fail
        go_loopw [7, 8] (fun v i wr => ∃ j : Nat, j ≤ n ∧ i = .int .i64 j ∧ Own intE wr wa.heap.size v (argSlots c j) ∧ Below wa.heap.size wa wr) (fun _ i _ => n - (intOf i).toNat)
        case atStart => exact ⟨0, Nat.zero_le _, rfl, Own.nil _ _ _, Below.refl _ _⟩
        case round =>
          obtain ⟨j, hj, rfl, hown, hB⟩ := hrel
          by_cases hlt : j < n
          · obtain ⟨hx2, _, hs2⟩ := bcell hB
            have d0 : wr.cell? ⟨w.heap.size, 0, none⟩ = some (.int .i64 21) := (hx2 _ _ (by omega)).trans Q0.out
            have dj := (hx2 _ _ hgl).trans (HCL.out j hlt)
            have dz := (hx2 _ _ hgl).trans (HCL.out 0 (by omega))
            clear hx2
            have hsn := argSlots_snoc c j
            have hl := argSlots_len c j
            have hi1 : (0 : Int) ≤ (j : Int) := Int.natCast_nonneg j
            have hi2 : (j : Int) < (n:Int) := by omega
            generalize argSlots c j = L at *
            generalize wrap64 (c + (j : Int)) = x at dj hsn
            generalize wrap64 (c + ((0 : Nat) : Int)) = y at dz
            have HSN := Lib.hid hsn; clear hsn
            have HOWN := Lib.hid hown; clear hown
            have HB := Lib.hid hB; clear hB
            have HL := Lib.hid hl; clear hl
            by_cases hj0 : j = 0
            · have hk : ((j : Int) == 0) = true := by simp [hj0]
              clear hj0 dz
              go_wp2_with fail
              go_quiet (fail)
              go_wp2_with (at_builtin; refine append_own intE rfl (.tmp 104) (.tmp 109) rfl wa.heap.size _ [x] _ rfl ((HOWN.out.drewN _).alloc _) _ 0 1 rfl (CellsAt.new _ _ _ _) ?c1 ?c2 ?_)
              case c1 => rw [HL.out]; simp; omega
              case c2 => simp; omega
              intro v2 w2 hown2 hg2
              have hB2 := Lib.hid (below_grown ((below_drewN HB.out _).alloc (by simp; omega) _) ((HOWN.out.drewN _).alloc _) hg2 (by simp; omega) (Nat.le_refl _))
              have HO2 := Lib.hid hown2; clear hown2 hg2
              go_wp2_with fail
              go_roundw
              case rel => exact ⟨j + 1, by omega, by first | rfl | go_num, by rw [HSN.out]; exact HO2.out, hB2.out⟩
              case measure => simp [intOf]; omega
            · have hk : ((j : Int) == 0) = false := by simp; omega
              clear hj0
              by_cases hxy : x = y
              · have hne : (x != y) = false := by simpa using hxy
                clear hxy
                go_wp2_with fail
                go_quiet (fail)
                go_wp2_with (at_builtin; refine append_own intE rfl (.tmp 104) (.tmp 109) rfl wa.heap.size _ [x] _ rfl ((HOWN.out.drewN _).alloc _) _ 0 1 rfl (CellsAt.new _ _ _ _) ?c1 ?c2 ?_)
                case c1 => rw [HL.out]; simp; omega
                case c2 => simp; omega
                intro v2 w2 hown2 hg2
                have hB2 := Lib.hid (below_grown ((below_drewN HB.out _).alloc (by simp; omega) _) ((HOWN.out.drewN _).alloc _) hg2 (by simp; omega) (Nat.le_refl _))
                have HO2 := Lib.hid hown2; clear hown2 hg2
                go_wp2_with fail
                go_roundw
                case rel => exact ⟨j + 1, by omega, by first | rfl | go_num, by rw [HSN.out]; exact HO2.out, hB2.out⟩
                case measure => simp [intOf]; omega
              · have hne : (x != y) = true := by simpa using hxy
                clear hxy
                go_wp2_with fail
                go_quiet (fail)
                go_wp2_with (at_builtin; refine append_own intE rfl (.tmp 104) (.tmp 109) rfl wa.heap.size _ [x] _ rfl ((HOWN.out.drewN _).alloc _) _ 0 1 rfl (CellsAt.new _ _ _ _) ?c1 ?c2 ?_)
                case c1 => rw [HL.out]; simp; omega
                case c2 => simp; omega
                intro v2 w2 hown2 hg2
                have hB2 := Lib.hid (below_grown ((below_drewN HB.out _).alloc (by simp; omega) _) ((HOWN.out.drewN _).alloc _) hg2 (by simp; omega) (Nat.le_refl _))
                have HO2 := Lib.hid hown2; clear hown2 hg2
                go_wp2_with fail
                go_roundw
                case rel => exact ⟨j + 1, by omega, by first | rfl | go_num, by rw [HSN.out]; exact HO2.out, hB2.out⟩
                case measure => simp [intOf]; omega
          · have hj' : j = n := by omega
            rw [hj'] at hown
            clear hj'
            have hP : ∀ v, Own intE wr wa.heap.size v (argSlots c n) → ReadsSaid ⟨21, a, b, c⟩ (n:Int) w (.returned v) wr := fun v hv => ⟨v, rfl, by rw [HFIN.out]; exact Own.base hv (fun k hk => by have := (hv.lt hk).1; omega), HBW.out.trans (hB.mono (by omega))⟩
            have HP := Lib.hid (hP _ hown)
            clear hP hown hB
            go_wp2_with fail
            go_ret
            exact HP.out
  · skip
    go_enter Try.func55, Try.ntmps55
    go_wp2_with fail
    go_loopw [5, 6] (fun v i wa => ∃ k : Nat, k ≤ n ∧ i = .int .i64 k ∧ Own intE wa (w.heap.size + 1) v (argSlots c k) ∧ Below (w.heap.size + 1) (w.alloc (.cells #[.int .i64 23, .int .i64 a, .int .i64 b, .int .i64 c] 58)) wa) (fun _ i _ => n - (intOf i).toNat)
    case atStart => exact ⟨0, Nat.zero_le _, rfl, Own.nil _ _ _, Below.refl _ _⟩
    case round =>
      obtain ⟨k, hk, rfl, hown, hB⟩ := hrel
      obtain ⟨wa, hwa⟩ : ∃ wa, wa = wr := ⟨_, rfl⟩
      subst hwa
      obtain ⟨hx, hbw, hsz⟩ := HBX.out wa hB
      have q0 := hx 0 _ rfl
      have q3 := hx 3 _ rfl
      clear hx
      by_cases hlt : k < n
      · have hsn := argSlots_snoc c k
        have hl := argSlots_len c k
        generalize argSlots c k = L at *
        have HSN := Lib.hid hsn; clear hsn
        have HOWN := Lib.hid hown; clear hown
        have HB := Lib.hid hB; clear hB
        have HBW := Lib.hid hbw; clear hbw
        have HL := Lib.hid hl; clear hl
        go_wp2_with (at_builtin; refine append_own intE rfl (.tmp 64) (.tmp 69) rfl (w.heap.size + 1) L [wrap64 (c + (k : Int))] _ rfl (HOWN.out.alloc _) wa.heap.size 0 1 rfl (CellsAt.new _ _ _ _) ?c1 ?c2 ?_)
        case c1 => rw [HL.out]; simp; omega
        case c2 => simp; omega
        intro v2 w2 hown2 hg2
        have hB2 := Lib.hid (below_grown (HB.out.alloc (by omega) _) (HOWN.out.alloc _) hg2 (by simp; omega) (Nat.le_refl _))
        have HO2 := Lib.hid hown2; clear hown2 hg2 q3 q0
        go_wp2_with fail
        go_roundw
        case rel => exact ⟨k + 1, by omega, by go_num, by rw [HSN.out]; exact HO2.out, hB2.out⟩
        case measure => simp [intOf]; omega
      · have hk' : k = n := by omega
        rw [hk'] at hown
        clear hk'
        obtain ⟨g, c1, hv1, hgb, hgl, hcl⟩ := int_cells hown (by rw [argSlots_len]; omega)
        subst hv1
        have hcl : ∀ j, j < n → wa.cell? ⟨g, j, none⟩ = some (.int .i64 (wrap64 (c + (j : Int)))) := fun j hj => by
          have := hcl j (by rw [argSlots_len]; exact hj)
          rw [argSlots_get] at this
          exact this
        rw [argSlots_len]
        clear hown hB q3
        have HCL := Lib.hid hcl; clear hcl
        have HBW := Lib.hid hbw; clear hbw
        have Q0 := Lib.hid q0; clear q0
        go_wp2_with fail
        go_loopw [7, 8] (fun v i wr => ∃ j : Nat, j ≤ n ∧ i = .int .i64 j ∧ Own intE wr wa.heap.size v (argSlots c j) ∧ Below wa.heap.size wa wr) (fun _ i _ => n - (intOf i).toNat)
        case atStart => exact ⟨0, Nat.zero_le _, rfl, Own.nil _ _ _, Below.refl _ _⟩
        case round =>
          obtain ⟨j, hj, rfl, hown, hB⟩ := hrel
          by_cases hlt : j < n
          · obtain ⟨hx2, _, hs2⟩ := bcell hB
            have d0 : wr.cell? ⟨w.heap.size, 0, none⟩ = some (.int .i64 23) := (hx2 _ _ (by omega)).trans Q0.out
            have dj := (hx2 _ _ hgl).trans (HCL.out j hlt)
            have dz := (hx2 _ _ hgl).trans (HCL.out 0 (by omega))
            clear hx2
            have hsn := argSlots_snoc c j
            have hl := argSlots_len c j
            have hi1 : (0 : Int) ≤ (j : Int) := Int.natCast_nonneg j
            have hi2 : (j : Int) < (n:Int) := by omega
            generalize argSlots c j = L at *
            generalize wrap64 (c + (j : Int)) = x at dj hsn
            generalize wrap64 (c + ((0 : Nat) : Int)) = y at dz
            have HSN := Lib.hid hsn; clear hsn
            have HOWN := Lib.hid hown; clear hown
            have HB := Lib.hid hB; clear hB
            have HL := Lib.hid hl; clear hl
            by_cases hj0 : j = 0
            · have hk : ((j : Int) == 0) = true := by simp [hj0]
              clear hj0 dz
              go_wp2_with fail
              go_quiet (fail)
              go_wp2_with (at_builtin; refine append_own intE rfl (.tmp 104) (.tmp 109) rfl wa.heap.size _ [x] _ rfl ((HOWN.out.drewN _).alloc _) _ 0 1 rfl (CellsAt.new _ _ _ _) ?c1 ?c2 ?_)
              case c1 => rw [HL.out]; simp; omega
              case c2 => simp; omega
              intro v2 w2 hown2 hg2
              have hB2 := Lib.hid (below_grown ((below_drewN HB.out _).alloc (by simp; omega) _) ((HOWN.out.drewN _).alloc _) hg2 (by simp; omega) (Nat.le_refl _))
              have HO2 := Lib.hid hown2; clear hown2 hg2
              go_wp2_with fail
              go_roundw
              case rel => exact ⟨j + 1, by omega, by first | rfl | go_num, by rw [HSN.out]; exact HO2.out, hB2.out⟩
              case measure => simp [intOf]; omega
            · have hk : ((j : Int) == 0) = false := by simp; omega
              clear hj0
              by_cases hxy : x = y
              · have hne : (x != y) = false := by simpa using hxy
                clear hxy
                go_wp2_with fail
                go_quiet (fail)
                go_wp2_with (at_builtin; refine append_own intE rfl (.tmp 104) (.tmp 109) rfl wa.heap.size _ [x] _ rfl ((HOWN.out.drewN _).alloc _) _ 0 1 rfl (CellsAt.new _ _ _ _) ?c1 ?c2 ?_)
                case c1 => rw [HL.out]; simp; omega
                case c2 => simp; omega
                intro v2 w2 hown2 hg2
                have hB2 := Lib.hid (below_grown ((below_drewN HB.out _).alloc (by simp; omega) _) ((HOWN.out.drewN _).alloc _) hg2 (by simp; omega) (Nat.le_refl _))
                have HO2 := Lib.hid hown2; clear hown2 hg2
                go_wp2_with fail
                go_roundw
                case rel => exact ⟨j + 1, by omega, by first | rfl | go_num, by rw [HSN.out]; exact HO2.out, hB2.out⟩
                case measure => simp [intOf]; omega
              · have hne : (x != y) = true := by simpa using hxy
                clear hxy
                go_wp2_with fail
                go_quiet (fail)
                go_wp2_with (at_builtin; refine append_own intE rfl (.tmp 104) (.tmp 109) rfl wa.heap.size _ [x] _ rfl ((HOWN.out.drewN _).alloc _) _ 0 1 rfl (CellsAt.new _ _ _ _) ?c1 ?c2 ?_)
                case c1 => rw [HL.out]; simp; omega
                case c2 => simp; omega
                intro v2 w2 hown2 hg2
                have hB2 := Lib.hid (below_grown ((below_drewN HB.out _).alloc (by simp; omega) _) ((HOWN.out.drewN _).alloc _) hg2 (by simp; omega) (Nat.le_refl _))
                have HO2 := Lib.hid hown2; clear hown2 hg2
                go_wp2_with fail
                go_roundw
                case rel => exact ⟨j + 1, by omega, by first | rfl | go_num, by rw [HSN.out]; exact HO2.out, hB2.out⟩
                case measure => simp [intOf]; omega
          · have hj' : j = n := by omega
            rw [hj'] at hown
            clear hj'
            have hP : ∀ v, Own intE wr wa.heap.size v (argSlots c n) → ReadsSaid ⟨23, a, b, c⟩ (n:Int) w (.returned v) wr := fun v hv => ⟨v, rfl, by rw [HFIN.out]; exact Own.base hv (fun k hk => by have := (hv.lt hk).1; omega), HBW.out.trans (hB.mono (by omega))⟩
            have HP := Lib.hid (hP _ hown)
            clear hP hown hB
            go_wp2_with fail
            go_ret
            exact HP.out
  · skip
    go_enter Try.func55, Try.ntmps55
    go_wp2_with fail
    go_loopw [5, 6] (fun v i wa => ∃ k : Nat, k ≤ n ∧ i = .int .i64 k ∧ Own intE wa (w.heap.size + 1) v (argSlots c k) ∧ Below (w.heap.size + 1) (w.alloc (.cells #[.int .i64 24, .int .i64 a, .int .i64 b, .int .i64 c] 58)) wa) (fun _ i _ => n - (intOf i).toNat)
    case atStart => exact ⟨0, Nat.zero_le _, rfl, Own.nil _ _ _, Below.refl _ _⟩
    case round =>
      obtain ⟨k, hk, rfl, hown, hB⟩ := hrel
      obtain ⟨wa, hwa⟩ : ∃ wa, wa = wr := ⟨_, rfl⟩
      subst hwa
      obtain ⟨hx, hbw, hsz⟩ := HBX.out wa hB
      have q0 := hx 0 _ rfl
      have q3 := hx 3 _ rfl
      clear hx
      by_cases hlt : k < n
      · have hsn := argSlots_snoc c k
        have hl := argSlots_len c k
        generalize argSlots c k = L at *
        have HSN := Lib.hid hsn; clear hsn
        have HOWN := Lib.hid hown; clear hown
        have HB := Lib.hid hB; clear hB
        have HBW := Lib.hid hbw; clear hbw
        have HL := Lib.hid hl; clear hl
        go_wp2_with (at_builtin; refine append_own intE rfl (.tmp 64) (.tmp 69) rfl (w.heap.size + 1) L [wrap64 (c + (k : Int))] _ rfl (HOWN.out.alloc _) wa.heap.size 0 1 rfl (CellsAt.new _ _ _ _) ?c1 ?c2 ?_)
        case c1 => rw [HL.out]; simp; omega
        case c2 => simp; omega
        intro v2 w2 hown2 hg2
        have hB2 := Lib.hid (below_grown (HB.out.alloc (by omega) _) (HOWN.out.alloc _) hg2 (by simp; omega) (Nat.le_refl _))
        have HO2 := Lib.hid hown2; clear hown2 hg2 q3 q0
        go_wp2_with fail
        go_roundw
        case rel => exact ⟨k + 1, by omega, by go_num, by rw [HSN.out]; exact HO2.out, hB2.out⟩
        case measure => simp [intOf]; omega
      · have hk' : k = n := by omega
        rw [hk'] at hown
        clear hk'
        obtain ⟨g, c1, hv1, hgb, hgl, hcl⟩ := int_cells hown (by rw [argSlots_len]; omega)
        subst hv1
        have hcl : ∀ j, j < n → wa.cell? ⟨g, j, none⟩ = some (.int .i64 (wrap64 (c + (j : Int)))) := fun j hj => by
          have := hcl j (by rw [argSlots_len]; exact hj)
          rw [argSlots_get] at this
          exact this
        rw [argSlots_len]
        clear hown hB q3
        have HCL := Lib.hid hcl; clear hcl
        have HBW := Lib.hid hbw; clear hbw
        have Q0 := Lib.hid q0; clear q0
        go_wp2_with fail
        go_loopw [7, 8] (fun v i wr => ∃ j : Nat, j ≤ n ∧ i = .int .i64 j ∧ Own intE wr wa.heap.size v (argSlots c j) ∧ Below wa.heap.size wa wr) (fun _ i _ => n - (intOf i).toNat)
        case atStart => exact ⟨0, Nat.zero_le _, rfl, Own.nil _ _ _, Below.refl _ _⟩
        case round =>
          obtain ⟨j, hj, rfl, hown, hB⟩ := hrel
          by_cases hlt : j < n
          · obtain ⟨hx2, _, hs2⟩ := bcell hB
            have d0 : wr.cell? ⟨w.heap.size, 0, none⟩ = some (.int .i64 24) := (hx2 _ _ (by omega)).trans Q0.out
            have dj := (hx2 _ _ hgl).trans (HCL.out j hlt)
            have dz := (hx2 _ _ hgl).trans (HCL.out 0 (by omega))
            clear hx2
            have hsn := argSlots_snoc c j
            have hl := argSlots_len c j
            have hi1 : (0 : Int) ≤ (j : Int) := Int.natCast_nonneg j
            have hi2 : (j : Int) < (n:Int) := by omega
            generalize argSlots c j = L at *
            generalize wrap64 (c + (j : Int)) = x at dj hsn
            generalize wrap64 (c + ((0 : Nat) : Int)) = y at dz
            have HSN := Lib.hid hsn; clear hsn
            have HOWN := Lib.hid hown; clear hown
            have HB := Lib.hid hB; clear hB
            have HL := Lib.hid hl; clear hl
            by_cases hj0 : j = 0
            · have hk : ((j : Int) == 0) = true := by simp [hj0]
              clear hj0 dz
              go_wp2_with fail
              go_quiet (fail)
              go_wp2_with (at_builtin; refine append_own intE rfl (.tmp 104) (.tmp 109) rfl wa.heap.size _ [x] _ rfl ((HOWN.out.drewN _).alloc _) _ 0 1 rfl (CellsAt.new _ _ _ _) ?c1 ?c2 ?_)
              case c1 => rw [HL.out]; simp; omega
              case c2 => simp; omega
              intro v2 w2 hown2 hg2
              have hB2 := Lib.hid (below_grown ((below_drewN HB.out _).alloc (by simp; omega) _) ((HOWN.out.drewN _).alloc _) hg2 (by simp; omega) (Nat.le_refl _))
              have HO2 := Lib.hid hown2; clear hown2 hg2
              go_wp2_with fail
              go_roundw
              case rel => exact ⟨j + 1, by omega, by first | rfl | go_num, by rw [HSN.out]; exact HO2.out, hB2.out⟩
              case measure => simp [intOf]; omega
            · have hk : ((j : Int) == 0) = false := by simp; omega
              clear hj0
              by_cases hxy : x = y
              · have hne : (x != y) = false := by simpa using hxy
                clear hxy
                go_wp2_with fail
                go_quiet (fail)
                go_wp2_with (at_builtin; refine append_own intE rfl (.tmp 104) (.tmp 109) rfl wa.heap.size _ [x] _ rfl ((HOWN.out.drewN _).alloc _) _ 0 1 rfl (CellsAt.new _ _ _ _) ?c1 ?c2 ?_)
                case c1 => rw [HL.out]; simp; omega
                case c2 => simp; omega
                intro v2 w2 hown2 hg2
                have hB2 := Lib.hid (below_grown ((below_drewN HB.out _).alloc (by simp; omega) _) ((HOWN.out.drewN _).alloc _) hg2 (by simp; omega) (Nat.le_refl _))
                have HO2 := Lib.hid hown2; clear hown2 hg2
                go_wp2_with fail
                go_roundw
                case rel => exact ⟨j + 1, by omega, by first | rfl | go_num, by rw [HSN.out]; exact HO2.out, hB2.out⟩
                case measure => simp [intOf]; omega
              · have hne : (x != y) = true := by simpa using hxy
                clear hxy
                go_wp2_with fail
                go_quiet (fail)
                go_wp2_with (at_builtin; refine append_own intE rfl (.tmp 104) (.tmp 109) rfl wa.heap.size _ [x] _ rfl ((HOWN.out.drewN _).alloc _) _ 0 1 rfl (CellsAt.new _ _ _ _) ?c1 ?c2 ?_)
                case c1 => rw [HL.out]; simp; omega
                case c2 => simp; omega
                intro v2 w2 hown2 hg2
                have hB2 := Lib.hid (below_grown ((below_drewN HB.out _).alloc (by simp; omega) _) ((HOWN.out.drewN _).alloc _) hg2 (by simp; omega) (Nat.le_refl _))
                have HO2 := Lib.hid hown2; clear hown2 hg2
                go_wp2_with fail
                go_roundw
                case rel => exact ⟨j + 1, by omega, by first | rfl | go_num, by rw [HSN.out]; exact HO2.out, hB2.out⟩
                case measure => simp [intOf]; omega
          · have hj' : j = n := by omega
            rw [hj'] at hown
            clear hj'
            have hP : ∀ v, Own intE wr wa.heap.size v (argSlots c n) → ReadsSaid ⟨24, a, b, c⟩ (n:Int) w (.returned v) wr := fun v hv => ⟨v, rfl, by rw [HFIN.out]; exact Own.base hv (fun k hk => by have := (hv.lt hk).1; omega), HBW.out.trans (hB.mono (by omega))⟩
            have HP := Lib.hid (hP _ hown)
            clear hP hown hB
            go_wp2_with fail
            go_ret
            exact HP.out
theorem rreads_any (w : World) (x : Ins) (args : Int) : Calls Try.prog 55 #[x.val, .int .i64 args] w (ReadsSaid x args w) := by
  obtain ⟨op, a, b, c⟩ := x
  by_cases h1 : op ∈ [2, 12, 14, 17, 19]
  · exact rreads_b w op a b c args h1
  by_cases h2 : op ∈ [3, 4, 5, 6, 7, 8]
  · exact rreads_bc w op a b c args h2
  by_cases h3 : op ∈ [10, 29]
  · exact rreads_a w op a b c args h3
  by_cases h4 : op ∈ [15, 20]
  · exact rreads_ac w op a b c args h4
  by_cases h5 : op ∈ [25]
  · exact rreads_ab w op a b c args h5
  by_cases h6 : op ∈ [21, 23, 24]
  · exact rreads_call w op a b c args h6
  refine rreads_none w op a b c args (fun h => ?_)
  simp at h1 h2 h3 h4 h5 h6 h
  omega
end Go.Proofs.Ytmmdppjbofbjhaa
