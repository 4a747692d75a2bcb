/- Walk: the reference's ReadCode: the instructions of bytes. -/
import Derived.Test.YtmmdppjbofbjhaaRefB
import Derived.Deep.RegionHeld3
import Derived.Test.YtmmdppjbofbjhaaBox
import Derived.BigRegion
import Derived.Deep.CutBlock
import Derived.Deep.DeepCutAuto
namespace Go.Proofs.Ytmmdppjbofbjhaa
open Go.ChangeShapes Go.WideShapes Go.ChangeAt Go.RowKit

theorem four_cells {w : World} {q : Nat} {x0 x1 x2 x3 : Value} {t : TypeId} (h : w.heap[q]? = some (.cells #[x0, x1, x2, x3] t)) :
    (w.cell? ⟨q, 0, none⟩ = some x0 ∧ w.cell? ⟨q, 1, none⟩ = some x1 ∧ w.cell? ⟨q, 2, none⟩ = some x2 ∧ w.cell? ⟨q, 3, none⟩ = some x3) ∧ w.frozen? ⟨q, 0, none⟩ = false ∧ w.frozen? ⟨q, 1, none⟩ = false ∧ w.frozen? ⟨q, 2, none⟩ = false ∧ w.frozen? ⟨q, 3, none⟩ = false :=
  ⟨⟨(row_cell h 0).1, (row_cell h 1).1, (row_cell h 2).1, (row_cell h 3).1⟩, (row_cell h 0).2, (row_cell h 1).2, (row_cell h 2).2, (row_cell h 3).2⟩
set_option maxRecDepth 100000 in
set_option maxHeartbeats 3200000 in
theorem rreadCode_any (b : ByteArray) (w : World) (hb : b.size ≤ 1000000) :
    Calls Try.prog 39 #[.string b] w (RReadPost b w) := by
  by_cases h7 : b.size % 7 = 0
  case neg =>
    have h7' : ((b.size : Int) % 7 != 0) = true := by rw [bne_iff_ne]; omega
    have hok : readOk b = false := by
      unfold readOk
      rw [show (b.size % 7 == 0) = false from by simpa using h7, Bool.false_and]
    have hP : RReadPost b w (.returned (.tuple #[.slice none 0 0, .bool false])) w := ⟨_, by rw [hok], by unfold readL; rw [hok]; exact Own.nil _ _ _, Below.refl _ _⟩
    clear hok h7
    have HP := Lib.hid hP; clear hP
    go_enter Try.func39, Try.ntmps39
    go_wp2_with fail
    go_ret2
    exact HP.out
  have h7' : ((b.size : Int) % 7 != 0) = false := by rw [bne_eq_false_iff_eq]; omega
  go_enter Try.func39, Try.ntmps39
  go_wp2_with fail
  clear h7'
  go_loopw [4, 5] (fun v i wr => ∃ at_ k : Nat, at_ = 7 * k ∧ at_ ≤ b.size ∧ i = .int .i64 at_ ∧ Own insE wr w.heap.size v (rdAll b k) ∧ Below w.heap.size w wr ∧ (rdAll b k).all rightB = true) (fun _ i _ => b.size - (intOf i).toNat)
  case atStart => exact ⟨0, 0, rfl, Nat.zero_le _, rfl, Own.nil _ _ _, Below.refl _ _, rfl⟩
  case round =>
    obtain ⟨at_, k, hak, hle, rfl, hown, hB, hall⟩ := hrel
    by_cases hlt : at_ < b.size
    · have h7le : at_ + 7 ≤ b.size := by omega
      obtain ⟨hs4, hg4⟩ := ext4 b at_ h7le
      have hrw := rword_any (b.extract (at_ + 3) (at_ + 7)) hs4
      rw [hg4 0 (by omega), hg4 1 (by omega), hg4 2 (by omega), hg4 3 (by omega)] at hrw
      have l1 : at_ + 1 < b.size := by omega
      have l2 : at_ + 2 < b.size := by omega
      have g0 := gb_get b at_ hlt
      have g1 := gb_get b (at_ + 1) l1
      have g2 := gb_get b (at_ + 2) l2
      have hx : rdAt b at_ = ⟨gb b at_, gb b (at_ + 1), readV (gb b (at_ + 3 + 0)) (gb b (at_ + 3 + 1)) (gb b (at_ + 3 + 2)) (gb b (at_ + 3 + 3)), gb b (at_ + 2)⟩ := rfl
      generalize readV (gb b (at_ + 3 + 0)) (gb b (at_ + 3 + 1)) (gb b (at_ + 3 + 2)) (gb b (at_ + 3 + 3)) = xb at *
      have hbd0 := gb_bd b at_
      have hbd1 := gb_bd b (at_ + 1)
      have hbd2 := gb_bd b (at_ + 2)
      clear hg4 hs4
      have hrr := right_rd b at_
      rw [hx] at hrr
      have kn := fun w => rknown_any w (gb b at_)
      unfold RKnownSaid at kn
      have un : ∀ w, Calls Try.prog 89 #[.agg #[.int .i64 (gb b at_), .int .i64 (gb b (at_ + 1)), .int .i64 xb, .int .i64 (gb b (at_ + 2))]] w fun e w' => e = .returned (.bool (unusedB ⟨gb b at_, gb b (at_ + 1), xb, gb b (at_ + 2)⟩)) ∧ Below w.heap.size w w' := unused_any ⟨gb b at_, gb b (at_ + 1), xb, gb b (at_ + 2)⟩
      generalize gb b at_ = xop at *
      generalize gb b (at_ + 1) = xa at *
      generalize gb b (at_ + 2) = xc at *
      generalize unusedB ⟨xop, xa, xb, xc⟩ = ub at *
      generalize knownS xop = kb at *
      have hno : (kb && ub) = false → readOk b = false := fun h => readOk_no b k (by rw [← hak]; exact hlt) h7 (by rw [← hak, hx, hrr]; exact h)
      have HAK := Lib.hid hak; clear hak
      have HALL := Lib.hid hall; clear hall
      have HRW := Lib.hid hrw; clear hrw
      have KN := Lib.hid kn; clear kn
      have UN := Lib.hid un; clear un
      have HX := Lib.hid hx; clear hx
      have HRR := Lib.hid hrr; clear hrr
      have HNO := Lib.hid hno; clear hno
      have HOWN := Lib.hid hown; clear hown
      have HB := Lib.hid hB; clear hB
      have n1 : (0 : Int) ≤ (at_ : Int) + 1 := by omega
      have n2 : (0 : Int) ≤ (at_ : Int) + 2 := by omega
      have n3 : (0 : Int) ≤ (at_ : Int) + 3 := by omega
      have n7 : (0 : Int) ≤ (at_ : Int) + 7 := by omega
      have m0 : (at_ : Int) < b.size := by omega
      have m1 : (at_ : Int) + 1 < b.size := by omega
      have m2 : (at_ : Int) + 2 < b.size := by omega
      have m3 : (at_ : Int) + 3 ≤ (at_ : Int) + 7 := by omega
      have m7 : (at_ : Int) + 7 ≤ b.size := by omega
      have ix0 : IntKind.i64.wrap xop = xop := IntWalk.i64_in _ (by omega)
      have ix1 : IntKind.i64.wrap xa = xa := IntWalk.i64_in _ (by omega)
      have ix2 : IntKind.i64.wrap xc = xc := IntWalk.i64_in _ (by omega)
      have t1 : ((at_ : Int) + 1).toNat = at_ + 1 := by omega
      have t2 : ((at_ : Int) + 2).toNat = at_ + 2 := by omega
      have t3 : ((at_ : Int) + 3).toNat = at_ + 3 := by omega
      have t7 : ((at_ : Int) + 7).toNat = at_ + 7 := by omega
      have i1 : IntKind.i64.wrap ((at_ : Int) + 1) = (at_ : Int) + 1 := IntWalk.i64_in _ (by omega)
      have i2 : IntKind.i64.wrap ((at_ : Int) + 2) = (at_ : Int) + 2 := IntWalk.i64_in _ (by omega)
      have i3 : IntKind.i64.wrap ((at_ : Int) + 3) = (at_ : Int) + 3 := IntWalk.i64_in _ (by omega)
      have i7 : IntKind.i64.wrap ((at_ : Int) + 7) = (at_ : Int) + 7 := IntWalk.i64_in _ (by omega)
      go_upto_region 7 with fail
      go_cut [6] (fun o wx => ∃ y : Nat, o = .pointer (some ⟨y, 0, none⟩) ∧ wr.heap.size ≤ y ∧ (wx.cell? ⟨y, 0, none⟩ = some (.int .i64 xop) ∧ wx.cell? ⟨y, 1, none⟩ = some (.int .i64 xa) ∧ wx.cell? ⟨y, 2, none⟩ = some (.int .i64 xb) ∧ wx.cell? ⟨y, 3, none⟩ = some (.int .i64 xc)) ∧ Below wr.heap.size wr wx)
      case first =>
        refine wp_region_noPanic ?_
        refine wp_region_any (by kernel_rfl) ?_
        change wpAny _ _ _ _ _ _ _ (World.drew _)
        refine wpAny_take (i := 0) (v := ?_) rfl (by kernel_rfl) (by kernel_rfl) (by kernel_rfl) (fun _ _ _ h => h) (Or.inl ⟨by rfl, ?tk0⟩) ?_
        case tk0 => (intro w; go_simp; try with_reducible rfl)
        refine wpAny_take (i := 1) (v := ?_) rfl (by kernel_rfl) (by kernel_rfl) (by kernel_rfl) (fun _ _ _ h => h) (Or.inl ⟨by rfl, ?tk1⟩) ?_
        case tk1 => (intro w; go_simp; try with_reducible rfl)
        refine wpAny_take (i := 2) (v := ?_) rfl (by kernel_rfl) (by kernel_rfl) (by kernel_rfl) (fun _ _ _ h => h) (Or.inl ⟨by rfl, ?tk2⟩) ?_
        case tk2 => (intro w; go_simp; try with_reducible rfl)
        refine wpAny_take (i := 3) (v := ?_) rfl (by kernel_rfl) (by kernel_rfl) (by kernel_rfl) (fun _ _ _ h => h) (Or.inl ⟨by rfl, ?tk3⟩) ?_
        case tk3 => (intro w; go_simp; try with_reducible rfl)
        refine wpAny_take (i := 4) (v := ?_) rfl (by kernel_rfl) (by kernel_rfl) (by kernel_rfl) (fun _ _ _ h => h) (Or.inl ⟨by rfl, ?tk4⟩) ?_
        case tk4 => (intro w; go_simp; try with_reducible rfl)
        refine wpAny_take (i := 5) (v := ?_) rfl (by kernel_rfl) (by kernel_rfl) (by kernel_rfl) (fun _ _ _ h => h) (Or.inl ⟨by rfl, ?tk5⟩) ?_
        case tk5 => (intro w; go_simp; try with_reducible rfl)
        refine wpAny_take (i := 6) (v := ?_) rfl (by kernel_rfl) (by kernel_rfl) (by kernel_rfl) (fun _ _ _ h => h) (Or.inl ⟨by rfl, ?tk6⟩) ?_
        case tk6 => (intro w; go_simp; try with_reducible rfl)
        refine wpAny_take (i := 7) (v := ?_) rfl (by kernel_rfl) (by kernel_rfl) (by kernel_rfl) (fun _ _ _ h => h) (Or.inl ⟨by rfl, ?tk7⟩) ?_
        case tk7 => (intro w; go_simp; try with_reducible rfl)
        refine wpAny_take (i := 8) (v := ?_) rfl (by kernel_rfl) (by kernel_rfl) (by kernel_rfl) (fun _ _ _ h => h) (Or.inl ⟨by rfl, ?tk8⟩) ?_
        case tk8 => (intro w; go_simp; try with_reducible rfl)
        refine wpAny_take (i := 9) (v := ?_) rfl (by kernel_rfl) (by kernel_rfl) (by kernel_rfl) (fun _ _ _ h => h) (Or.inl ⟨by rfl, ?tk9⟩) ?_
        case tk9 => (intro w; go_simp; try with_reducible rfl)
        refine wpAny_take (i := 10) (v := ?_) rfl (by kernel_rfl) (by kernel_rfl) (by kernel_rfl) (fun _ _ _ h => h) (Or.inl ⟨by rfl, ?tk10⟩) ?_
        case tk10 => (intro w; go_simp; try with_reducible rfl)
        refine wpAny_take (i := 11) (v := ?_) rfl (by kernel_rfl) (by kernel_rfl) (by kernel_rfl) (fun _ _ _ h => h) (Or.inl ⟨by rfl, ?tk11⟩) ?_
        case tk11 => (intro w; go_simp; try with_reducible rfl)
        refine wpAny_take (i := 12) (v := ?_) rfl (by kernel_rfl) (by kernel_rfl) (by kernel_rfl) (fun _ _ _ h => h) (Or.inl ⟨by rfl, ?tk12⟩) ?_
        case tk12 => (intro w; go_simp; try with_reducible rfl)
        refine wpAny_take (i := 13) (v := ?_) rfl (by kernel_rfl) (by kernel_rfl) (by kernel_rfl) (fun _ _ _ h => h) (Or.inl ⟨by rfl, ?tk13⟩) ?_
        case tk13 => (intro w; go_simp; try with_reducible rfl)
        refine wpAny_take (i := 14) (v := ?_) rfl (by kernel_rfl) (by kernel_rfl) (by kernel_rfl) (fun _ _ _ h => h) (Or.inl ⟨by rfl, ?tk14⟩) ?_
        case tk14 => (intro w; go_simp; try with_reducible rfl)
        refine wpAny_take (i := 16) (v := ?_) rfl (by kernel_rfl) (by kernel_rfl) (by kernel_rfl) (fun _ _ _ h => h) (Or.inl ⟨by rfl, ?tk16⟩) ?_
        case tk16 => (intro w; go_simp; try with_reducible rfl)
        refine wpAny_take (i := 17) (v := ?_) rfl (by kernel_rfl) (by kernel_rfl) (by kernel_rfl) (fun _ _ _ h => h) (Or.inl ⟨by rfl, ?tk17⟩) ?_
        case tk17 => (intro w; go_simp; try with_reducible rfl)
        refine wpAny_take (i := 18) (v := ?_) rfl (by kernel_rfl) (by kernel_rfl) (by kernel_rfl) (fun _ _ _ h => h) (Or.inl ⟨by rfl, ?tk18⟩) ?_
        case tk18 => (intro w; go_simp; try with_reducible rfl)
        refine wpAny_take (i := 19) (v := ?_) rfl (by kernel_rfl) (by kernel_rfl) (by kernel_rfl) (fun _ _ _ h => h) (Or.inl ⟨by rfl, ?tk19⟩) ?_
        case tk19 => (intro w; go_simp; try with_reducible rfl)
        refine wpAny_take (i := 20) (v := ?_) rfl (by kernel_rfl) (by kernel_rfl) (by kernel_rfl) (fun _ _ _ h => h) (Or.inl ⟨by rfl, ?tk20⟩) ?_
        case tk20 => (intro w; go_simp; try with_reducible rfl)
        refine wpAny_ready (rs := [15, 22]) (by kernel_rfl) (by simp) ?_
        refine AllReady.cons rfl (fun K hK => ?_) (AllReady.cons rfl (fun K hK => ?_) AllReady.nil)
        · go_simp
          go_at_call 33
          refine (HRW.out _).mono ?_
          rintro e w4 ⟨rfl, hw4⟩
          have hb4 : Below wr.heap.size wr w4 := by
            obtain ⟨n, rfl⟩ := hw4
            exact below_drewN ((Below.refl _ _).drew) n
          clear hw4
          refine hK _ _ ?_
          clear hK K
          refine wpAny_take (i := 21) (v := ?_) rfl (by kernel_rfl) (by kernel_rfl) (by kernel_rfl) (fun _ _ _ h => h) (Or.inl ⟨by rfl, ?tk21a⟩) ?_
          case tk21a => (intro w; go_simp; try with_reducible rfl)
          refine wpAny_ready (rs := [22]) (by kernel_rfl) (by simp) ?_
          refine AllReady.cons rfl (fun K hK => ?_) AllReady.nil
          go_simp
          refine hK _ _ ?_
          clear hK K
          refine wpAny_ready (rs := [23]) (by kernel_rfl) (by simp) ?_
          refine AllReady.cons rfl (fun K hK => ?_) AllReady.nil
          go_simp
          refine hK _ _ ?_
          clear hK K
          refine wpAny_done (by kernel_rfl) ?_ _
          refine NoPanic.normal ?_
          go_wp2_with fail
          go_meet
          case rel => exact ⟨_, rfl, hb4.size, ⟨cell_new w4 _ _ (0, 0) 0, cell_new w4 _ _ (0, 0) 1, cell_new w4 _ _ (0, 0) 2, cell_new w4 _ _ (0, 0) 3⟩, hb4.alloc hb4.size _⟩
        · go_simp
          refine hK _ _ ?_
          clear hK K
          refine wpAny_ready (rs := [15]) (by kernel_rfl) (by simp) ?_
          refine AllReady.cons rfl (fun K hK => ?_) AllReady.nil
          go_simp
          go_at_call 33
          refine (HRW.out _).mono ?_
          rintro e w4 ⟨rfl, hw4⟩
          obtain ⟨y, hy⟩ : ∃ y, y = wr.heap.size := ⟨_, rfl⟩
          have hb4 : Below wr.heap.size wr w4 := by
            obtain ⟨n, rfl⟩ := hw4
            exact below_drewN (((Below.refl wr.heap.size wr).drew).alloc (Nat.le_refl _) _) n
          have hh : w4.heap[wr.heap.size]? = some (.cells #[.int .i64 0, .int .i64 0, .int .i64 0, .int .i64 0] 58) := by
            obtain ⟨n, rfl⟩ := hw4
            exact heap_new wr.drew _
          obtain ⟨⟨c0, c1, c2, c3⟩, f0, f1, f2, f3⟩ := four_cells hh
          have HH := Lib.hid hh
          clear hw4 hh
          refine hK _ _ ?_
          clear hK K
          refine wpAny_take (i := 21) (v := ?_) rfl (by kernel_rfl) (by kernel_rfl) (by kernel_rfl) (fun _ _ _ h => h) (Or.inl ⟨by rfl, ?tk21b⟩) ?_
          case tk21b => (intro w; go_simp; try with_reducible rfl)
          refine wpAny_ready (rs := [23]) (by kernel_rfl) (by simp) ?_
          refine AllReady.cons rfl (fun K hK => ?_) AllReady.nil
          go_simp
          refine hK _ _ ?_
          clear hK K
          refine wpAny_done (by kernel_rfl) ?_ _
          refine NoPanic.normal ?_
          go_wp2_with fail
          go_meet
          case rel =>
            have hn := row_set (row_set (row_set (row_set HH.out 0 (.int .i64 xop)) 1 (.int .i64 xa)) 2 (.int .i64 xb)) 3 (.int .i64 xc)
            have hfr : Fr (onB wr.heap.size) w4 _ := ((((Fr.refl (onB wr.heap.size) w4).setCell (p := ⟨wr.heap.size, 0, none⟩) (fun _ => rfl) (.int .i64 xop)).setCell (p := ⟨wr.heap.size, 1, none⟩) (fun _ => rfl) (.int .i64 xa)).setCell (p := ⟨wr.heap.size, 2, none⟩) (fun _ => rfl) (.int .i64 xb)).setCell (p := ⟨wr.heap.size, 3, none⟩) (fun _ => rfl) (.int .i64 xc)
            exact ⟨_, rfl, Nat.le_refl _, (four_cells hn).1, hb4.trans (hfr.below hb4.size (fun k hk => by unfold onB at hk; omega))⟩
      case rest =>
        obtain ⟨y, rfl, hy, ⟨q0, q1, q2, q3⟩, hb5⟩ := hcut
        have hB5 := HB.out.trans (hb5.mono HB.out.size)
        have hO5 : Own insE wc w.heap.size _ (rdAll b k) := Own.below HOWN.out hb5
        clear hb5 n1 n2 n3 n7 m0 m1 m2 m3 m7 t1 t2 t3 t7 i1 i2 i3 i7 g0 g1 g2
        cases kb
        · have hno2 := HNO.out rfl
          have hP : RReadPost b w (.returned (.tuple #[.slice none 0 0, .bool false])) wc := ⟨_, by rw [hno2], by unfold readL; rw [hno2]; exact Own.nil _ _ _, hB5⟩
          clear hno2 hB5 hO5
          have HP := Lib.hid hP; clear hP
          go_wp2_with fail
          refine (KN.out _).mono ?_; rintro e w6 ⟨rfl, rfl⟩
          go_wp2_with fail
          go_ret2
          exact HP.out
        · skip
          have HB5 := Lib.hid hB5; clear hB5
          have HO5 := Lib.hid hO5; clear hO5
          go_wp2_with fail
          refine (KN.out _).mono ?_; rintro e w6 ⟨rfl, rfl⟩
          go_wp2_with fail
          refine (UN.out _).mono ?_; rintro e w6 ⟨rfl, hb6⟩
          have hB6 := HB5.out.trans (hb6.mono HB5.out.size)
          cases ub
          · have hno2 := HNO.out rfl
            have hP : RReadPost b w (.returned (.tuple #[.slice none 0 0, .bool false])) w6 := ⟨_, by rw [hno2], by unfold readL; rw [hno2]; exact Own.nil _ _ _, hB6⟩
            clear hno2 hB6 hb6
            have HP := Lib.hid hP; clear hP
            go_wp2_with fail
            go_ret2
            exact HP.out
          · have q0 := below_cell hb6 q0
            have q1 := below_cell hb6 q1
            have q2 := below_cell hb6 q2
            have q3 := below_cell hb6 q3
            have ho6 := Own.below HO5.out hb6
            clear hb6
            have HB6 := Lib.hid hB6; clear hB6
            have HO6 := Lib.hid ho6; clear ho6
            go_wp2_with (at_builtin; refine append_own insE rfl (.tmp 48) (.tmp 50) rfl w.heap.size (rdAll b k) [⟨xop, xa, xb, xc⟩] _ rfl (HO6.out.alloc _) w6.heap.size 0 1 rfl (CellsAt.new _ _ _ _) ?c1 ?c2 ?_)
            case c1 => rw [rdAll_len]; have := HAK.out; simp; omega
            case c2 => have := HB6.out.size; simp; omega
            intro v3 w3 hown3 hg3
            have hB7 := below_grown (HB6.out.alloc HB6.out.size _) (HO6.out.alloc _) hg3 (by have := HB6.out.size; simp; omega) (Nat.le_refl _)
            clear hg3 q0 q1 q2 q3
            have HB7 := Lib.hid hB7; clear hB7
            have HOWN3 := Lib.hid hown3; clear hown3
            go_wp2_with fail
            go_roundw
            case rel =>
              refine ⟨at_ + 7, k + 1, by have := HAK.out; omega, h7le, by go_num, ?_, HB7.out, ?_⟩
              · have hsn : rdAll b (k + 1) = rdAll b k ++ [⟨xop, xa, xb, xc⟩] := by rw [rdAll_snoc, ← HAK.out, HX.out]
                rw [hsn]; exact HOWN3.out
              · rw [rdAll_snoc, List.all_append, HALL.out, ← HAK.out]; simp [HX.out, HRR.out]
            case measure => simp [intOf]; omega
    · have hk' : at_ = b.size := by omega
      have hkk : b.size / 7 = k := by omega
      have hok : readOk b = true := by
        unfold readOk
        rw [hkk, hall, h7]; rfl
      have hP : ∀ v, Own insE wr w.heap.size v (rdAll b k) → RReadPost b w (.returned (.tuple #[v, .bool true])) wr := fun v hv => ⟨v, by rw [hok], by unfold readL; rw [hok, if_pos rfl, hkk]; exact hv, hB⟩
      have HP := Lib.hid (hP _ hown)
      clear hok hkk hall hown hB hak hP
      go_wp2_with fail
      go_ret2
      exact HP.out
end Go.Proofs.Ytmmdppjbofbjhaa
