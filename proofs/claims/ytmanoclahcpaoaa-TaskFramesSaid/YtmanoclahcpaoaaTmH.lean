/- Walk: TaskFrames, behind its first call. -/
import Derived.Test.YtmanoclahcpaoaaTkX
import Derived.Test.YtmanoclahcpaoaaTmG
namespace Go.Proofs.Ytmanoclahcpaoaa
open Go.ChangeShapes Go.WideShapes Go.ChangeAt Go.RowKit Go.Maps

theorem slot_three (slot : Int) : ∃ s : Nat, s < 3 ∧ (wrap64 (slot.tmod 3 + 3)).tmod 3 = (s : Int) := by
  have h1 := Int.lt_tmod_of_pos slot (show (0 : Int) < 3 by decide)
  have h2 := Int.tmod_lt_of_pos slot (show (0 : Int) < 3 by decide)
  generalize slot.tmod 3 = r at *
  have h3 : wrap64 (r + 3) = r + 3 := IntWalk.wrap64_in _ (by omega)
  rw [h3, Int.tmod_eq_emod_of_nonneg (by omega)]
  exact ⟨((r + 3) % 3).toNat, by omega, by omega⟩
theorem three_words {T : Tk} {d : Nat} {s : Int} (h : FrI T d s) (hd : d ≤ 30) : FrI (setT (setT (setT T (7 * d + (2 + 0)) ((d : Nat) : Int)) (7 * d + (2 + 1)) ((100 + d : Nat) : Int)) (7 * d + (2 + 2)) ((200 + d : Nat) : Int)) d s ∧ ∀ k, k < 3 → (setT (setT (setT T (7 * d + (2 + 0)) ((d : Nat) : Int)) (7 * d + (2 + 1)) ((100 + d : Nat) : Int)) (7 * d + (2 + 2)) ((200 + d : Nat) : Int)).words[7 * d + (2 + k)]? = some ((100 * k + d : Nat) : Int) := by
  have h1 := h.set 0 ((d : Nat) : Int)
  have h2 := h1.set 1 ((100 + d : Nat) : Int)
  have h3 := h2.set 2 ((200 + d : Nat) : Int)
  refine ⟨h3, fun k hk => ?_⟩
  have hk2 : k = 0 ∨ k = 1 ∨ k = 2 := by omega
  rcases hk2 with rfl | rfl | rfl
  · rw [setT_other 2 0 (by omega), setT_other 1 0 (by omega), setT_same h (by omega) 0 (by omega)]
    simp
  · rw [setT_other 2 1 (by omega), setT_same h1 (by omega) 1 (by omega)]
  · rw [setT_same h2 (by omega) 2 (by omega)]
set_option maxRecDepth 100000 in
set_option maxHeartbeats 3200000 in
theorem frames_walk (al : ∀ w, Calls Try.prog 6 #[] w fun e w' => e = .returned (.bool true) ∧ Below w.heap.size w w') (w : World) (n a b v slot : Int) :
    Calls Try.prog 4 #[.int .i64 n, .int .i64 a, .int .i64 b, .int .i64 v, .int .i64 slot] w fun e w' => e = .returned (.bool true) ∧ Below w.heap.size w w' := by
  by_cases hout : n < 1 ∨ 20 < n
  case pos =>
    have AL := Lib.hid al; clear al
    by_cases c3 : n < 1
    · skip
      go_enter Try.func4, Try.ntmps4
      go_wp2_with fail
      refine (AL.out _).mono ?_
      rintro e w1 ⟨rfl, hb⟩
      have HB := Lib.hid hb
      clear hb
      go_wp2_with fail
      go_ret
      exact ⟨rfl, HB.out⟩
    by_cases c4 : 20 < n
    · skip
      go_enter Try.func4, Try.ntmps4
      go_wp2_with fail
      refine (AL.out _).mono ?_
      rintro e w1 ⟨rfl, hb⟩
      have HB := Lib.hid hb
      clear hb
      go_wp2_with fail
      go_ret
      exact ⟨rfl, HB.out⟩
    exact absurd hout (by omega)
  have c3 : ¬ n < 1 := by omega
  have c4 : ¬ 20 < n := by omega
  obtain ⟨m, rfl⟩ : ∃ m : Nat, n = m := ⟨n.toNat, by omega⟩
  clear hout
  have on := one_any
  have nw : ∀ wr D c0 c1 c2, (∀ k, D k → k < wr.heap.size) → PV wr D p1 c0 c1 c2 → Calls Try.prog 8 #[.agg #[c0, c1, c2], .int .i64 0, .slice none 0 0, .int .i64 0, .int .i64 1000, .int .i64 2000] wr fun e w' => ∃ tb F X, e = .returned (.tuple #[.pointer (some ⟨tb, 0, none⟩), .int .i64 0]) ∧ TaskAt w' F tb p1 (enterT ⟨1073741824, List.replicate 1000 0, [], []⟩ 0 7 0 (-1) []) X ∧ (∀ k, F k → wr.heap.size ≤ k) ∧ Below wr.heap.size wr w' := fun wr D c0 c1 c2 hD hv => by
    have := new_any wr D hD p1 c0 c1 c2 hv p1_small 0 (by decide) rfl (by decide) 0 (by omega) 1000 2000 1000 (by omega) (by omega) (by omega) (by rw [w10]; omega) (fun w => by rw [w10]; exact fit_stay w 1000 _ (by omega) (by omega) (by omega))
    rw [w10] at this
    exact this
  have AL := Lib.hid al; clear al
  have ON := Lib.hid on; clear on
  have NW := Lib.hid nw; clear nw
  go_enter Try.func4, Try.ntmps4
  go_wp2_with fail
  refine (AL.out _).mono ?_
  rintro e w1 ⟨rfl, hb1⟩
  have HB1 := Lib.hid hb1
  clear hb1
  go_wp2_with fail
  refine (ON.out _).mono ?_
  rintro e w2 ⟨e0, e1, e2, rfl, hv2, hb2⟩
  obtain ⟨⟨a0, n0, m0, rfl⟩, ⟨a1, m1, rfl, _⟩, a2, m2, rfl, _⟩ := id hv2
  have hb2 := HB1.out.trans (hb2.mono HB1.out.size)
  have hv3 := hv2.fr ((Fr.refl (fun _ => False) w2).alloc (.cells #[.slice a0 n0 m0, .slice a1 p1.shapes.length m1, .slice a2 p1.funcs.length m2] 27)) (fun _ _ h => h)
  have hb3 := hb2.alloc hb2.size (.cells #[.slice a0 n0 m0, .slice a1 p1.shapes.length m1, .slice a2 p1.funcs.length m2] 27)
  have hD3 : ∀ k, w1.heap.size ≤ k ∧ k < w2.heap.size → k < (w2.alloc (.cells #[.slice a0 n0 m0, .slice a1 p1.shapes.length m1, .slice a2 p1.funcs.length m2] 27)).heap.size := fun k hk => by simp; omega
  clear hb2
  have HV2 := Lib.hid hv2; clear hv2
  have HV3 := Lib.hid hv3; clear hv3
  have HB3 := Lib.hid hb3; clear hb3
  have HD3 := Lib.hid hD3; clear hD3
  go_wp2_with fail
  refine (NW.out _ _ _ _ _ HD3.out HV3.out).mono ?_
  rintro e w4 ⟨tb, F, X, rfl, hT, hF, hb4⟩
  have hb4 := HB3.out.trans (hb4.mono HB3.out.size)
  have hI := fun s => FrI.start 1073741824 s
  have hF4 : ∀ k, F k → w.heap.size ≤ k := fun k hk => by have := hF k hk; have := HB3.out.size; omega
  generalize enterT ⟨1073741824, List.replicate 1000 0, [], []⟩ 0 7 0 (-1) [] = T at *
  clear hF
  have HT := Lib.hid hT; clear hT
  have HB4 := Lib.hid hb4; clear hb4
  have HI := Lib.hid hI; clear hI
  have HF4 := Lib.hid hF4; clear hF4
  obtain ⟨s, hs3, hsm⟩ := slot_three slot
  go_upto_region 8 with fail
  go_wp2_with fail
  go_loopw [14] (fun i wr => ∃ k : Nat, k ≤ m ∧ i = .int .i64 k ∧ ∃ F T X, TaskAt wr F tb p1 T X ∧ FrI T k s ∧ (∀ q, F q → w.heap.size ≤ q) ∧ Below w.heap.size w wr) (fun i _ => m - (intOf i).toNat)
  case atStart => exact ⟨0, Nat.zero_le _, rfl, F, T, X, HT.out, HI.out _, HF4.out, HB4.out⟩
  case round =>
    clear HT HI HF4 HB4
    obtain ⟨k, hk, rfl, F1, T1, X1, hT1, hI1, hF1, hB1⟩ := hrel
    by_cases hlt : k < m
    · obtain ⟨k1, hk1⟩ : ∃ k1, k1 = k + 1 := ⟨_, rfl⟩
      obtain ⟨D, hD⟩ : ∃ D, D = k + 1 + 1 := ⟨_, rfl⟩
      obtain ⟨U, hU⟩ : ∃ U, U = 7 * (k + 1 + 1) := ⟨_, rfl⟩
      obtain ⟨h1, hh1⟩ : ∃ h1, h1 = 100 + k := ⟨_, rfl⟩
      obtain ⟨h2, hh2⟩ : ∃ h2, h2 = 200 + k := ⟨_, rfl⟩
      have i1 : IntKind.i64.wrap ((k : Int) + 1) = (k1 : Int) := by rw [show ((k : Int) + 1) = (k1 : Int) from by omega]; exact IntWalk.i64_in _ (by omega)
      have i2 : IntKind.i64.wrap (100 + (k : Int)) = (h1 : Int) := by rw [show (100 + (k : Int)) = (h1 : Int) from by omega]; exact IntWalk.i64_in _ (by omega)
      have i3 : IntKind.i64.wrap (200 + (k : Int)) = (h2 : Int) := by rw [show (200 + (k : Int)) = (h2 : Int) from by omega]; exact IntWalk.i64_in _ (by omega)
      have i4 : IntKind.i64.wrap ((k : Int) + 2) = (D : Int) := by rw [show ((k : Int) + 2) = (D : Int) from by omega]; exact IntWalk.i64_in _ (by omega)
      have i5 : IntKind.i64.wrap ((D : Int) * 7) = (U : Int) := by rw [show ((D : Int) * 7) = (U : Int) from by omega]; exact IntWalk.i64_in _ (by omega)
      have hm20 : m ≤ 20 := by omega
      have s0 : Calls Try.prog 14 #[.pointer (some ⟨tb, 0, none⟩), .int .i64 0, .int .i64 k] wr _ := setF hT1 hI1 (by omega) 0 (by omega) (k : Int)
      have hI2 := hI1.set 0 (k : Int)
      obtain ⟨hI4, hw4⟩ := three_words hI1 (by omega)
      have hI3 := hI2.set 1 ((100 + k : Nat) : Int)
      rw [← hh1, ← hh2] at hI4 hw4
      rw [← hh1] at hI3
      clear hT1
      have S0 := Lib.hid s0; clear s0
      have HI1 := Lib.hid hI1; clear hI1
      have HI2 := Lib.hid hI2; clear hI2
      have HI3 := Lib.hid hI3; clear hI3
      have HI4 := Lib.hid hI4; clear hI4
      have HW4 := Lib.hid hw4; clear hw4
      have HF1 := Lib.hid hF1; clear hF1
      have HB1 := Lib.hid hB1; clear hB1
      have HK1 := Lib.hid hk1; clear hk1
      have HD := Lib.hid hD; clear hD
      have HU := Lib.hid hU; clear hU
      have HH1 := Lib.hid hh1; clear hh1
      have HH2 := Lib.hid hh2; clear hh2
      go_wp2_with fail
      refine S0.out.mono ?_
      rintro e w5 ⟨rfl, hT2, hf2⟩
      have s1 : Calls Try.prog 14 #[.pointer (some ⟨tb, 0, none⟩), .int .i64 1, .int .i64 h1] w5 _ := setF hT2 HI2.out (by omega) 1 (by omega) (h1 : Int)
      clear hT2
      have S1 := Lib.hid s1; clear s1
      have HF2 := Lib.hid hf2; clear hf2
      go_wp2_with fail
      refine S1.out.mono ?_
      rintro e w6 ⟨rfl, hT3, hf3⟩
      have s2 : Calls Try.prog 14 #[.pointer (some ⟨tb, 0, none⟩), .int .i64 2, .int .i64 h2] w6 _ := setF hT3 HI3.out (by omega) 2 (by omega) (h2 : Int)
      clear hT3
      have S2 := Lib.hid s2; clear s2
      have HF3 := Lib.hid hf3; clear hf3
      go_wp2_with fail
      refine S2.out.mono ?_
      rintro e w7 ⟨rfl, hT4, hf4⟩
      have hf4 := (HF2.out.trans HF3.out (fun _ _ h => h)).trans hf4 (fun _ _ h => h)
      have hb4 := HB1.out.trans (hf4.below HB1.out.size (fun q hq => HF1.out q hq))
      have en := enterF hT4 HI4.out (by omega) a b s
      have hI5 := HI4.out.next (by omega) a b HW4.out
      obtain ⟨x10, x11, x12⟩ := nextT_a HI4.out (by omega) s a b
      generalize setT (setT (setT T1 (7 * k + (2 + 0)) (k : Int)) (7 * k + (2 + 1)) (h1 : Int)) (7 * k + (2 + 2)) (h2 : Int) = T4 at *
      generalize nextT T4 k s a b = T5 at *
      clear hT4 hf4 HI1 HI2 HI3 HI4 HW4 S0 S1 S2 HF2 HF3 HB1
      have EN := Lib.hid en; clear en
      have HI5 := Lib.hid hI5; clear hI5
      have X10 := Lib.hid x10; clear x10
      have X11 := Lib.hid x11; clear x11
      have X12 := Lib.hid x12; clear x12
      have HB4 := Lib.hid hb4; clear hb4
      go_wp2_with fail
      refine EN.out.mono ?_
      rintro e w8 ⟨rfl, F5, X5, hT5, hF5, hf5⟩
      have hF6 : ∀ q, F5 q → w.heap.size ≤ q := fun q hq => (hF5 q hq).elim (HF1.out q) (fun h => by have := HB4.out.size; omega)
      have hb5 := HB4.out.trans (hf5.below HB4.out.size (fun q hq => HF1.out q hq))
      have sl0 : ∀ wq, Below w8.heap.size w8 wq → Calls Try.prog 15 #[.pointer (some ⟨tb, 0, none⟩), .int .i64 0] wq _ := fun wq hq => slotF (hT5.below hq) HI5.out (by have := HK1.out; omega) 0 (by omega) a X10.out
      have sl1 : ∀ wq, Below w8.heap.size w8 wq → Calls Try.prog 15 #[.pointer (some ⟨tb, 0, none⟩), .int .i64 1] wq _ := fun wq hq => slotF (hT5.below hq) HI5.out (by have := HK1.out; omega) 1 (by omega) b X11.out
      have sl2 : ∀ wq, Below w8.heap.size w8 wq → Calls Try.prog 15 #[.pointer (some ⟨tb, 0, none⟩), .int .i64 2] wq _ := fun wq hq => slotF (hT5.below hq) HI5.out (by have := HK1.out; omega) 2 (by omega) 0 X12.out
      have dp := fun wq (hq : Below w8.heap.size w8 wq) => depth_any wq F5 tb p1 T5 X5 (hT5.below hq)
      have us := fun wq (hq : Below w8.heap.size w8 wq) => used_any wq F5 tb p1 T5 X5 (hT5.below hq) p1_small (HI5.out.ok (by omega))
      rw [HI5.out.pl, ← HD.out] at dp
      rw [HI5.out.inv.used (by omega), ← HU.out] at us
      have hTT := fun wq (hq : Below w8.heap.size w8 wq) => hT5.below hq
      have hw0 := Below.refl w8.heap.size w8
      rw [← HK1.out] at HI5
      clear hT5 hF5 hf5 EN HF1
      have SL0 := Lib.hid sl0; clear sl0
      have SL1 := Lib.hid sl1; clear sl1
      have SL2 := Lib.hid sl2; clear sl2
      have DP := Lib.hid dp; clear dp
      have US := Lib.hid us; clear us
      have HTT := Lib.hid hTT; clear hTT
      have HF6 := Lib.hid hF6; clear hF6
      have HB5 := Lib.hid hb5; clear hb5
      have HW0 := Lib.hid hw0; clear hw0
      go_wp2_with fail
      refine (SL0.out _ HW0.out).mono ?_
      rintro e w9 ⟨rfl, hb9⟩
      have hb9 := HW0.out.trans (hb9.mono HW0.out.size)
      have HB9 := Lib.hid hb9
      clear hb9
      go_wp2_with fail
      refine (SL1.out _ HB9.out).mono ?_
      rintro e w10 ⟨rfl, hb10⟩
      have hb10 := HB9.out.trans (hb10.mono HB9.out.size)
      have HB10 := Lib.hid hb10
      clear hb10
      go_wp2_with fail
      refine (SL2.out _ HB10.out).mono ?_
      rintro e w11 ⟨rfl, hb11⟩
      have hb11 := HB10.out.trans (hb11.mono HB10.out.size)
      have HB11 := Lib.hid hb11
      clear hb11
      go_wp2_with fail
      refine (DP.out _ HB11.out).mono ?_
      rintro e w12 ⟨rfl, rfl⟩
      go_wp2_with fail
      refine (US.out _ HB11.out).mono ?_
      rintro e w13 ⟨rfl, hb13⟩
      have hb13 := HB11.out.trans (hb13.mono HB11.out.size)
      have hT6 := HTT.out w13 hb13
      have hb14 := HB5.out.trans (hb13.mono HB5.out.size)
      have he1 : k1 ≤ m := by have := HK1.out; omega
      clear hb13
      have HT6 := Lib.hid hT6; clear hT6
      have HB14 := Lib.hid hb14; clear hb14
      go_wp2_with fail
      go_roundw
      case rel => exact ⟨k1, he1, by go_num, F5, T5, X5, HT6.out, HI5.out, HF6.out, HB14.out⟩
      case measure => have := HK1.out; simp [intOf]; omega
    · have hk' : k = m := by omega
      subst hk'
      have HT1 := Lib.hid hT1; clear hT1
      have HI1 := Lib.hid hI1; clear hI1
      have HF1 := Lib.hid hF1; clear hF1
      have HB1 := Lib.hid hB1; clear hB1
      go_upto_region 14 with fail
      obtain ⟨wo, rfl⟩ : ∃ wo : World, wo = wr := ⟨_, rfl⟩
      go_loopw [15] (fun i wr => ∃ c : Nat, c ≤ k ∧ ∃ z : Int, z = (c : Int) - 1 ∧ i = .int .i64 z ∧ ∃ F T X, TaskAt wr F tb p1 T X ∧ FrI T c s ∧ (∀ q, F q → w.heap.size ≤ q) ∧ Below w.heap.size w wr) (fun i _ => (intOf i + 1).toNat)
      case atStart => exact ⟨k, Nat.le_refl _, _, rfl, rfl, F1, T1, X1, HT1.out, HI1.out, HF1.out, HB1.out⟩
      case round =>
        clear HT1 HI1 HF1 HB1
        obtain ⟨c, hc, z, hz, rfl, F2, T2, X2, hT2, hI2, hF2, hB2⟩ := hrel
        by_cases hc0 : c = 0
        · subst hc0
          obtain rfl : z = -1 := by omega
          have dp := depth_any wr F2 tb p1 T2 X2 hT2
          have us := used_any wr F2 tb p1 T2 X2 hT2 p1_small (hI2.ok (by omega))
          have po := fun wq (hq : Below wr.heap.size wr wq) => popFin (hT2.below hq) hI2 0
          rw [hI2.pl] at dp
          rw [hI2.inv.used (by omega)] at us
          have dp : Calls Try.prog 12 #[.pointer (some ⟨tb, 0, none⟩)] wr fun e w' => e = .returned (.int .i64 1) ∧ wr = w' := dp
          have us : Calls Try.prog 13 #[.pointer (some ⟨tb, 0, none⟩)] wr fun e w' => e = .returned (.int .i64 7) ∧ Below wr.heap.size wr w' := us
          clear hT2 hI2 hz
          have DP := Lib.hid dp; clear dp
          have US := Lib.hid us; clear us
          have PO := Lib.hid po; clear po
          have HF2 := Lib.hid hF2; clear hF2
          have HB2 := Lib.hid hB2; clear hB2
          go_wp2_with fail
          refine DP.out.mono ?_
          rintro e w5 ⟨rfl, rfl⟩
          go_wp2_with fail
          refine US.out.mono ?_
          rintro e w6 ⟨rfl, hb6⟩
          have hb7 := HB2.out.trans (hb6.mono HB2.out.size)
          have HB6 := Lib.hid hb6; clear hb6
          have HB7 := Lib.hid hb7; clear hb7
          go_wp2_with fail
          refine (PO.out _ HB6.out).mono ?_
          rintro e w7 ⟨rfl, F7, X7, T7, hT7, hp7, hf7, hF7⟩
          have hb8 := HB7.out.trans (hF7.below HB7.out.size (fun q hq => HF2.out q hq))
          have po2 := pop_none w7 F7 tb p1 T7 X7 hT7 hp7 0 false
          have dp2 := depth_any w7 F7 tb p1 T7 X7 hT7
          rw [hp7] at dp2
          have dp2 : Calls Try.prog 12 #[.pointer (some ⟨tb, 0, none⟩)] w7 fun e w' => e = .returned (.int .i64 0) ∧ w7 = w' := dp2
          have fn2 := fn_none w7 F7 tb p1 T7 X7 hT7 hp7
          clear hT7 hp7 hf7 hF7
          have PO2 := Lib.hid po2; clear po2
          have DP2 := Lib.hid dp2; clear dp2
          have FN2 := Lib.hid fn2; clear fn2
          have HB8 := Lib.hid hb8; clear hb8
          go_wp2_with fail
          refine PO2.out.mono ?_
          rintro e w8 ⟨rfl, rfl⟩
          go_wp2_with fail
          refine DP2.out.mono ?_
          rintro e w8 ⟨rfl, rfl⟩
          go_wp2_with fail
          refine FN2.out.mono ?_
          rintro e w8 ⟨rfl, rfl⟩
          go_wp2_with fail
          go_ret
          exact ⟨rfl, HB8.out⟩
        · obtain ⟨d, rfl⟩ : ∃ d, c = d + 1 := ⟨c - 1, by omega⟩
          obtain rfl : z = (d : Int) := by omega
          have hd20 : d ≤ 20 := by omega
          have hdk : d ≤ k := by omega
          obtain ⟨ev, hev⟩ : ∃ ev : Bool, ev = ((d : Int) % 2 == 0) := ⟨_, rfl⟩
          have po := popF hT2 hI2 (by omega) hs3 v ev
          obtain ⟨hI3, hw3⟩ := hI2.popped (by omega) hs3 v ev
          generalize poppedT T2 d s v ev = T3 at *
          have hev2 := hev.symm
          clear hev hz hc0 hc hT2 hI2
          have PO := Lib.hid po; clear po
          have HI3 := Lib.hid hI3; clear hI3
          have HW3 := Lib.hid hw3; clear hw3
          have HF2 := Lib.hid hF2; clear hF2
          have HB2 := Lib.hid hB2; clear hB2
          go_wp2_with fail
          refine PO.out.mono ?_
          rintro e w5 ⟨rfl, F5, X5, hT5, hf5, hF5⟩
          have hF6 : ∀ q, F5 q → w.heap.size ≤ q := fun q hq => (hf5 q hq).elim (HF2.out q) (fun h => by have := HB2.out.size; omega)
          have hb5 := HB2.out.trans (hF5.below HB2.out.size (fun q hq => HF2.out q hq))
          have sl := fun wq (hq : Below w5.heap.size w5 wq) (j : Nat) (hj : j < 3) => slotF (hT5.below hq) HI3.out (by omega) j hj _ (HW3.out j hj)
          have hTT := fun wq (hq : Below w5.heap.size w5 wq) => hT5.below hq
          have hw0 := Below.refl w5.heap.size w5
          clear hT5 hf5 hF5 PO HW3 HF2 HB2
          have SL := Lib.hid sl; clear sl
          have HTT := Lib.hid hTT; clear hTT
          have HF6 := Lib.hid hF6; clear hF6
          have HB5 := Lib.hid hb5; clear hb5
          have HW0 := Lib.hid hw0; clear hw0
          go_upto_region 19 with fail
          go_loopw [16] (fun i wr => ∃ j : Nat, j ≤ 3 ∧ i = .int .i64 j ∧ Below w5.heap.size w5 wr) (fun i _ => 3 - (intOf i).toNat)
          case atStart => exact ⟨0, by omega, rfl, HW0.out⟩
          case round =>
            obtain ⟨j, hj, rfl, hB3⟩ := hrel
            by_cases hj3 : j < 3
            · have sk := SL.out wr hB3 j hj3
              obtain ⟨j1, hj1⟩ : ∃ j1, j1 = j + 1 := ⟨_, rfl⟩
              obtain ⟨x, hx⟩ : ∃ x, x = 100 * j := ⟨_, rfl⟩
              obtain ⟨y, hy⟩ : ∃ y, y = x + d := ⟨_, rfl⟩
              have i1 : IntKind.i64.wrap ((j : Int) + 1) = (j1 : Int) := by rw [show ((j : Int) + 1) = (j1 : Int) from by omega]; exact IntWalk.i64_in _ (by omega)
              have i2 : IntKind.i64.wrap (100 * (j : Int)) = (x : Int) := by rw [show (100 * (j : Int)) = (x : Int) from by omega]; exact IntWalk.i64_in _ (by omega)
              have i3 : IntKind.i64.wrap ((x : Int) + (d : Int)) = (y : Int) := by rw [show ((x : Int) + (d : Int)) = (y : Int) from by omega]; exact IntWalk.i64_in _ (by omega)
              have hle : j1 ≤ 3 := by omega
              rw [← hx, ← hy] at sk
              have HJ1 := Lib.hid hj1
              have HB3 := Lib.hid hB3
              clear hj1 hx hy hB3
              by_cases hjs : j = s
              · subst hjs
                cases ev
                · rw [if_neg (by simp)] at sk
                  have SK := Lib.hid sk
                  clear sk
                  go_wp2_with fail
                  refine SK.out.mono ?_
                  rintro e w7 ⟨rfl, hb7⟩
                  have hb7 := HB3.out.trans (hb7.mono HB3.out.size)
                  have HB7 := Lib.hid hb7
                  clear hb7
                  go_wp2_with fail
                  go_roundw
                  case rel => exact ⟨j1, hle, by go_num, HB7.out⟩
                  case measure => have := HJ1.out; simp [intOf]; omega
                · rw [if_pos ⟨rfl, rfl⟩] at sk
                  have SK := Lib.hid sk
                  clear sk
                  go_wp2_with fail
                  refine SK.out.mono ?_
                  rintro e w7 ⟨rfl, hb7⟩
                  have hb7 := HB3.out.trans (hb7.mono HB3.out.size)
                  have HB7 := Lib.hid hb7
                  clear hb7
                  go_wp2_with fail
                  go_roundw
                  case rel => exact ⟨j1, hle, by go_num, HB7.out⟩
                  case measure => have := HJ1.out; simp [intOf]; omega
              · rw [if_neg (fun h => hjs h.1)] at sk
                have SK := Lib.hid sk
                clear sk
                have hjs2 : ((j : Int) == (s : Int)) = false := by simp; omega
                have hjs3 : ¬ (j : Int) = (s : Int) := by omega
                go_wp2_with fail
                refine SK.out.mono ?_
                rintro e w7 ⟨rfl, hb7⟩
                have hb7 := HB3.out.trans (hb7.mono HB3.out.size)
                have HB7 := Lib.hid hb7
                clear hb7
                go_wp2_with fail
                go_roundw
                case rel => exact ⟨j1, hle, by go_num, HB7.out⟩
                case measure => have := HJ1.out; simp [intOf]; omega
            · have hj3' : j = 3 := by omega
              subst hj3'
              have hT7 := HTT.out wr hB3
              have hb7 := HB5.out.trans (hB3.mono HB5.out.size)
              clear hB3
              have HT7 := Lib.hid hT7; clear hT7
              have HB7 := Lib.hid hb7; clear hb7
              go_wp2_with fail
              go_roundw
              case rel => exact ⟨d, hdk, _, rfl, by go_num, F5, T3, X5, HT7.out, HI3.out, HF6.out, HB7.out⟩
              case measure => simp [intOf] <;> omega
end Go.Proofs.Ytmanoclahcpaoaa
