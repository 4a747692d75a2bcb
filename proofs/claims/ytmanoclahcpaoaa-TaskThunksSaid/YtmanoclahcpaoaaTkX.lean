/- Walk: TaskNeeds, behind its first call. -/
import Derived.Test.YtmanoclahcpaoaaTkW
namespace Go.Proofs.Ytmanoclahcpaoaa
open Go.ChangeShapes Go.WideShapes Go.ChangeAt Go.RowKit Go.Maps

set_option maxRecDepth 100000 in
set_option maxHeartbeats 3200000 in
theorem needs_walk (al : ∀ w, Calls Try.prog 6 #[] w fun e w' => e = .returned (.bool true) ∧ Below w.heap.size w w') (w : World) (words n : Int) :
    Calls Try.prog 3 #[.int .i64 words, .int .i64 n] w fun e w' => e = .returned (.bool true) ∧ Below w.heap.size w w' := by
  by_cases hout : words < 7 ∨ 200 < words ∨ n < 1 ∨ 40 < n
  case pos =>
    have AL := Lib.hid al; clear al
    by_cases c1 : words < 7
    · skip
      go_enter Try.func3, Try.ntmps3
      go_wp2_with fail
      refine (AL.out _).mono ?_
      rintro e w1 ⟨rfl, hb⟩
      have HB := Lib.hid hb
      clear hb
      go_wp2_with fail
      go_ret
      exact ⟨rfl, HB.out⟩
    by_cases c2 : 200 < words
    · skip
      go_enter Try.func3, Try.ntmps3
      go_wp2_with fail
      refine (AL.out _).mono ?_
      rintro e w1 ⟨rfl, hb⟩
      have HB := Lib.hid hb
      clear hb
      go_wp2_with fail
      go_ret
      exact ⟨rfl, HB.out⟩
    by_cases c3 : n < 1
    · skip
      go_enter Try.func3, Try.ntmps3
      go_wp2_with fail
      refine (AL.out _).mono ?_
      rintro e w1 ⟨rfl, hb⟩
      have HB := Lib.hid hb
      clear hb
      go_wp2_with fail
      go_ret
      exact ⟨rfl, HB.out⟩
    by_cases c4 : 40 < n
    · skip
      go_enter Try.func3, Try.ntmps3
      go_wp2_with fail
      refine (AL.out _).mono ?_
      rintro e w1 ⟨rfl, hb⟩
      have HB := Lib.hid hb
      clear hb
      go_wp2_with fail
      go_ret
      exact ⟨rfl, HB.out⟩
    exact absurd hout (by omega)
  have c1 : ¬ words < 7 := by omega
  have c2 : ¬ 200 < words := by omega
  have c3 : ¬ n < 1 := by omega
  have c4 : ¬ 40 < n := by omega
  obtain ⟨wl, rfl⟩ : ∃ wl : Nat, words = wl := ⟨words.toNat, by omega⟩
  obtain ⟨m, rfl⟩ : ∃ m : Nat, n = m := ⟨n.toNat, by omega⟩
  clear hout
  have on := one_any
  have nw : ∀ wr D c0 c1 c2, (∀ k, D k → k < wr.heap.size) → PV wr D p1 c0 c1 c2 → Calls Try.prog 8 #[.agg #[c0, c1, c2], .int .i64 0, .slice none 0 0, .int .i64 0, .int .i64 wl, .int .i64 5000] wr fun e w' => ∃ tb F X, e = .returned (.tuple #[.pointer (some ⟨tb, 0, none⟩), .int .i64 0]) ∧ TaskAt w' F tb p1 (enterT ⟨1073741824, List.replicate wl 0, [], []⟩ 0 7 0 (-1) []) X ∧ (∀ k, F k → wr.heap.size ≤ k) ∧ Below wr.heap.size wr w' := fun wr D c0 c1 c2 hD hv => by
    have := new_any wr D hD p1 c0 c1 c2 hv p1_small 0 (by decide) rfl (by decide) 0 (by omega) (wl : Int) 5000 wl (by omega) (by omega) (by omega) (by rw [w10]; omega) (fun w => by rw [w10]; exact fit_stay w wl _ (by omega) (by omega) (by omega))
    rw [w10] at this
    exact this
  have AL := Lib.hid al; clear al
  have ON := Lib.hid on; clear on
  have NW := Lib.hid nw; clear nw
  go_enter Try.func3, Try.ntmps3
  go_wp2_with fail
  refine (AL.out _).mono ?_
  rintro e w1 ⟨rfl, hb1⟩
  have HB1 := Lib.hid hb1
  clear hb1
  go_wp2_with fail
  refine (ON.out _).mono ?_
  rintro e w2 ⟨e0, e1, e2, rfl, hv2, hb2⟩
  obtain ⟨⟨a0, n0, m0, rfl⟩, ⟨a1, m1, rfl, _⟩, a2, m2, rfl, _⟩ := id hv2
  have hb2 := HB1.out.trans (hb2.mono HB1.out.size)
  have hv3 := hv2.fr ((Fr.refl (fun _ => False) w2).alloc (.cells #[.slice a0 n0 m0, .slice a1 p1.shapes.length m1, .slice a2 p1.funcs.length m2] 27)) (fun _ _ h => h)
  have hb3 := hb2.alloc hb2.size (.cells #[.slice a0 n0 m0, .slice a1 p1.shapes.length m1, .slice a2 p1.funcs.length m2] 27)
  have hD3 : ∀ k, w1.heap.size ≤ k ∧ k < w2.heap.size → k < (w2.alloc (.cells #[.slice a0 n0 m0, .slice a1 p1.shapes.length m1, .slice a2 p1.funcs.length m2] 27)).heap.size := fun k hk => by simp; omega
  clear hb2
  have HV2 := Lib.hid hv2; clear hv2
  have HV3 := Lib.hid hv3; clear hv3
  have HB3 := Lib.hid hb3; clear hb3
  have HD3 := Lib.hid hD3; clear hD3
  go_wp2_with fail
  refine (NW.out _ _ _ _ _ HD3.out HV3.out).mono ?_
  rintro e w4 ⟨tb, F, X, rfl, hT, hF, hb4⟩
  have hb4 := HB3.out.trans (hb4.mono HB3.out.size)
  have cp := cap_any w4 F tb p1 _ X hT
  have hI := Inv.start wl 1073741824
  rw [hI.1] at cp
  have hF4 : ∀ k, F k → w.heap.size ≤ k := fun k hk => by have := hF k hk; have := HB3.out.size; omega
  generalize enterT ⟨1073741824, List.replicate wl 0, [], []⟩ 0 7 0 (-1) [] = T at *
  have hcw : ((wl : Int) != (wl : Int)) = false := by simp
  clear hF
  have HT := Lib.hid hT; clear hT
  have HB4 := Lib.hid hb4; clear hb4
  have CP := Lib.hid cp; clear cp
  have HI := Lib.hid hI; clear hI
  have HF4 := Lib.hid hF4; clear hF4
  go_wp2_with fail
  refine CP.out.mono ?_
  rintro e w5 ⟨rfl, rfl⟩
  go_wp2_with fail
  have w11' : wordsN p1 1 = 7 := by decide
  go_loopw [8, 9] (fun dp i wr => ∃ k d : Nat, k ≤ m ∧ i = .int .i64 k ∧ dp = .int .i64 d ∧ 1 ≤ d ∧ d ≤ k + 1 ∧ ∃ F T X, TaskAt wr F tb p1 T X ∧ Inv T d wl ∧ (∀ q, F q → w.heap.size ≤ q) ∧ Below w.heap.size w wr) (fun _ i _ => m - (intOf i).toNat)
  case atStart => exact ⟨0, 1, Nat.zero_le _, rfl, rfl, Nat.le_refl _, Nat.le_refl _, F, T, X, HT.out, HI.out, HF4.out, HB4.out⟩
  case round =>
    clear HT HI HF4 CP
    obtain ⟨k, d, hk, rfl, rfl, hd1, hdk, F1, T1, X1, hT1, hI1, hF1, hB1⟩ := hrel
    by_cases hlt : k < m
    · have hok := hI1.ok (by omega) (by omega)
      have nd := need_any wr F1 tb p1 T1 X1 hT1 p1_small hok 1
      rw [hI1.used hd1, w11'] at nd
      obtain ⟨nn, hnn⟩ : ∃ nn, nn = 7 * (d + 1) := ⟨_, rfl⟩
      obtain ⟨e1, he1⟩ : ∃ e1, e1 = d + 1 := ⟨_, rfl⟩
      obtain ⟨u0, hu0⟩ : ∃ u0, u0 = 7 * d := ⟨_, rfl⟩
      rw [show (((7 * d : Nat) : Int) + ((7 : Nat) : Int)) = (nn : Int) from by omega] at nd
      have i1 : IntKind.i64.wrap ((d : Int) + 1) = (e1 : Int) := by rw [show ((d : Int) + 1) = (e1 : Int) from by omega]; exact IntWalk.i64_in _ (by omega)
      have i2 : IntKind.i64.wrap (7 * (e1 : Int)) = (nn : Int) := by rw [show (7 * (e1 : Int)) = (nn : Int) from by omega]; exact IntWalk.i64_in _ (by omega)
      have i3 : IntKind.i64.wrap (7 * (d : Int)) = (u0 : Int) := by rw [show (7 * (d : Int)) = (u0 : Int) from by omega]; exact IntWalk.i64_in _ (by omega)
      by_cases hmay : nn ≤ wl
      · have hmay2 : (nn : Int) ≤ (wl : Int) := by omega
        have ey : ∀ wq, Below wr.heap.size wr wq → Calls Try.prog 11 #[.pointer (some ⟨tb, 0, none⟩), .int .i64 1, .slice (some ⟨wq.heap.size, 0, none⟩) 2 2, .int .i64 (-1)] (wq.alloc (.cells #[.int .i64 1, .int .i64 2] 3)) fun e w' => e = .returned (.bool true) ∧ ∃ F' X', TaskAt w' F' tb p1 (enterT T1 (7 * d) 7 1 (-1) [1, 2]) X' ∧ (∀ q, F' q → w.heap.size ≤ q) ∧ Below w.heap.size w w' := fun wq hw => by
          have hwa := hw.alloc hw.size (.cells #[.int .i64 1, .int .i64 2] 3)
          have h2 := hT1.below hwa
          have hz := hw.size
          have hz2 := hB1.size
          have hia : IntSl (wq.alloc (.cells #[.int .i64 1, .int .i64 2] 3)) (fun q => q = wq.heap.size) (some ⟨wq.heap.size, 0, none⟩) [1, 2] := fun jj hj => by
            have hj2 : jj = 0 ∨ jj = 1 := by have : jj < 2 := hj; omega
            rcases hj2 with rfl | rfl
            · exact ⟨_, 0, rfl, rfl, cell_new _ _ _ _ 0⟩
            · exact ⟨_, 0, rfl, rfl, cell_new _ _ _ _ 1⟩
          have := enter_yes _ F1 tb p1 T1 X1 h2 p1_small hok (by have := hI1.2.1; omega) 1 (by decide) (7 * d) (hI1.used hd1) (by rw [w11, hI1.1]; omega) (fun q => q = wq.heap.size) (some ⟨wq.heap.size, 0, none⟩) [1, 2] 2 hia (fun q hq => ⟨fun hf => by have := hT1.flt q hf; omega, by simp; omega⟩) rfl (by decide) (by decide) (-1)
          rw [w11] at this
          refine this.mono ?_
          rintro e w' ⟨rfl, F', X', h3, h4, h5⟩
          refine ⟨rfl, F', X', h3, fun q hq => ?_, ?_⟩
          · rcases h4 q hq with h | h
            · exact hF1 q h
            · simp at h
              omega
          · have h6 : Below w.heap.size w (wq.alloc (.cells #[.int .i64 1, .int .i64 2] 3)) := hB1.trans (hwa.mono hB1.size)
            exact h6.trans (h5.below h6.size (fun q hq => hF1 q hq))
        clear hok hT1
        have HNN := Lib.hid (And.intro hnn (And.intro he1 hu0))
        clear hnn he1 hu0
        have ND := Lib.hid nd; clear nd
        have EY := Lib.hid ey; clear ey
        have HI1 := Lib.hid hI1; clear hI1
        have HF1 := Lib.hid hF1; clear hF1
        have HB1 := Lib.hid hB1; clear hB1
        go_wp2_with fail
        refine ND.out.mono ?_
        rintro e w6 ⟨rfl, hb6⟩
        have HB6 := Lib.hid hb6
        clear hb6
        go_wp2_with fail
        refine (EY.out _ HB6.out).mono ?_
        rintro e wt ⟨rfl, F2, X2, hT2, hF2, hb2⟩
        have hI2 := HI1.out.step [1, 2]
        obtain ⟨hnn, he1, hu0⟩ := HNN.out
        rw [← he1] at hI2
        generalize enterT T1 (7 * d) 7 1 (-1) [1, 2] = T2 at *
        have hun : nn = 7 * e1 := by omega
        have HUN := Lib.hid hun
        clear hnn he1 hu0 hun i3
        have he2 : e1 = d + 1 := HNN.out.2.1
        have he3 : e1 ≤ k + 1 + 1 := by omega
        have he4 : 1 ≤ e1 := by omega
        have he5 : e1 ≤ 100 := by omega
        clear he2 HNN ND EY HI1
        have dp := fun wr (hw : Below wt.heap.size wt wr) => depth_any wr F2 tb p1 T2 X2 (hT2.below hw)
        have us := fun wr (hw : Below wt.heap.size wt wr) => used_any wr F2 tb p1 T2 X2 (hT2.below hw) p1_small (hI2.ok (by omega) (by omega))
        have en2 : ∀ wr, Below wt.heap.size wt wr → ∀ (a : Option Addr), Calls Try.prog 11 #[.pointer (some ⟨tb, 0, none⟩), .int .i64 1, .slice a 1 1, .int .i64 (-1)] wr fun e w' => e = .returned (.bool false) ∧ Below wr.heap.size wr w' := fun wr hw a => enter_no wr F2 tb p1 T2 X2 (hT2.below hw) p1_small (hI2.ok (by omega) (by omega)) (1 : Nat) a 1 1 (by omega) (-1) (by rw [fitsB_at (show 1 < p1.funcs.length from by decide)]; rfl)
        have hfz : ∀ wr, Below wt.heap.size wt wr → TaskAt wr F2 tb p1 T2 X2 := fun wr hw => hT2.below hw
        rw [hI2.used (by omega), ← HUN.out] at us
        rw [hI2.2.1] at dp
        have hw0 := Below.refl wt.heap.size wt
        have DP := Lib.hid dp; clear dp
        have US := Lib.hid us; clear us
        have EN2 := Lib.hid en2; clear en2
        have HW0 := Lib.hid hw0; clear hw0
        have HFZ := Lib.hid hfz; clear hfz
        have HI2 := Lib.hid hI2; clear hI2
        have HF2 := Lib.hid hF2; clear hF2
        have HB2 := Lib.hid hb2; clear hb2
        clear hT2
        go_wp2_with fail
        refine (DP.out _ HW0.out).mono ?_
        rintro e w7 ⟨rfl, rfl⟩
        go_wp2_with fail
        refine (US.out _ HW0.out).mono ?_
        rintro e w8 ⟨rfl, hb8⟩
        have hb9 := hb8.alloc hb8.size (.cells #[.int .i64 1] 3)
        have HB9 := Lib.hid hb9
        clear hb8 hb9
        go_wp2_with fail
        refine (EN2.out _ HB9.out _).mono ?_
        rintro e w10 ⟨rfl, hb10⟩
        have hb11 := HB9.out.trans (hb10.mono HB9.out.size)
        have hT3 := HFZ.out w10 hb11
        have hb12 := HB2.out.trans (hb11.mono HB2.out.size)
        clear hb10 hb11
        have HT3 := Lib.hid hT3; clear hT3
        have HB12 := Lib.hid hb12; clear hb12
        go_wp2_with fail
        go_roundw
        case rel => exact ⟨k + 1, e1, by omega, by go_num, rfl, by omega, by omega, F2, T2, X2, HT3.out, HI2.out, HF2.out, HB12.out⟩
        case measure => simp [intOf]; omega
      · have hmay2 : ¬ (nn : Int) ≤ (wl : Int) := by omega
        have eno : ∀ wq, Below wr.heap.size wr wq → ∀ (a : Option Addr), Calls Try.prog 11 #[.pointer (some ⟨tb, 0, none⟩), .int .i64 1, .slice a 2 2, .int .i64 (-1)] wq fun e w' => e = .returned (.bool false) ∧ Below wq.heap.size wq w' := fun wq hw a => enter_no wq F1 tb p1 T1 X1 (hT1.below hw) p1_small hok (1 : Nat) a 2 2 (by omega) (-1) (by rw [fitsB_at (show 1 < p1.funcs.length from by decide), hI1.used hd1, w11, hI1.1, Bool.and_eq_false_iff]; exact .inr (decide_eq_false (by omega)))
        have hTT : ∀ wq, Below wr.heap.size wr wq → TaskAt wq F1 tb p1 T1 X1 := fun wq hw => hT1.below hw
        clear hok hT1
        have HUN := Lib.hid hu0
        clear hnn he1 hu0
        have ND := Lib.hid nd; clear nd
        have ENO := Lib.hid eno; clear eno
        have HI1 := Lib.hid hI1; clear hI1
        have HF1 := Lib.hid hF1; clear hF1
        have HB1 := Lib.hid hB1; clear hB1
        have HTT := Lib.hid hTT; clear hTT
        go_wp2_with fail
        refine ND.out.mono ?_
        rintro e w6 ⟨rfl, hb6⟩
        have hb7 := hb6.alloc hb6.size (.cells #[.int .i64 1, .int .i64 2] 3)
        have HB7 := Lib.hid hb7
        clear hb6 hb7
        go_wp2_with fail
        refine (ENO.out _ HB7.out _).mono ?_
        rintro e wt ⟨rfl, hbt⟩
        have hbt := HB7.out.trans (hbt.mono HB7.out.size)
        have hT2 := HTT.out wt hbt
        have hb2 := HB1.out.trans (hbt.mono HB1.out.size)
        have hI2 := HI1.out
        have hF2 := HF1.out
        clear hbt ND ENO HTT HI1 HF1 HB1 HB7 i1 i2
        obtain ⟨F2, hF2e⟩ : ∃ F2, F2 = F1 := ⟨_, rfl⟩
        obtain ⟨T2, hT2e⟩ : ∃ T2, T2 = T1 := ⟨_, rfl⟩
        obtain ⟨X2, hX2e⟩ : ∃ X2, X2 = X1 := ⟨_, rfl⟩
        rw [← hF2e, ← hT2e, ← hX2e] at hT2
        rw [← hF2e] at hF2
        rw [← hT2e] at hI2
        clear hF2e hT2e hX2e
        have dp := fun wr (hw : Below wt.heap.size wt wr) => depth_any wr F2 tb p1 T2 X2 (hT2.below hw)
        have us := fun wr (hw : Below wt.heap.size wt wr) => used_any wr F2 tb p1 T2 X2 (hT2.below hw) p1_small (hI2.ok (by omega) (by omega))
        have en2 : ∀ wr, Below wt.heap.size wt wr → ∀ (a : Option Addr), Calls Try.prog 11 #[.pointer (some ⟨tb, 0, none⟩), .int .i64 1, .slice a 1 1, .int .i64 (-1)] wr fun e w' => e = .returned (.bool false) ∧ Below wr.heap.size wr w' := fun wr hw a => enter_no wr F2 tb p1 T2 X2 (hT2.below hw) p1_small (hI2.ok (by omega) (by omega)) (1 : Nat) a 1 1 (by omega) (-1) (by rw [fitsB_at (show 1 < p1.funcs.length from by decide)]; rfl)
        have hfz : ∀ wr, Below wt.heap.size wt wr → TaskAt wr F2 tb p1 T2 X2 := fun wr hw => hT2.below hw
        rw [hI2.used (by omega), ← HUN.out] at us
        rw [hI2.2.1] at dp
        have hw0 := Below.refl wt.heap.size wt
        have DP := Lib.hid dp; clear dp
        have US := Lib.hid us; clear us
        have EN2 := Lib.hid en2; clear en2
        have HW0 := Lib.hid hw0; clear hw0
        have HFZ := Lib.hid hfz; clear hfz
        have HI2 := Lib.hid hI2; clear hI2
        have HF2 := Lib.hid hF2; clear hF2
        have HB2 := Lib.hid hb2; clear hb2
        clear hT2
        go_wp2_with fail
        refine (DP.out _ HW0.out).mono ?_
        rintro e w7 ⟨rfl, rfl⟩
        go_wp2_with fail
        refine (US.out _ HW0.out).mono ?_
        rintro e w8 ⟨rfl, hb8⟩
        have hb9 := hb8.alloc hb8.size (.cells #[.int .i64 1] 3)
        have HB9 := Lib.hid hb9
        clear hb8 hb9
        go_wp2_with fail
        refine (EN2.out _ HB9.out _).mono ?_
        rintro e w10 ⟨rfl, hb10⟩
        have hb11 := HB9.out.trans (hb10.mono HB9.out.size)
        have hT3 := HFZ.out w10 hb11
        have hb12 := HB2.out.trans (hb11.mono HB2.out.size)
        clear hb10 hb11
        have HT3 := Lib.hid hT3; clear hT3
        have HB12 := Lib.hid hb12; clear hb12
        go_wp2_with fail
        go_roundw
        case rel => exact ⟨k + 1, d, by omega, by go_num, rfl, by omega, by omega, F2, T2, X2, HT3.out, HI2.out, HF2.out, HB12.out⟩
        case measure => simp [intOf]; omega
    · have hk' : k = m := by omega
      subst hk'
      clear hT1 hI1 hF1
      have HB1 := Lib.hid hB1; clear hB1
      go_wp2_with fail
      go_ret
      exact ⟨rfl, HB1.out⟩
end Go.Proofs.Ytmanoclahcpaoaa
