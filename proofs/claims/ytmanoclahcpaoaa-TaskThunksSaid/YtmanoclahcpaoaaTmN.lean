/- Walk: TaskThunks, behind its first call. -/
import Derived.Test.YtmanoclahcpaoaaTkX
import Derived.Test.YtmanoclahcpaoaaTmM
namespace Go.Proofs.Ytmanoclahcpaoaa
open Go.ChangeShapes Go.WideShapes Go.ChangeAt Go.RowKit Go.Maps

set_option maxRecDepth 100000 in
set_option maxHeartbeats 3200000 in
theorem thunks_walk (al : ∀ w, Calls Try.prog 6 #[] w fun e w' => e = .returned (.bool true) ∧ Below w.heap.size w w') (w : World) (a : Option Addr) (l : List Int) (c : Nat) (hl0 : IntSl w (fun k => k < w.heap.size) a l) :
    Calls Try.prog 5 #[.slice a l.length c] w fun e w' => e = .returned (.bool true) ∧ Below w.heap.size w w' := by
  have hl : ∀ j, j < l.length → ∃ b o, a = some ⟨b, o, none⟩ ∧ w.cell? ⟨b, o + j, none⟩ = some (.int .i64 (l.getD j 0)) := fun j hj => by
    obtain ⟨b, o, h1, _, h2⟩ := hl0 j hj
    refine ⟨b, o, h1, ?_⟩
    rw [h2]
    simp [hj]
  clear hl0
  generalize l.length = n at hl ⊢
  by_cases hout : 16 < n
  · have hout2 : (16 : Int) < (n : Int) := by omega
    clear hl
    have AL := Lib.hid al; clear al
    go_enter Try.func5, Try.ntmps5
    go_wp2_with fail
    refine (AL.out _).mono ?_
    rintro e w1 ⟨rfl, hb⟩
    have HB := Lib.hid hb
    clear hb
    go_wp2_with fail
    go_ret
    exact ⟨rfl, HB.out⟩
  have hout2 : ¬ (16 : Int) < (n : Int) := by omega
  have on := one_any
  have nw : ∀ wr D c0 c1 c2, (∀ k, D k → k < wr.heap.size) → PV wr D p1 c0 c1 c2 → Calls Try.prog 8 #[.agg #[c0, c1, c2], .int .i64 0, .slice none 0 0, .int .i64 0, .int .i64 2000, .int .i64 5000] wr fun e w' => ∃ tb F X, e = .returned (.tuple #[.pointer (some ⟨tb, 0, none⟩), .int .i64 0]) ∧ TaskAt w' F tb p1 (enterT ⟨1073741824, List.replicate 2000 0, [], []⟩ 0 7 0 (-1) []) X ∧ (∀ k, F k → wr.heap.size ≤ k) ∧ Below wr.heap.size wr w' := fun wr D c0 c1 c2 hD hv => by
    have := new_any wr D hD p1 c0 c1 c2 hv p1_small 0 (by decide) rfl (by decide) 0 (by omega) 2000 5000 2000 (by omega) (by omega) (by omega) (by rw [w10]; omega) (fun w => by rw [w10]; exact fit_stay w 2000 _ (by omega) (by omega) (by omega))
    rw [w10] at this
    exact this
  have AL := Lib.hid al; clear al
  have ON := Lib.hid on; clear on
  have NW := Lib.hid nw; clear nw
  have HL := Lib.hid hl; clear hl
  go_enter Try.func5, Try.ntmps5
  go_wp2_with fail
  refine (AL.out _).mono ?_
  rintro e w1 ⟨rfl, hb1⟩
  have HB1 := Lib.hid hb1
  clear hb1
  go_wp2_with fail
  refine (ON.out _).mono ?_
  rintro e w2 ⟨e0, e1, e2, rfl, hv2, hb2⟩
  obtain ⟨⟨a0, n0, m0, rfl⟩, ⟨a1, m1, rfl, _⟩, a2, m2, rfl, _⟩ := id hv2
  have hb2 := HB1.out.trans (hb2.mono HB1.out.size)
  have hv3 := hv2.fr ((Fr.refl (fun _ => False) w2).alloc (.cells #[.slice a0 n0 m0, .slice a1 p1.shapes.length m1, .slice a2 p1.funcs.length m2] 27)) (fun _ _ h => h)
  have hb3 := hb2.alloc hb2.size (.cells #[.slice a0 n0 m0, .slice a1 p1.shapes.length m1, .slice a2 p1.funcs.length m2] 27)
  have hD3 : ∀ k, w1.heap.size ≤ k ∧ k < w2.heap.size → k < (w2.alloc (.cells #[.slice a0 n0 m0, .slice a1 p1.shapes.length m1, .slice a2 p1.funcs.length m2] 27)).heap.size := fun k hk => by simp; omega
  clear hb2
  have HV2 := Lib.hid hv2; clear hv2
  have HV3 := Lib.hid hv3; clear hv3
  have HB3 := Lib.hid hb3; clear hb3
  have HD3 := Lib.hid hD3; clear hD3
  go_wp2_with fail
  refine (NW.out _ _ _ _ _ HD3.out HV3.out).mono ?_
  rintro e w4 ⟨tb, F, X, rfl, hT, hF, hb4⟩
  have hb4 := HB3.out.trans (hb4.mono HB3.out.size)
  obtain ⟨W, hW, hWl, hW2⟩ := startT 1073741824
  rw [hW] at hT
  have hF4 : ∀ k, F k → w.heap.size ≤ k := fun k hk => by have := hF k hk; have := HB3.out.size; omega
  clear hF hW
  have HT := Lib.hid hT; clear hT
  have HB4 := Lib.hid hb4; clear hb4
  have HF4 := Lib.hid hF4; clear hF4
  have HWL := Lib.hid hWl; clear hWl
  have HW2 := Lib.hid hW2; clear hW2
  go_upto_region 8 with fail
  go_loopw [6] (fun i wr => ∃ k : Nat, k ≤ n ∧ i = .int .i64 k ∧ ∃ F X ta tn tc, TaskAt wr F tb p1 ⟨1073741824, W, [⟨0, 0, 0, -1, ta, tn, tc⟩], [⟨false, false, (k : Nat)⟩]⟩ X ∧ Row0 wr F X.D l k (.slice ta tn tc) ∧ (∀ q, F q → w.heap.size ≤ q) ∧ (∀ q, (Value.slice ta tn tc).ownBlock = some q → w.heap.size ≤ q) ∧ Below w.heap.size w wr) (fun i _ => n - (intOf i).toNat)
  case atStart => exact ⟨0, Nat.zero_le _, rfl, F, X, none, 0, 0, HT.out, Row0.nil _ _ _ _, HF4.out, (fun q hq => by cases hq), HB4.out⟩
  case round =>
    clear HT HF4 HB4
    obtain ⟨k, hk, rfl, F1, X1, ta, tn, tc, hT1, hR1, hF1, hV1, hB1⟩ := hrel
    by_cases hlt : k < n
    · obtain ⟨b, o, rfl, hx⟩ := HL.out k hlt
      have q0 := below_cell hB1 hx
      obtain ⟨k1, hk1⟩ : ∃ k1, k1 = k + 1 := ⟨_, rfl⟩
      have i1 : IntKind.i64.wrap ((k : Int) + 1) = (k1 : Int) := by rw [show ((k : Int) + 1) = (k1 : Int) from by omega]; exact IntWalk.i64_in _ (by omega)
      have n1 : (k : Int) < (n : Int) := by omega
      have df := deferF hT1 (by omega) _ rfl hR1
      rw [← hk1] at df
      generalize l.getD k 0 = x at *
      clear hT1 hR1 hx
      have DF := Lib.hid df; clear df
      have HF1 := Lib.hid hF1; clear hF1
      have HV1 := Lib.hid hV1; clear hV1
      have HB1 := Lib.hid hB1; clear hB1
      have HK1 := Lib.hid hk1; clear hk1
      go_wp2_with fail
      refine DF.out.mono ?_
      rintro e w5 ⟨rfl, F2, X2, ta2, tn2, tc2, hT2, hR2, hF2, hV2, hf2⟩
      have hsz := HB1.out.size
      have hF3 : ∀ q, F2 q → w.heap.size ≤ q := fun q hq => (hF2 q hq).elim (HF1.out q) (fun h => by omega)
      have hV3 : ∀ q, (Value.slice ta2 tn2 tc2).ownBlock = some q → w.heap.size ≤ q := fun q hq => (hV2 q hq).elim (HV1.out q) (fun h => by omega)
      have hB2 := HB1.out.trans (hf2.below HB1.out.size (fun q hq => hq.elim (HF1.out q) (HV1.out q)))
      have hle : k1 ≤ n := by have := HK1.out; omega
      clear hF2 hV2 hf2 DF q0
      have HT2 := Lib.hid hT2; clear hT2
      have HR2 := Lib.hid hR2; clear hR2
      have HF3 := Lib.hid hF3; clear hF3
      have HV3 := Lib.hid hV3; clear hV3
      have HB2 := Lib.hid hB2; clear hB2
      go_wp2_with fail
      go_roundw
      case rel => exact ⟨k1, hle, by go_num, F2, X2, ta2, tn2, tc2, HT2.out, HR2.out, HF3.out, HV3.out, HB2.out⟩
      case measure => have := HK1.out; simp [intOf]; omega
    · have hk' : k = n := by omega
      subst hk'
      obtain ⟨rfl, tg, htg, hR2⟩ := hR1.read
      have lv := tkLeave_any wr F1 tb p1 _ X1 hT1 [] ⟨false, false, (tn : Nat)⟩ rfl (by show 0 ≤ 10000; decide)
      clear hT1 hR1 hV1
      have LV := Lib.hid lv; clear lv
      have HR2 := Lib.hid hR2; clear hR2
      have HF1 := Lib.hid hF1; clear hF1
      have HB1 := Lib.hid hB1; clear hB1
      have HTG := Lib.hid htg; clear htg
      go_wp2_with fail
      refine LV.out.mono ?_
      rintro e w5 ⟨rfl, F2, X2, hT2, hF2, hf2⟩
      have hR3 := HR2.out.fr hf2 hF2
      have hsz := HB1.out.size
      have hF3 : ∀ q, F2 q → w.heap.size ≤ q := fun q hq => (hF2 q hq).elim (HF1.out q) (fun h => by omega)
      have hB2 := HB1.out.trans (hf2.below HB1.out.size HF1.out)
      have hT3 : TaskAt w5 F2 tb p1 ⟨1073741824, W, [⟨0, 0, 0, -1, ta, tn, tc⟩], [⟨true, false, (tn : Nat)⟩]⟩ X2 := hT2
      clear hF2 hf2 LV HR2 HF1 HB1 hT2
      have HT3 := Lib.hid hT3; clear hT3
      have HR3 := Lib.hid hR3; clear hR3
      have HF3 := Lib.hid hF3; clear hF3
      have HB2 := Lib.hid hB2; clear hB2
      go_upto_region 14 with fail
      obtain ⟨wo, rfl⟩ : ∃ wo : World, wo = wr := ⟨_, rfl⟩
      go_loopw [7] (fun i wr => ∃ k : Nat, k ≤ tn ∧ ∃ z : Int, z = (k : Int) - 1 ∧ i = .int .i64 z ∧ ∃ F X W ta t2 tc, TaskAt wr F tb p1 ⟨1073741824, W, [⟨0, 0, 0, -1, ta, t2, tc⟩], [⟨true, false, (k : Nat)⟩]⟩ X ∧ W.length = 2000 ∧ W[2]? = some 0 ∧ (0 < k → ta = some ⟨tg, 0, none⟩ ∧ k ≤ tc) ∧ t2 = k ∧ Row1 wr F l k tg ∧ (∀ q, F q → w.heap.size ≤ q) ∧ Below w.heap.size w wr) (fun i _ => (intOf i + 1).toNat)
      case atStart => exact ⟨tn, Nat.le_refl _, _, rfl, rfl, F2, X2, W, ta, tn, tc, HT3.out, HWL.out, HW2.out, HTG.out, rfl, HR3.out, HF3.out, HB2.out⟩
      case round =>
        clear HT3 HWL HW2 HTG HR3 HF3 HB2
        obtain ⟨k, hk, z, hz, rfl, F3, X3, W3, tb3, t2, tc3, hT4, hWl, hW2, htg3, rfl, hR4, hF4, hB4⟩ := hrel
        by_cases hk0 : t2 = 0
        · subst hk0
          obtain rfl : z = -1 := by omega
          have nx := tkNext_any wr F3 tb p1 _ X3 hT4 (by show 1 ≤ 10000; decide)
          have nx : Calls Try.prog 20 #[.pointer (some ⟨tb, 0, none⟩)] wr fun e w' => e = .returned (.int .i64 2) ∧ Below wr.heap.size wr w' := nx
          have th := fun wq (hq : Below wr.heap.size wr wq) => tkThunk_no wq F3 tb p1 _ X3 (hT4.below hq) (by show 1 ≤ 10000; decide) (by show (2 : Int) ≠ 1; decide)
          have sl : ∀ wq, Below wr.heap.size wr wq → Calls Try.prog 15 #[.pointer (some ⟨tb, 0, none⟩), .int .i64 0] wq _ := fun wq hq => slotU (hT4.below hq) hWl (by show 1 ≤ 10; decide) 0 (by decide) 0 hW2
          have po := fun wq (hq : Below wr.heap.size wr wq) => popOne (hT4.below hq) hWl 0
          clear hT4 hR4 hz hWl hW2 htg3
          have NX := Lib.hid nx; clear nx
          have TH := Lib.hid th; clear th
          have SL := Lib.hid sl; clear sl
          have PO := Lib.hid po; clear po
          have HF4 := Lib.hid hF4; clear hF4
          have HB4 := Lib.hid hB4; clear hB4
          go_wp2_with fail
          refine NX.out.mono ?_
          rintro e w6 ⟨rfl, hb6⟩
          have HB6 := Lib.hid hb6
          clear hb6
          go_wp2_with fail
          refine (TH.out _ HB6.out).mono ?_
          rintro e w7 ⟨rfl, hb7⟩
          have hb7 := HB6.out.trans (hb7.mono HB6.out.size)
          have HB7 := Lib.hid hb7
          clear hb7
          go_wp2_with fail
          refine (SL.out _ HB7.out).mono ?_
          rintro e w8 ⟨rfl, hb8⟩
          have hb8 := HB7.out.trans (hb8.mono HB7.out.size)
          have HB8 := Lib.hid hb8
          clear hb8
          go_wp2_with fail
          refine (PO.out _ HB8.out).mono ?_
          rintro e w9 ⟨rfl, F9, X9, hT9, _, hf9⟩
          have hb9 := HB4.out.trans (HB8.out.mono HB4.out.size)
          have hb9 := hb9.trans (hf9.below hb9.size HF4.out)
          have nx := tkNext_any w9 F9 tb p1 _ X9 hT9 (by show 0 ≤ 10000; decide)
          have nx : Calls Try.prog 20 #[.pointer (some ⟨tb, 0, none⟩)] w9 fun e w' => e = .returned (.int .i64 3) ∧ Below w9.heap.size w9 w' := nx
          clear hT9 hf9
          have HNX2 := Lib.hid nx
          have HB9 := Lib.hid hb9
          clear nx hb9
          go_wp2_with fail
          refine HNX2.out.mono ?_
          rintro e w10 ⟨rfl, hb10⟩
          have HB10 := Lib.hid (HB9.out.trans (hb10.mono HB9.out.size))
          clear hb10
          go_wp2_with fail
          go_ret
          exact ⟨rfl, HB10.out⟩
        · obtain ⟨d, rfl⟩ : ∃ d, t2 = d + 1 := ⟨t2 - 1, by omega⟩
          obtain rfl : z = (d : Int) := by omega
          obtain ⟨rfl, htc3⟩ := htg3 (by omega)
          have hd16 : d < 16 := by omega
          have hdn : d ≤ tn := by omega
          have hdn2 : d < tn := by omega
          obtain ⟨b, o, rfl, hx⟩ := HL.out d (by omega)
          have nx : ∀ wq, Below wr.heap.size wr wq → Calls Try.prog 20 #[.pointer (some ⟨tb, 0, none⟩)] wq fun e w' => e = .returned (.int .i64 1) ∧ Below wq.heap.size wq w' := fun wq hq => by
            have := tkNext_any wq F3 tb p1 _ X3 (hT4.below hq) (by show 1 ≤ 10000; decide)
            rw [show nextN [(⟨true, false, ((d + 1 : Nat) : Int)⟩ : Mark)] = 1 from by
              show (if (true = false) then (0 : Int) else if 0 < ((d + 1 : Nat) : Int) then 1 else 2) = 1
              rw [if_neg (by decide), if_pos (by omega)]] at this
            exact this
          have th := fun wq (hq : Below wr.heap.size wr wq) => thunkF (hT4.below hq) hWl htc3 hd16 (hR4.fr (Fr.of_below hq F3) (fun k h => .inl h))
          obtain ⟨g1, g2, g3, g4⟩ := thunkW_get hWl (l.getD d 0) (d : Int)
          rw [hW2] at g2
          have q0 := below_cell hB4 hx
          have hbl : b < w.heap.size := World.block_lt hx
          have hnb : ¬ F3 b := fun h => by have := hF4 b h; omega
          have hr0 := (Below.refl wr.heap.size wr).drew
          have hR5 := hR4.less
          generalize l.getD d 0 = x at *
          generalize thunkW W3 x (d : Int) = W4 at *
          clear hT4 hR4 hz hWl hW2 htg3 htc3 hk0 hx hk
          have NX := Lib.hid nx; clear nx
          have TH := Lib.hid th; clear th
          have G1 := Lib.hid g1; clear g1
          have G2 := Lib.hid g2; clear g2
          have G3 := Lib.hid g3; clear g3
          have G4 := Lib.hid g4; clear g4
          have HR5 := Lib.hid hR5; clear hR5
          have HF4 := Lib.hid hF4; clear hF4
          have HB4 := Lib.hid hB4; clear hB4
          have HR0 := Lib.hid hr0; clear hr0
          have HNB := Lib.hid hnb; clear hnb
          go_upto_region 16 with fail
          go_region_law (first
            | (go_simp
               go_at_call 20
               refine (NX2.out _ HB9.out).mono ?_
               rintro e w11 ⟨rfl, hb11⟩
               have HB11 := Lib.hid (HB9.out.trans (hb11.mono HB9.out.size))
               clear hb11)
            | (go_simp
               go_at_call 12
               refine (DP.out _ HB9.out).mono ?_
               rintro e w10 ⟨rfl, rfl⟩)
            | (go_simp
               go_at_call 15
               refine (SL1.out _ HB8.out).mono ?_
               rintro e w9 ⟨rfl, hb9⟩
               have HB9 := Lib.hid (HB8.out.trans (hb9.mono HB8.out.size))
               clear hb9)
            | (go_simp
               go_at_call 15
               refine (SL0.out _ HB7.out).mono ?_
               rintro e w8 ⟨rfl, hb8⟩
               have q2 := below_cell (HB7.out.trans (hb8.mono HB7.out.size)) q1
               have HB8 := Lib.hid (HB7.out.trans (hb8.mono HB7.out.size))
               clear hb8)
            | (go_simp
               go_at_call 17
               refine FN6.out.mono ?_
               rintro e w7 ⟨rfl, m7, rfl⟩
               have HB7 := Lib.hid (below_drewN HW6.out m7))
            | (go_simp
               go_at_call 21
               refine (TH.out _ HB5.out).mono ?_
               rintro e w6 ⟨rfl, F6, X6, hT6, hF6, hf6⟩
               have q1 := hf6.cell (below_cell HB5.out q0) HNB.out
               have hw6 := Below.refl w6.heap.size w6
               have fn6 : Calls Try.prog 17 #[.pointer (some ⟨tb, 0, none⟩)] w6 fun e w' => e = .returned (.int .i64 1) ∧ ∃ m, w' = w6.drewN m := fn_some w6 F6 tb p1 _ X6 hT6 (by show 2 ≤ 1000; decide) 1 rfl
               have sl0 : ∀ wq, Below w6.heap.size w6 wq → Calls Try.prog 15 #[.pointer (some ⟨tb, 0, none⟩), .int .i64 0] wq _ := fun wq hq => slotT (hT6.below hq) G1.out (by show 2 ≤ 10; decide) 0 (by decide) x G3.out
               have sl1 : ∀ wq, Below w6.heap.size w6 wq → Calls Try.prog 15 #[.pointer (some ⟨tb, 0, none⟩), .int .i64 1] wq _ := fun wq hq => slotT (hT6.below hq) G1.out (by show 2 ≤ 10; decide) 1 (by decide) d G4.out
               have dp : ∀ wq, Below w6.heap.size w6 wq → Calls Try.prog 12 #[.pointer (some ⟨tb, 0, none⟩)] wq fun e w' => e = .returned (.int .i64 2) ∧ wq = w' := fun wq hq => depth_any wq F6 tb p1 _ X6 (hT6.below hq)
               have nx2 : ∀ wq, Below w6.heap.size w6 wq → Calls Try.prog 20 #[.pointer (some ⟨tb, 0, none⟩)] wq fun e w' => e = .returned (.int .i64 0) ∧ Below wq.heap.size wq w' := fun wq hq => tkNext_any wq F6 tb p1 _ X6 (hT6.below hq) (by show 2 ≤ 10000; decide)
               have HT6 := Lib.hid hT6
               have HF6 := Lib.hid hF6
               have HFR6 := Lib.hid hf6
               have HW6 := Lib.hid hw6
               have FN6 := Lib.hid fn6
               have SL0 := Lib.hid sl0
               have SL1 := Lib.hid sl1
               have DP := Lib.hid dp
               have NX2 := Lib.hid nx2
               clear hT6 hF6 hf6 hw6 fn6 sl0 sl1 dp nx2)
            | (go_simp
               go_at_call 20
               refine (NX.out _ HR0.out).mono ?_
               rintro e w5 ⟨rfl, hb5⟩
               have HB5 := Lib.hid (HR0.out.trans (hb5.mono HR0.out.size))
               clear hb5))
          all_goals
            have hb11 := HB11.out
            have hT7 := HT6.out.below hb11
            have hF7 : ∀ q, F6 q → F3 q ∨ wr.heap.size ≤ q := fun q hq => (HF6.out q hq).elim .inl (fun h => .inr (by have := HB5.out.size; omega))
            have hfr7 := ((Fr.of_below HB5.out F3).trans HFR6.out (fun _ _ h => h)).trans (Fr.of_below hb11 F3) (fun _ _ h => h)
            clear HT6 HF6 HFR6 HW6 FN6 SL0 SL1 DP NX2 HB7 HB8 HB9 HB11 hb11 q1 q2 HB5 NX TH
            have lv := tkLeave_any w11 F6 tb p1 _ X6 hT7 [⟨true, false, (d : Int)⟩] ⟨false, true, 0⟩ rfl (by show 1 ≤ 10000; decide)
            clear hT7
            have LV := Lib.hid lv; clear lv
            have HF7 := Lib.hid hF7; clear hF7
            have HFR7 := Lib.hid hfr7; clear hfr7
            go_wp2_with fail
            refine LV.out.mono ?_
            rintro e w12 ⟨rfl, F7, X7, hT8, hF8, hf8⟩
            have hT9 : TaskAt w12 F7 tb p1 ⟨1073741824, W4, [⟨0, 0, 0, -1, some ⟨tg, 0, none⟩, d, d⟩, ⟨((1 : Nat) : Int), 0, ((7 : Nat) : Int), -1, none, 0, 0⟩], [⟨true, false, (d : Int)⟩, ⟨true, true, 0⟩]⟩ X7 := hT8
            clear hT8 LV
            have hF9 : ∀ q, F7 q → F3 q ∨ wr.heap.size ≤ q := fun q hq => (hF8 q hq).elim (HF7.out q) (fun h => .inr (by have := HFR7.out.size; omega))
            have hfr9 := HFR7.out.trans hf8 (fun q hq h => (HF7.out q h).resolve_right (by omega))
            have nx : Calls Try.prog 20 #[.pointer (some ⟨tb, 0, none⟩)] w12 fun e w' => e = .returned (.int .i64 2) ∧ Below w12.heap.size w12 w' := tkNext_any w12 F7 tb p1 _ X7 hT9 (by show 2 ≤ 10000; decide)
            have po := fun wq (hq : Below w12.heap.size w12 wq) => popTwo (hT9.below hq) G1.out 9
            clear hT9 hF8 hf8 HF7 HFR7
            have HNX := Lib.hid nx
            have HPO := Lib.hid po
            clear nx po
            have HF9 := Lib.hid hF9; clear hF9
            have HFR9 := Lib.hid hfr9; clear hfr9
            go_upto_region 19 with fail
            go_wp2_with fail
            refine HNX.out.mono ?_
            rintro e w13 ⟨rfl, hb13⟩
            have HB13 := Lib.hid hb13
            clear hb13 HNX
            go_wp2_with fail
            refine (HPO.out _ HB13.out).mono ?_
            rintro e w14 ⟨rfl, F8, X8, hT10, hF10, hf10⟩
            have hF11 : ∀ q, F8 q → F3 q ∨ wr.heap.size ≤ q := fun q hq => (hF10 q hq).elim (HF9.out q) (fun h => .inr (by have := HFR9.out.size; have := HB13.out.size; omega))
            have hfr10 := (HFR9.out.trans (Fr.of_below HB13.out F7) (fun q hq h => (HF9.out q h).resolve_right (by omega))).trans hf10 (fun q hq h => (HF9.out q h).resolve_right (by omega))
            have hR6 := HR5.out.fr hfr10 hF11
            have hsz := HB4.out.size
            have hF12 : ∀ q, F8 q → w.heap.size ≤ q := fun q hq => (hF11 q hq).elim (HF4.out q) (fun h => by omega)
            have hB12 := HB4.out.trans (hfr10.below HB4.out.size HF4.out)
            clear hf10 hF10 hF11 hfr10 HPO HF9 HFR9 HR5 HF4 HB4
            have HT10 := Lib.hid hT10; clear hT10
            have HR6 := Lib.hid hR6; clear hR6
            have HF12 := Lib.hid hF12; clear hF12
            have HB12 := Lib.hid hB12; clear hB12
            have i2 : IntKind.i64.wrap ((d : Int) - 1) = (d : Int) - 1 := IntWalk.i64_in _ (by omega)
            go_wp2_with fail
            go_roundw
            case rel => exact ⟨d, hdn, _, rfl, by go_num, F8, X8, W4, some ⟨tg, 0, none⟩, d, d, HT10.out, G1.out, G2.out, (fun _ => ⟨rfl, Nat.le_refl _⟩), rfl, HR6.out, HF12.out, HB12.out⟩
            case measure => simp [intOf]
end Go.Proofs.Ytmanoclahcpaoaa
