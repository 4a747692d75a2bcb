/- RootsGlobals: globals of pointers are roots, numbers are not. No condition. -/
import Derived.Test.YtknbllbhakpaaaaGreatHBq
import Derived.Test.YtknbllbhakpaaaaGreatHAo
import Derived.Test.YtknbllbhakpaaaaGreatRows
set_option linter.unusedVariables false
set_option linter.unusedSimpArgs false
/- RootsGlobals: globals of pointers are roots, numbers are not. No condition. -/
namespace Go.Proofs.YtknbllbhakpaaaaGreat.rootsGlobals
open Go.ChangeShapes Go.WideShapes Go.ChangeAt Go.RowKit Go.Maps
section
variable {H : Type} {enc : TypeId × Value → H}
set_option maxRecDepth 100000 in
/-- numbers that come in, with their bounds -/
theorem open_intsB {w : World} {base b : Nat} {v : Value} {sp : Nat → Bool} {d : DataW H} {p : List MemPlace} (hv : Value.okWide Tryz.prog w .any base 23 v)
    (h : DataW.Trod enc Tryz.prog w b sp true 23 v d p) : ∃ (a : Option Addr) (l : List Int) (c : Nat), v = .slice a l.length c ∧ IntSl w (fun k => k < w.heap.size) a l ∧ ∀ x ∈ l, i64B x := by
  obtain ⟨fuel, hf⟩ := h
  obtain ⟨a0, len0, cap0, rfl⟩ := okWide_slice Tryz.underlying23 hv
  obtain ⟨a, l, c, h1, h2, h3⟩ := trodB_ints hf
  simp [Value.cells] at h1
  obtain ⟨rfl, rfl, rfl⟩ := h1
  exact ⟨_, l, _, rfl, h2, h3⟩
end
set_option maxRecDepth 100000 in
set_option maxHeartbeats 16000000 in
theorem walk (w : World) (v : Value) (hv : ∃ (a : Option Addr) (l : List Int) (c : Nat), v = .slice a l.length c ∧ IntSl w (fun k => k < w.heap.size) a l ∧ ∀ x ∈ l, i64B x) :
    Calls Tryz.prog 6 #[v] w fun e w' => e = .returned (.bool true) ∧ Below w.heap.size w w' := by
  obtain ⟨a, l, c, rfl, hl, hlB⟩ := hv
  have AL := Lib.hid alive17
  have HL := Lib.hid hl
  have HLB := Lib.hid hlB
  clear hl hlB
  by_cases h16 : 16 < l.length
  · have h16' : (16 : Int) < (l.length : Int) := by omega
    go_enter Tryz.func6, Tryz.ntmps6
    go_wp2_with fail
    refine (AL.out w).mono ?_
    rintro e w1 ⟨rfl, hb⟩
    have HB := Lib.hid hb
    clear hb
    go_wp2_with fail
    go_ret
    exact ⟨rfl, HB.out⟩
  have h16' : ¬ (16 : Int) < (l.length : Int) := by omega
  go_enter Tryz.func6, Tryz.ntmps6
  go_wp2_with fail
  refine (AL.out w).mono ?_
  rintro e w0 ⟨rfl, hb0⟩
  obtain ⟨W1, h1⟩ : ∃ W1, W1 = w0.alloc (.cells #[.int .i64 1] 3) := ⟨_, rfl⟩
  have s1 : W1.heap.size = w0.heap.size + 1 := by rw [h1]; simp
  have b1 : Below w0.heap.size w0 W1 := by rw [h1]; exact (Below.refl _ _).alloc (Nat.le_refl _) _
  have r0 : W1.heap[w0.heap.size]? = some (.cells #[.int .i64 1] 3) := by rw [h1]; exact heap_new _ _
  obtain ⟨W2, h2⟩ : ∃ W2, W2 = W1.alloc (.cells #[.slice (some ⟨w0.heap.size, 0, none⟩) 1 1] 25) := ⟨_, rfl⟩
  have s2 : W2.heap.size = w0.heap.size + 1 + 1 := by rw [h2]; simp [s1]
  have b2 : Below W1.heap.size W1 W2 := by rw [h2]; exact (Below.refl _ _).alloc (Nat.le_refl _) _
  have r0 := (Fr.of_below b2 (fun _ => False)).heap r0 (fun h => h)
  have r1 : W2.heap[w0.heap.size + 1]? = some (.cells #[.slice (some ⟨w0.heap.size, 0, none⟩) 1 1] 25) := by rw [h2, ← s1]; exact heap_new _ _
  obtain ⟨W3, h3⟩ : ∃ W3, W3 = W2.alloc (.cells #[.int .i64 27, .int .i64 0, .int .i64 0, .int .i64 0] 28) := ⟨_, rfl⟩
  have s3 : W3.heap.size = w0.heap.size + 1 + 1 + 1 := by rw [h3]; simp [s2]
  have b3 : Below W2.heap.size W2 W3 := by rw [h3]; exact (Below.refl _ _).alloc (Nat.le_refl _) _
  have r0 := (Fr.of_below b3 (fun _ => False)).heap r0 (fun h => h)
  have r1 := (Fr.of_below b3 (fun _ => False)).heap r1 (fun h => h)
  have r2 : W3.heap[w0.heap.size + 1 + 1]? = some (.cells #[.int .i64 27, .int .i64 0, .int .i64 0, .int .i64 0] 28) := by rw [h3, ← s2]; exact heap_new _ _
  obtain ⟨W4, h4⟩ : ∃ W4, W4 = W3.alloc (.cells #[.slice none 0 0, .int .i64 0, .int .i64 0, .slice none 0 0, .slice (some ⟨w0.heap.size + 1 + 1, 0, none⟩) 1 1] 31) := ⟨_, rfl⟩
  have s4 : W4.heap.size = w0.heap.size + 1 + 1 + 1 + 1 := by rw [h4]; simp [s3]
  have b4 : Below W3.heap.size W3 W4 := by rw [h4]; exact (Below.refl _ _).alloc (Nat.le_refl _) _
  have r0 := (Fr.of_below b4 (fun _ => False)).heap r0 (fun h => h)
  have r1 := (Fr.of_below b4 (fun _ => False)).heap r1 (fun h => h)
  have r2 := (Fr.of_below b4 (fun _ => False)).heap r2 (fun h => h)
  have r3 : W4.heap[w0.heap.size + 1 + 1 + 1]? = some (.cells #[.slice none 0 0, .int .i64 0, .int .i64 0, .slice none 0 0, .slice (some ⟨w0.heap.size + 1 + 1, 0, none⟩) 1 1] 31) := by rw [h4, ← s3]; exact heap_new _ _
  obtain ⟨W5, h5⟩ : ∃ W5, W5 = W4.alloc (.cells #[.slice none 0 0, .slice (some ⟨w0.heap.size + 1, 0, none⟩) 1 1, .slice (some ⟨w0.heap.size + 1 + 1 + 1, 0, none⟩) 1 1] 34) := ⟨_, rfl⟩
  have s5 : W5.heap.size = w0.heap.size + 1 + 1 + 1 + 1 + 1 := by rw [h5]; simp [s4]
  have b5 : Below W4.heap.size W4 W5 := by rw [h5]; exact (Below.refl _ _).alloc (Nat.le_refl _) _
  have r0 := (Fr.of_below b5 (fun _ => False)).heap r0 (fun h => h)
  have r1 := (Fr.of_below b5 (fun _ => False)).heap r1 (fun h => h)
  have r2 := (Fr.of_below b5 (fun _ => False)).heap r2 (fun h => h)
  have r3 := (Fr.of_below b5 (fun _ => False)).heap r3 (fun h => h)
  have r4 : W5.heap[w0.heap.size + 1 + 1 + 1 + 1]? = some (.cells #[.slice none 0 0, .slice (some ⟨w0.heap.size + 1, 0, none⟩) 1 1, .slice (some ⟨w0.heap.size + 1 + 1 + 1, 0, none⟩) 1 1] 34) := by rw [h5, ← s4]; exact heap_new _ _
  have hbl : Below w0.heap.size w0 W5 := b1|>.trans (b2.mono (by omega))|>.trans (b3.mono (by omega))|>.trans (b4.mono (by omega))|>.trans (b5.mono (by omega))
  have hL : W5 = ((((w0.alloc (.cells #[.int .i64 1] 3)).alloc (.cells #[.slice (some ⟨w0.heap.size, 0, none⟩) 1 1] 25)).alloc (.cells #[.int .i64 27, .int .i64 0, .int .i64 0, .int .i64 0] 28)).alloc (.cells #[.slice none 0 0, .int .i64 0, .int .i64 0, .slice none 0 0, .slice (some ⟨w0.heap.size + 1 + 1, 0, none⟩) 1 1] 31)).alloc (.cells #[.slice none 0 0, .slice (some ⟨w0.heap.size + 1, 0, none⟩) 1 1, .slice (some ⟨w0.heap.size + 1 + 1 + 1, 0, none⟩) 1 1] 34) := by rw [h5, h4, h3, h2, h1]
  have hz0 := hb0.size
  have HL5 := Lib.hid hL
  have HB0 := Lib.hid hb0
  have HBL := Lib.hid hbl
  have HS5 := Lib.hid s5
  have HR := Lib.hid (And.intro r0 (And.intro r1 (And.intro r2 r3)))
  have HR4 := Lib.hid r4
  clear r0 r1 r2 r3 r4 b1 b2 b3 b4 b5 s1 s2 s3 s4 s5 h1 h2 h3 h4 h5 hL hb0 hbl hz0
  go_upto_region 4 with fail
  rw [← HL5.out]
  go_wp2_with fail
  go_loopw [4] (fun i wr => ∃ (n : Nat) (vg : Value), n ≤ l.length ∧ i = .int .i64 n ∧ wr.heap[w0.heap.size + 1 + 1 + 1 + 1]? = some (.cells #[vg, .slice (some ⟨w0.heap.size + 1, 0, none⟩) 1 1, .slice (some ⟨w0.heap.size + 1 + 1 + 1, 0, none⟩) 1 1] 34) ∧ Own intE wr W5.heap.size vg (glW n) ∧ Fr (fun q => q = w0.heap.size + 1 + 1 + 1 + 1) W5 wr) (fun i _ => l.length - (intOf i).toNat)
  case atStart => exact ⟨0, _, Nat.zero_le _, rfl, HR4.out, Own.nil _ _ _, Fr.refl _ _⟩
  case round =>
    obtain ⟨n, vg, hn, rfl, hr, ho, hfr⟩ := hrel
    obtain ⟨q1, q2, q3, rfl⟩ := ho.slice
    by_cases hlt : n < l.length
    · have k0 := (row_cell hr 0).1
      have HO := Lib.hid ho
      have HRR := Lib.hid hr
      have HFR := Lib.hid hfr
      clear ho hr hfr
      rcases Nat.mod_two_eq_zero_or_one n with hmod | hmod
      · have htm : (n : Int).tmod 2 = 0 := by rw [Int.tmod_eq_emod_of_nonneg (by omega)]; omega
        go_upto_region 7 with fail
        have hgs : glW (n + 1) = glW n ++ [(1 : Int)] := by rw [glW_succ]; simp [hmod]
        have HGS := Lib.hid hgs
        clear hgs
        have ka := (row_cell (row_allocR HRR.out (.cells #[.int .i64 1, .int .i64 16] 3)) 0).1
        have kb := (row_cell (row_allocR (row_allocR HRR.out (.cells #[.int .i64 1, .int .i64 16] 3)) (.cells #[.int .i64 (1 : Int)] 3)) 0).1
        simp only [List.getElem?_toArray, List.getElem?_cons_zero] at ka kb
        go_region_law (first
          | (refine step_append_freshR intE rfl (.tmp 32) (.tmp 38) rfl W5.heap.size (glW n) [(1 : Int)] _ rfl ((HO.out.drew.alloc _).alloc _) (wr.heap.size + 1) 0 1 rfl ?ca (by rw [glW_len]; simp; omega) (by have := HFR.out.size; simp; omega) ?_
             case ca =>
               have h := CellsAt.new (wr.alloc (.cells #[.int .i64 1, .int .i64 16] 3)) #[.int .i64 (1 : Int)] 3 (0, 0)
               rw [show (wr.alloc (.cells #[.int .i64 1, .int .i64 16] 3)).heap.size = wr.heap.size + 1 by simp] at h
               exact h
             intro v4 w4 ho4 hg4 hf4
             have hfA := (((Fr.refl (fun q => (Value.slice q1 q2 q3).ownBlock = some q) wr).drew.alloc _).alloc _).grown hg4 (fun k hk _ => hk)
             have HFA := Lib.hid hfA
             have HR5 := Lib.hid (hfA.heap HRR.out (fun e => by have := (HO.out.lt e).1; have := HS5.out; omega))
             have kk := (row_cell HR5.out 0).1
             have kf := (row_cell HR5.out 0).2
             obtain ⟨x1, x2, x3, rfl⟩ := ho4.slice
             have HO4 := Lib.hid ho4
             clear hfA hg4 hf4 ho4))
        all_goals
          have hst := row_set HR5.out 0 (.slice x1 x2 x3)
          have hfs := (Fr.refl (fun q => q = w0.heap.size + 1 + 1 + 1 + 1) w4).setCell (p := ⟨w0.heap.size + 1 + 1 + 1 + 1, 0, none⟩) (fun _ => rfl) (.slice x1 x2 x3)
          have hos := HO4.out.fr hfs (fun k hk e => by have := (HO4.out.lt hk).1; have := HS5.out; omega)
          rw [← HGS.out] at hos
          have HST := Lib.hid hst
          have HOS := Lib.hid hos
          have HFS := Lib.hid ((HFR.out.trans HFA.out (fun k hk e => absurd (HO.out.lt e).1 (by omega))).trans hfs (fun _ _ h => h))
          clear hst hos hfs kk kf k0 ka kb htm
          go_wp2_with fail
          go_roundw
          case rel => exact ⟨n + 1, _, hlt, by go_num, HST.out, HOS.out, HFS.out⟩
          case measure => simp [intOf]; omega
      · have htm : (n : Int).tmod 2 = 1 := by rw [Int.tmod_eq_emod_of_nonneg (by omega)]; omega
        go_upto_region 7 with fail
        have hgs : glW (n + 1) = glW n ++ [(16 : Int)] := by rw [glW_succ]; simp [hmod]
        have HGS := Lib.hid hgs
        clear hgs
        have ka := (row_cell (row_allocR HRR.out (.cells #[.int .i64 1, .int .i64 16] 3)) 0).1
        have kb := (row_cell (row_allocR (row_allocR HRR.out (.cells #[.int .i64 1, .int .i64 16] 3)) (.cells #[.int .i64 (16 : Int)] 3)) 0).1
        simp only [List.getElem?_toArray, List.getElem?_cons_zero] at ka kb
        go_region_law (first
          | (refine step_append_freshR intE rfl (.tmp 32) (.tmp 38) rfl W5.heap.size (glW n) [(16 : Int)] _ rfl ((HO.out.drew.alloc _).alloc _) (wr.heap.size + 1) 0 1 rfl ?ca (by rw [glW_len]; simp; omega) (by have := HFR.out.size; simp; omega) ?_
             case ca =>
               have h := CellsAt.new (wr.alloc (.cells #[.int .i64 1, .int .i64 16] 3)) #[.int .i64 (16 : Int)] 3 (0, 0)
               rw [show (wr.alloc (.cells #[.int .i64 1, .int .i64 16] 3)).heap.size = wr.heap.size + 1 by simp] at h
               exact h
             intro v4 w4 ho4 hg4 hf4
             have hfA := (((Fr.refl (fun q => (Value.slice q1 q2 q3).ownBlock = some q) wr).drew.alloc _).alloc _).grown hg4 (fun k hk _ => hk)
             have HFA := Lib.hid hfA
             have HR5 := Lib.hid (hfA.heap HRR.out (fun e => by have := (HO.out.lt e).1; have := HS5.out; omega))
             have kk := (row_cell HR5.out 0).1
             have kf := (row_cell HR5.out 0).2
             obtain ⟨x1, x2, x3, rfl⟩ := ho4.slice
             have HO4 := Lib.hid ho4
             clear hfA hg4 hf4 ho4))
        all_goals
          have hst := row_set HR5.out 0 (.slice x1 x2 x3)
          have hfs := (Fr.refl (fun q => q = w0.heap.size + 1 + 1 + 1 + 1) w4).setCell (p := ⟨w0.heap.size + 1 + 1 + 1 + 1, 0, none⟩) (fun _ => rfl) (.slice x1 x2 x3)
          have hos := HO4.out.fr hfs (fun k hk e => by have := (HO4.out.lt hk).1; have := HS5.out; omega)
          rw [← HGS.out] at hos
          have HST := Lib.hid hst
          have HOS := Lib.hid hos
          have HFS := Lib.hid ((HFR.out.trans HFA.out (fun k hk e => absurd (HO.out.lt e).1 (by omega))).trans hfs (fun _ _ h => h))
          clear hst hos hfs kk kf k0 ka kb htm
          go_wp2_with fail
          go_roundw
          case rel => exact ⟨n + 1, _, hlt, by go_num, HST.out, HOS.out, HFS.out⟩
          case measure => simp [intOf]; omega
    · have hn' : n = l.length := by omega
      subst hn'
      obtain ⟨r0, r1, r2, r3⟩ := HR.out
      have hs5 := HS5.out
      have r0 := hfr.heap r0 (by omega)
      have r1 := hfr.heap r1 (by omega)
      have r2 := hfr.heap r2 (by omega)
      have r3 := hfr.heap r3 (by omega)
      obtain ⟨ga, gc, hge, hgs⟩ := own_int ho
      rw [glW_len] at hge
      injection hge with e1 e2 e3
      subst e1 e2 e3
      have hpv : PrgVal wr (fun _ => True) ⟨glW l.length, [[1]], [⟨[], 0, 0, [], [⟨27, 0, 0, 0⟩]⟩]⟩ (.slice q1 (glW l.length).length q3) (.slice (some ⟨w0.heap.size + 1, 0, none⟩) 1 1) (.slice (some ⟨w0.heap.size + 1 + 1 + 1, 0, none⟩) 1 1) := by
        refine ⟨⟨_, _, rfl, hgs.wide (fun _ _ => trivial)⟩, ⟨_, 1, rfl, fun j hj => ?_⟩, _, 1, rfl, fun j hj => ?_⟩
        · obtain rfl : j = 0 := by have : j < 1 := hj; omega
          refine ⟨_, 0, rfl, trivial, _, _, (row_cell r1 0).1, fun i hi => ?_⟩
          obtain rfl : i = 0 := by have : i < 1 := hi; omega
          exact ⟨_, 0, rfl, trivial, (row_cell r0 0).1⟩
        · obtain rfl : j = 0 := by have : j < 1 := hj; omega
          refine ⟨_, 0, rfl, trivial, _, _, _, _, _, (row_cell r3 0).1, (row_cell r3 1).1, (row_cell r3 2).1, (row_cell r3 3).1, (row_cell r3 4).1, rfl, rfl, ⟨none, 0, rfl, fun i hi => by cases hi⟩, ⟨none, 0, rfl, fun i hi => by cases hi⟩, _, 1, rfl, fun i hi => ?_⟩
          obtain rfl : i = 0 := by have : i < 1 := hi; omega
          exact ⟨_, 0, rfl, trivial, (row_cell r2 0).1, (row_cell r2 1).1, (row_cell r2 2).1, (row_cell r2 3).1⟩
      rw [glW_len] at hpv
      have hbw : Below w.heap.size w wr := HB0.out.trans (((HBL.out.mono HB0.out.size)).trans (hfr.below (by have := HB0.out.size; omega) (fun q hq => by have := HB0.out.size; omega)))
      have hgB : ∀ g ∈ glW l.length, i64B g := fun g hg => by
        unfold glW at hg
        obtain ⟨i, _, rfl⟩ := List.mem_map.1 hg
        split <;> (unfold i64B; omega)
      have gl := globals_any wr _ _ _ _ _ hpv hgB (by show (glW l.length).length ≤ 1000000; rw [glW_len]; omega) (fun k => k < w.heap.size) a l c (HL.out.fr (Fr.of_below hbw (fun _ => False)) (fun _ _ h => h)) HLB.out
      have k0 := (row_cell hr 0).1
      have k1 := (row_cell hr 1).1
      have k2 := (row_cell hr 2).1
      simp only [List.getElem?_toArray, List.getElem?_cons_zero, List.getElem?_cons_succ] at k0 k1 k2
      have GL := Lib.hid gl
      have HBW := Lib.hid hbw
      clear r0 r1 r2 r3 hs5 hgs hpv hbw hgB gl ho hr hfr
      go_wp2_with fail
      refine GL.out.mono ?_
      rintro e w6 ⟨v6, L, rfl, ho6, hri, hm6, hb6⟩
      obtain ⟨ua, uc, rfl, hvs⟩ := own_int ho6
      have hmake : ∀ w, (Instr.makeMap 54 none).run Tryz.prog w = .ok (.map (some w.heap.size)) (w.alloc (.map #[] 0)) := fun w => run_makeMap _ w
      have hb7 := (Below.refl w6.heap.size w6).alloc (Nat.le_refl _) (.map #[] 0)
      obtain ⟨w7, hw7⟩ : ∃ w7, w7 = w6.alloc (.map #[] 0) := ⟨_, rfl⟩
      obtain ⟨mb, hmb⟩ : ∃ mb, mb = w6.heap.size := ⟨_, rfl⟩
      have hmk : MapIs intK Value.bool w7 mb 0 (fun _ => none) := by rw [hw7, hmb]; exact MapIs.made _ _ _
      rw [← hw7] at hb7
      have HW7 := Lib.hid hw7
      have HMB := Lib.hid hmb
      have HMK := Lib.hid hmk
      have HRI := Lib.hid hri
      have HB6 := Lib.hid hb6
      have HB7 := Lib.hid hb7
      have HM6 := Lib.hid (show ∀ x, x ∈ L ↔ (i64B x ∧ oddW l l.length x) from fun x => (hm6 x).trans (by rw [show GloS (glW l.length) l (glW l.length).length x ↔ oddW l l.length x from glo_odd l x]))
      have HVS := Lib.hid (hvs.fr (Fr.of_below hb7 (fun _ => False)) (fun _ _ h => h))
      have HUB := Lib.hid (show ∀ k, (Value.slice ua L.length uc).ownBlock = some k → k < mb from fun k hk => by rw [hmb]; exact (ho6.lt hk).2)
      have hw67 := HBW.out.trans ((HB6.out.mono HBW.out.size).trans (hb7.mono (by have := HBW.out.size; have := HB6.out.size; omega)))
      have HLW := Lib.hid (HL.out.fr (Fr.of_below hw67 (fun _ => False)) (fun _ _ h => h))
      have HW67 := Lib.hid hw67
      have HMW := Lib.hid (show w.heap.size ≤ mb by rw [hmb]; have := HBW.out.size; have := HB6.out.size; omega)
      clear hw7 hmb hmk hri hb6 hb7 hm6 hvs ho6 k0 k1 k2 hw67
      go_upto_region 10 with fail
      clear hmake
      rw [← HW7.out, ← HMB.out]
      go_wp2_with fail
      go_loopw [7] (fun v wr => ∃ (i m : Nat) (f : Int → Option Bool), i % 2 = 1 ∧ i ≤ l.length + 1 ∧ v = .int .i64 i ∧ m ≤ i ∧ MapIs intK Value.bool wr mb m f ∧ (∀ x, i64B x → ((f x).isSome = true ↔ oddW l i x)) ∧ (∀ x b, f x = some b → b = true) ∧ Fr (fun q => q = mb) w7 wr) (fun v _ => l.length + 2 - (intOf v).toNat)
      case atStart => exact ⟨1, 0, _, rfl, by omega, rfl, by omega, HMK.out, fun x _ => ⟨fun h => by simp at h, fun ⟨_, k, hk, ho, _⟩ => by omega⟩, fun x b h => (by cases h), Fr.refl _ _⟩
      case round =>
        obtain ⟨i, m, f, hodd, hi, rfl, hmi, hmp, hfx, hft, hfr⟩ := hrel
        by_cases hlt : i < l.length
        · obtain ⟨x, hxe⟩ : ∃ x, x = l[i] := ⟨_, rfl⟩
          have hxk : l[i]? = some x := by rw [hxe, List.getElem?_eq_getElem hlt]
          have hxb := HLB.out x (by rw [hxe]; exact List.getElem_mem hlt)
          obtain ⟨xb, xo, rfl, hxl, hxc⟩ := HLW.out i hlt
          rw [← hxe] at hxc
          have hxl : xb < w.heap.size := hxl
          have hxc := hfr.cell hxc (show ¬ xb = mb by have := HMW.out; omega)
          have hst := oddW_step hxk hodd
          clear hxe hxk
          have HFT := Lib.hid hft
          have HODD := Lib.hid hodd
          clear hft hodd
          by_cases hx0 : x = 0
          · have hfx2 : ∀ y, i64B y → ((f y).isSome = true ↔ oddW l (i + 2) y) := fun y hy => by
              rw [hst y, hfx y hy]
              exact ⟨.inl, fun h => h.elim (fun h => h) (fun h => absurd (h.2.trans hx0) h.1)⟩
            subst hx0
            have HFX := Lib.hid hfx2
            have HMP := Lib.hid hmp
            have HFR := Lib.hid hfr
            clear hfx hfx2 hmp hfr hst hxb
            go_wp2_with fail
            go_roundw
            case rel => exact ⟨i + 2, m, f, by have := HODD.out; omega, by omega, by go_num, by omega, HMP.out, HFX.out, HFT.out, HFR.out⟩
            case measure => simp [intOf]; omega
          · have hxn : (x != 0) = true := by rw [bne_iff_ne]; exact hx0
            have ht : Tryz.prog.underlying 54 = some (.map intK.k 4) := Tryz.underlying54
            have HT := Lib.hid ht
            have HXB := Lib.hid hxb
            have HNM := Lib.hid (show m < maxLen by unfold maxLen; omega)
            have HFX := Lib.hid (show ∀ y, i64B y → (((upd f x (some true)) y).isSome = true ↔ oddW l (i + 2) y) from fun y hy => by
              rw [hst y, ← hfx y hy]
              unfold upd
              by_cases h : y = x
              · rw [if_pos h]; simp [h, hx0]
              · rw [if_neg h]; simp [h])
            have HFT2 := Lib.hid (show ∀ y b, upd f x (some true) y = some b → b = true from fun y b h => by
              unfold upd at h
              split at h
              · injection h with h; exact h.symm
              · exact HFT.out y b h)
            have HMP := Lib.hid hmp
            have HFR := Lib.hid hfr
            have HX0 := Lib.hid hx0
            clear hfx hmp hfr hst hxb ht hx0
            go_wp2_with (refine put_map rfl (.tmp 56) (.tmp 60) (.const (.bool true)) 54 4 rfl HMP.out HT.out HNM.out x HXB.out true rfl rfl rfl ?_; intro w8 hm8 ht8)
            have HM8 := Lib.hid hm8
            have HF8 := Lib.hid (HFR.out.trans (turned_fr ht8) (fun _ _ h => h))
            clear hm8 ht8
            go_wp2_with fail
            go_roundw
            case rel => exact ⟨i + 2, _, _, by have := HODD.out; omega, by omega, by go_num, by split <;> omega, HM8.out, HFX.out, HFT2.out, HF8.out⟩
            case measure => simp [intOf]; omega
        · have hfl : ∀ x, x ∈ L ↔ (i64B x ∧ (f x).isSome = true) := fun x => by
            rw [HM6.out x]
            constructor
            · rintro ⟨hb, h0, k, hk, ho, hx⟩
              exact ⟨hb, (hfx x hb).2 ⟨h0, k, by omega, ho, hx⟩⟩
            · rintro ⟨hb, h⟩
              obtain ⟨h0, k, hk, ho, hx⟩ := (hfx x hb).1 h
              exact ⟨hb, h0, k, (List.getElem?_eq_some_iff.1 hx).1, ho, hx⟩
          obtain rfl := count_keys hmp HRI.out.nodup hfl
          have HFLL := Lib.hid (show ∀ x ∈ L, f x = some true from fun x hx => by
            have h := ((hfl x).1 hx).2
            cases hf : f x with
            | none => rw [hf] at h; cases h
            | some b => rw [hft x b hf])
          have HVW := Lib.hid (HVS.out.fr hfr (fun k hk e => by have := HUB.out k hk; omega))
          have HMP := Lib.hid hmp
          have HBE := Lib.hid (HW67.out.trans (hfr.below HW67.out.size (fun q hq => by have := HMW.out; omega)))
          have HLL := Lib.hid (show L.length ≤ l.length + 1 by omega)
          have HLB2 := Lib.hid (show ∀ x ∈ L, i64B x from fun x hx => ((HM6.out x).1 hx).1)
          obtain ⟨w9, hw9⟩ : ∃ w9, w9 = wr := ⟨_, rfl⟩
          rw [← hw9] at HVW HMP HBE ⊢
          clear hfl hmp hfx hft hfr hw9
          go_wp2_with fail
          go_loopw [8] (fun v wr => ∃ j : Nat, j ≤ L.length ∧ v = .int .i64 j ∧ Below w9.heap.size w9 wr) (fun v _ => L.length - (intOf v).toNat)
          case atStart => exact ⟨0, Nat.zero_le _, rfl, Below.refl _ _⟩
          case round =>
            obtain ⟨j, hj, rfl, hb9⟩ := hrel
            have hll := HLL.out
            by_cases hlt2 : j < L.length
            · obtain ⟨x, hxe⟩ : ∃ x, x = L[j] := ⟨_, rfl⟩
              have hxm : x ∈ L := by rw [hxe]; exact List.getElem_mem hlt2
              have ht : Tryz.prog.underlying 54 = some (.map intK.k 4) := Tryz.underlying54
              have hlk : ∀ wx, Below wr.heap.size wr wx → (Instr.lookup 54 (.map (some mb)) (.int .i64 x) false).run Tryz.prog wx = .ok (.bool true) wx := fun wx hx => (((HMP.out.fr (Fr.of_below (hb9.trans (hx.mono hb9.size)) (fun _ => False)) (fun h => h)).look ht (show (zeroValue 4).run Tryz.prog wx = .ok (.bool false) wx by kernel_rfl) x (HLB2.out x hxm)).1 true (HFLL.out x hxm)).1
              have hcl : ∀ wx, Below wr.heap.size wr wx → IntSl wx (fun k => (Value.slice ua L.length uc).ownBlock = some k) ua L := fun wx hx => HVW.out.fr (Fr.of_below (hb9.trans (hx.mono hb9.size)) (fun _ => False)) (fun _ _ h => h)
              obtain ⟨gb, go, rfl, _, _⟩ := hcl wr (Below.refl _ _) j hlt2
              have hcj : ∀ wx, Below wr.heap.size wr wx → wx.cell? ⟨gb, go + j, none⟩ = some (.int .i64 x) := fun wx hx => by
                obtain ⟨gb', go', e, _, h⟩ := hcl wx hx j hlt2
                injection e with e; injection e with e1 e2
                rw [hxe, e1, e2]; exact h
              have HB9 := Lib.hid hb9
              have HLT := Lib.hid hlt2
              by_cases hz : j = 0
              · subst hz
                have HFC := Lib.hid (show ∀ wx, Below wr.heap.size wr wx → wx.cell? ⟨gb, go, none⟩ = some (.int .i64 x) ∧ (Instr.lookup 54 (.map (some mb)) (.int .i64 x) false).run Tryz.prog wx = .ok (.bool true) wx from fun wx hx => ⟨hcj wx hx, hlk wx hx⟩)
                clear hlk hcl hcj hxe hxm hb9
                go_upto_region 18 with fail
                refine wp_region_noPanic ?_
                refine wp_region_held_drew (S := fun w' => Below wr.heap.size wr w') (by kernel_rfl) (Below.refl _ _).drew (fun _ => ?_)
                have HR1 := Lib.hid (Below.refl wr.heap.size wr).drew
                generalize wr.drew = r1 at *
                refine wpAnyH_take (i := 0) (v := ?_) rfl (by kernel_rfl) (by kernel_rfl) (by kernel_rfl) (fun _ _ _ h => h) (Or.inl ⟨by kernel_rfl, ?tq1⟩) HR1.out ?_
                case tq1 => (intro wq hq; obtain ⟨f0, f1⟩ := HFC.out wq hq; go_simp; first | done | with_reducible rfl)
                show wpAnyH _ _ _ _ _ _ _ (Act.put _ (some 67) _) _
                refine wpAnyH_take (i := 1) (v := ?_) rfl (by kernel_rfl) (by kernel_rfl) (by kernel_rfl) (fun _ _ _ h => h) (Or.inl ⟨by kernel_rfl, ?tq2⟩) HR1.out ?_
                case tq2 => (intro wq hq; obtain ⟨f0, f1⟩ := HFC.out wq hq; go_simp; first | done | with_reducible rfl)
                show wpAnyH _ _ _ _ _ _ _ (Act.put _ (some 68) _) _
                refine wpAnyH_take (i := 2) (v := ?_) rfl (by kernel_rfl) (by kernel_rfl) (by kernel_rfl) (fun _ _ _ h => h) (Or.inl ⟨by kernel_rfl, ?tq3⟩) HR1.out ?_
                case tq3 => (intro wq hq; obtain ⟨f0, f1⟩ := HFC.out wq hq; go_simp; first | done | with_reducible rfl)
                show wpAnyH _ _ _ _ _ _ _ (Act.put _ (some 69) _) _
                refine wpAnyH_take (i := 3) (v := ?_) rfl (by kernel_rfl) (by kernel_rfl) (by kernel_rfl) (fun _ _ _ h => h) (Or.inl ⟨by kernel_rfl, ?tq4⟩) HR1.out ?_
                case tq4 => (intro wq hq; obtain ⟨f0, f1⟩ := HFC.out wq hq; go_simp; first | done | with_reducible rfl)
                show wpAnyH _ _ _ _ _ _ _ (Act.put _ (some 70) _) _
                refine wpAnyH_take (i := 4) (v := ?_) rfl (by kernel_rfl) (by kernel_rfl) (by kernel_rfl) (fun _ _ _ h => h) (Or.inl ⟨by kernel_rfl, ?tq5⟩) HR1.out ?_
                case tq5 => (intro wq hq; obtain ⟨f0, f1⟩ := HFC.out wq hq; go_simp; first | done | with_reducible rfl)
                show wpAnyH _ _ _ _ _ _ _ (Act.put _ (some 71) _) _
                refine wpAnyH_take (i := 5) (v := ?_) rfl (by kernel_rfl) (by kernel_rfl) (by kernel_rfl) (fun _ _ _ h => h) (Or.inl ⟨by kernel_rfl, ?tq6⟩) HR1.out ?_
                case tq6 => (intro wq hq; obtain ⟨f0, f1⟩ := HFC.out wq hq; go_simp; first | done | with_reducible rfl)
                show wpAnyH _ _ _ _ _ _ _ (Act.put _ (some 72) _) _
                refine wpAnyH_take (i := 6) (v := ?_) rfl (by kernel_rfl) (by kernel_rfl) (by kernel_rfl) (fun _ _ _ h => h) (Or.inl ⟨by kernel_rfl, ?tq7⟩) HR1.out ?_
                case tq7 => (intro wq hq; obtain ⟨f0, f1⟩ := HFC.out wq hq; go_simp; first | done | with_reducible rfl)
                show wpAnyH _ _ _ _ _ _ _ (Act.put _ (some 73) _) _
                refine wpAnyH_take (i := 7) (v := ?_) rfl (by kernel_rfl) (by kernel_rfl) (by kernel_rfl) (fun _ _ _ h => h) (Or.inl ⟨by kernel_rfl, ?tq8⟩) HR1.out ?_
                case tq8 => (intro wq hq; obtain ⟨f0, f1⟩ := HFC.out wq hq; go_simp; first | done | with_reducible rfl)
                show wpAnyH _ _ _ _ _ _ _ (Act.put _ (some 74) _) _
                refine wpAnyH_take (i := 8) (v := ?_) rfl (by kernel_rfl) (by kernel_rfl) (by kernel_rfl) (fun _ _ _ h => h) (Or.inl ⟨by kernel_rfl, ?tq9⟩) HR1.out ?_
                case tq9 => (intro wq hq; obtain ⟨f0, f1⟩ := HFC.out wq hq; go_simp; first | done | with_reducible rfl)
                show wpAnyH _ _ _ _ _ _ _ (Act.put _ (some 75) _) _
                refine wpAnyH_take (i := 9) (v := ?_) rfl (by kernel_rfl) (by kernel_rfl) (by kernel_rfl) (fun _ _ _ h => h) (Or.inl ⟨by kernel_rfl, ?tq10⟩) HR1.out ?_
                case tq10 => (intro wq hq; obtain ⟨f0, f1⟩ := HFC.out wq hq; go_simp; first | done | with_reducible rfl)
                show wpAnyH _ _ _ _ _ _ _ (Act.put _ (some 76) _) _
                refine wpAnyH_take (i := 10) (v := ?_) rfl (by kernel_rfl) (by kernel_rfl) (by kernel_rfl) (fun _ _ _ h => h) (Or.inl ⟨by kernel_rfl, ?tq11⟩) HR1.out ?_
                case tq11 => (intro wq hq; obtain ⟨f0, f1⟩ := HFC.out wq hq; go_simp; first | done | with_reducible rfl)
                show wpAnyH _ _ _ _ _ _ _ (Act.put _ (some 77) _) _
                refine wpAnyH_take (i := 11) (v := undef) rfl (by kernel_rfl) (by kernel_rfl) (by kernel_rfl) (fun _ _ _ h => h) (Or.inr ⟨by kernel_rfl, by kernel_rfl⟩) HR1.out ?_
                show wpAnyH _ _ _ _ _ _ _ (Act.put _ (some 78) _) _
                refine wpAnyH_take (i := 12) (v := undef) rfl (by kernel_rfl) (by kernel_rfl) (by kernel_rfl) (fun _ _ _ h => h) (Or.inr ⟨by kernel_rfl, by kernel_rfl⟩) HR1.out ?_
                show wpAnyH _ _ _ _ _ _ _ (Act.put _ (some 79) _) _
                refine wpAnyH_take (i := 13) (v := undef) rfl (by kernel_rfl) (by kernel_rfl) (by kernel_rfl) (fun _ _ _ h => h) (Or.inr ⟨by kernel_rfl, by kernel_rfl⟩) HR1.out ?_
                show wpAnyH _ _ _ _ _ _ _ (Act.put _ (some 80) _) _
                refine wpAnyH_take (i := 14) (v := undef) rfl (by kernel_rfl) (by kernel_rfl) (by kernel_rfl) (fun _ _ _ h => h) (Or.inr ⟨by kernel_rfl, by kernel_rfl⟩) HR1.out ?_
                show wpAnyH _ _ _ _ _ _ _ (Act.put _ (some 81) _) _
                refine wpAnyH_take (i := 15) (v := undef) rfl (by kernel_rfl) (by kernel_rfl) (by kernel_rfl) (fun _ _ _ h => h) (Or.inr ⟨by kernel_rfl, by kernel_rfl⟩) HR1.out ?_
                show wpAnyH _ _ _ _ _ _ _ (Act.put _ (some 82) _) _
                refine wpAnyH_take (i := 16) (v := undef) rfl (by kernel_rfl) (by kernel_rfl) (by kernel_rfl) (fun _ _ _ h => h) (Or.inr ⟨by kernel_rfl, by kernel_rfl⟩) HR1.out ?_
                show wpAnyH _ _ _ _ _ _ _ (Act.put _ (some 83) _) _
                refine wpAnyH_take (i := 17) (v := undef) rfl (by kernel_rfl) (by kernel_rfl) (by kernel_rfl) (fun _ _ _ h => h) (Or.inr ⟨by kernel_rfl, by kernel_rfl⟩) HR1.out ?_
                show wpAnyH _ _ _ _ _ _ _ (Act.put _ (some 84) _) _
                refine wpAnyH_take (i := 18) (v := undef) rfl (by kernel_rfl) (by kernel_rfl) (by kernel_rfl) (fun _ _ _ h => h) (Or.inr ⟨by kernel_rfl, by kernel_rfl⟩) HR1.out ?_
                show wpAnyH _ _ _ _ _ _ _ (Act.put _ (some 85) _) _
                refine wpAnyH_take (i := 19) (v := undef) rfl (by kernel_rfl) (by kernel_rfl) (by kernel_rfl) (fun _ _ _ h => h) (Or.inr ⟨by kernel_rfl, by kernel_rfl⟩) HR1.out ?_
                show wpAnyH _ _ _ _ _ _ _ (Act.put _ (some 86) _) _
                refine wpAnyH_take (i := 20) (v := undef) rfl (by kernel_rfl) (by kernel_rfl) (by kernel_rfl) (fun _ _ _ h => h) (Or.inr ⟨by kernel_rfl, by kernel_rfl⟩) HR1.out ?_
                show wpAnyH _ _ _ _ _ _ _ (Act.put _ (some 87) _) _
                refine wpAnyH_take (i := 21) (v := ?_) rfl (by kernel_rfl) (by kernel_rfl) (by kernel_rfl) (fun _ _ _ h => h) (Or.inl ⟨by kernel_rfl, ?tq12⟩) HR1.out ?_
                case tq12 => (intro wq hq; obtain ⟨f0, f1⟩ := HFC.out wq hq; go_simp; first | done | with_reducible rfl)
                show wpAnyH _ _ _ _ _ _ _ (Act.put _ (some 88) _) _
                refine wpAnyH_take (i := 22) (v := ?_) rfl (by kernel_rfl) (by kernel_rfl) (by kernel_rfl) (fun _ _ _ h => h) (Or.inl ⟨by kernel_rfl, ?tq13⟩) HR1.out ?_
                case tq13 => (intro wq hq; obtain ⟨f0, f1⟩ := HFC.out wq hq; go_simp; first | done | with_reducible rfl)
                show wpAnyH _ _ _ _ _ _ _ (Act.put _ (some 89) _) _
                refine wpAnyH_done (by kernel_rfl) ?_ _
                refine NoPanic.normal ?_
                show Exit.then _ _ _ (Act.put _ (some 89) _) _
                simp only [Act.put, List.setIfInBounds_toArray, List.set_cons_zero, List.set_cons_succ]
                go_wp2_with fail
                go_roundw
                case rel => exact ⟨1, HLT.out, by go_num, HB9.out.trans (HR1.out.mono HB9.out.size)⟩
                case measure => simp [intOf]; have := HLT.out; omega
              · obtain ⟨k, hk⟩ : ∃ k, j = k + 1 := ⟨j - 1, by omega⟩
                obtain ⟨y, hye⟩ : ∃ y, y = L[k] := ⟨_, rfl⟩
                have hyx : y < x := by rw [hye, hxe]; exact List.pairwise_iff_getElem.1 HRI.out k j (by omega) hlt2 (by omega)
                have hyc : ∀ wx, Below wr.heap.size wr wx → wx.cell? ⟨gb, go + k, none⟩ = some (.int .i64 y) := fun wx hx => by
                  obtain ⟨gb', go', e, _, h⟩ := hcl wx hx k (by omega)
                  injection e with e; injection e with e1 e2
                  rw [hye, e1, e2]; exact h
                have HFC := Lib.hid (show ∀ wx, Below wr.heap.size wr wx → wx.cell? ⟨gb, go + j, none⟩ = some (.int .i64 x) ∧ wx.cell? ⟨gb, go + k, none⟩ = some (.int .i64 y) ∧ (Instr.lookup 54 (.map (some mb)) (.int .i64 x) false).run Tryz.prog wx = .ok (.bool true) wx from fun wx hx => ⟨hcj wx hx, hyc wx hx, hlk wx hx⟩)
                have ik : IntKind.i64.wrap ((j : Int) - 1) = (k : Int) := by rw [show ((j : Int) - 1) = (k : Int) by omega]; exact IntWalk.i64_in _ (by omega)
                have hkl : (k : Int) < L.length := by omega
                have hk0 : (0 : Int) ≤ (k : Int) := by omega
                have hjp : 0 < j := by omega
                have hyx2 : ¬ x ≤ y := by omega
                have HIK := Lib.hid hk
                clear hlk hcl hcj hxe hxm hb9 hyc hye hyx hz hk
                go_upto_region 18 with fail
                refine wp_region_noPanic ?_
                refine wp_region_held_drew (S := fun w' => Below wr.heap.size wr w') (by kernel_rfl) (Below.refl _ _).drew (fun _ => ?_)
                have HR1 := Lib.hid (Below.refl wr.heap.size wr).drew
                generalize wr.drew = r1 at *
                refine wpAnyH_take (i := 0) (v := ?_) rfl (by kernel_rfl) (by kernel_rfl) (by kernel_rfl) (fun _ _ _ h => h) (Or.inl ⟨by kernel_rfl, ?tq1⟩) HR1.out ?_
                case tq1 => (intro wq hq; obtain ⟨f0, f1, f2⟩ := HFC.out wq hq; go_simp; first | done | with_reducible rfl)
                show wpAnyH _ _ _ _ _ _ _ (Act.put _ (some 67) _) _
                refine wpAnyH_take (i := 1) (v := ?_) rfl (by kernel_rfl) (by kernel_rfl) (by kernel_rfl) (fun _ _ _ h => h) (Or.inl ⟨by kernel_rfl, ?tq2⟩) HR1.out ?_
                case tq2 => (intro wq hq; obtain ⟨f0, f1, f2⟩ := HFC.out wq hq; go_simp; first | done | with_reducible rfl)
                show wpAnyH _ _ _ _ _ _ _ (Act.put _ (some 68) _) _
                refine wpAnyH_take (i := 2) (v := ?_) rfl (by kernel_rfl) (by kernel_rfl) (by kernel_rfl) (fun _ _ _ h => h) (Or.inl ⟨by kernel_rfl, ?tq3⟩) HR1.out ?_
                case tq3 => (intro wq hq; obtain ⟨f0, f1, f2⟩ := HFC.out wq hq; go_simp; first | done | with_reducible rfl)
                show wpAnyH _ _ _ _ _ _ _ (Act.put _ (some 69) _) _
                refine wpAnyH_take (i := 3) (v := ?_) rfl (by kernel_rfl) (by kernel_rfl) (by kernel_rfl) (fun _ _ _ h => h) (Or.inl ⟨by kernel_rfl, ?tq4⟩) HR1.out ?_
                case tq4 => (intro wq hq; obtain ⟨f0, f1, f2⟩ := HFC.out wq hq; go_simp; first | done | with_reducible rfl)
                show wpAnyH _ _ _ _ _ _ _ (Act.put _ (some 70) _) _
                refine wpAnyH_take (i := 4) (v := ?_) rfl (by kernel_rfl) (by kernel_rfl) (by kernel_rfl) (fun _ _ _ h => h) (Or.inl ⟨by kernel_rfl, ?tq5⟩) HR1.out ?_
                case tq5 => (intro wq hq; obtain ⟨f0, f1, f2⟩ := HFC.out wq hq; go_simp; first | done | with_reducible rfl)
                show wpAnyH _ _ _ _ _ _ _ (Act.put _ (some 71) _) _
                refine wpAnyH_take (i := 5) (v := ?_) rfl (by kernel_rfl) (by kernel_rfl) (by kernel_rfl) (fun _ _ _ h => h) (Or.inl ⟨by kernel_rfl, ?tq6⟩) HR1.out ?_
                case tq6 => (intro wq hq; obtain ⟨f0, f1, f2⟩ := HFC.out wq hq; go_simp; first | done | with_reducible rfl)
                show wpAnyH _ _ _ _ _ _ _ (Act.put _ (some 72) _) _
                refine wpAnyH_take (i := 6) (v := ?_) rfl (by kernel_rfl) (by kernel_rfl) (by kernel_rfl) (fun _ _ _ h => h) (Or.inl ⟨by kernel_rfl, ?tq7⟩) HR1.out ?_
                case tq7 => (intro wq hq; obtain ⟨f0, f1, f2⟩ := HFC.out wq hq; go_simp; first | done | with_reducible rfl)
                show wpAnyH _ _ _ _ _ _ _ (Act.put _ (some 73) _) _
                refine wpAnyH_take (i := 7) (v := ?_) rfl (by kernel_rfl) (by kernel_rfl) (by kernel_rfl) (fun _ _ _ h => h) (Or.inl ⟨by kernel_rfl, ?tq8⟩) HR1.out ?_
                case tq8 => (intro wq hq; obtain ⟨f0, f1, f2⟩ := HFC.out wq hq; go_simp; first | done | with_reducible rfl)
                show wpAnyH _ _ _ _ _ _ _ (Act.put _ (some 74) _) _
                refine wpAnyH_take (i := 8) (v := ?_) rfl (by kernel_rfl) (by kernel_rfl) (by kernel_rfl) (fun _ _ _ h => h) (Or.inl ⟨by kernel_rfl, ?tq9⟩) HR1.out ?_
                case tq9 => (intro wq hq; obtain ⟨f0, f1, f2⟩ := HFC.out wq hq; go_simp; first | done | with_reducible rfl)
                show wpAnyH _ _ _ _ _ _ _ (Act.put _ (some 75) _) _
                refine wpAnyH_take (i := 9) (v := ?_) rfl (by kernel_rfl) (by kernel_rfl) (by kernel_rfl) (fun _ _ _ h => h) (Or.inl ⟨by kernel_rfl, ?tq10⟩) HR1.out ?_
                case tq10 => (intro wq hq; obtain ⟨f0, f1, f2⟩ := HFC.out wq hq; go_simp; first | done | with_reducible rfl)
                show wpAnyH _ _ _ _ _ _ _ (Act.put _ (some 76) _) _
                refine wpAnyH_take (i := 10) (v := ?_) rfl (by kernel_rfl) (by kernel_rfl) (by kernel_rfl) (fun _ _ _ h => h) (Or.inl ⟨by kernel_rfl, ?tq11⟩) HR1.out ?_
                case tq11 => (intro wq hq; obtain ⟨f0, f1, f2⟩ := HFC.out wq hq; go_simp; first | done | with_reducible rfl)
                show wpAnyH _ _ _ _ _ _ _ (Act.put _ (some 77) _) _
                refine wpAnyH_take (i := 11) (v := ?_) rfl (by kernel_rfl) (by kernel_rfl) (by kernel_rfl) (fun _ _ _ h => h) (Or.inl ⟨by kernel_rfl, ?tq12⟩) HR1.out ?_
                case tq12 => (intro wq hq; obtain ⟨f0, f1, f2⟩ := HFC.out wq hq; go_simp; first | done | with_reducible rfl)
                show wpAnyH _ _ _ _ _ _ _ (Act.put _ (some 78) _) _
                refine wpAnyH_take (i := 12) (v := ?_) rfl (by kernel_rfl) (by kernel_rfl) (by kernel_rfl) (fun _ _ _ h => h) (Or.inl ⟨by kernel_rfl, ?tq13⟩) HR1.out ?_
                case tq13 => (intro wq hq; obtain ⟨f0, f1, f2⟩ := HFC.out wq hq; go_simp; first | done | with_reducible rfl)
                show wpAnyH _ _ _ _ _ _ _ (Act.put _ (some 79) _) _
                refine wpAnyH_take (i := 13) (v := ?_) rfl (by kernel_rfl) (by kernel_rfl) (by kernel_rfl) (fun _ _ _ h => h) (Or.inl ⟨by kernel_rfl, ?tq14⟩) HR1.out ?_
                case tq14 => (intro wq hq; obtain ⟨f0, f1, f2⟩ := HFC.out wq hq; go_simp; first | done | with_reducible rfl)
                show wpAnyH _ _ _ _ _ _ _ (Act.put _ (some 80) _) _
                refine wpAnyH_take (i := 14) (v := ?_) rfl (by kernel_rfl) (by kernel_rfl) (by kernel_rfl) (fun _ _ _ h => h) (Or.inl ⟨by kernel_rfl, ?tq15⟩) HR1.out ?_
                case tq15 => (intro wq hq; obtain ⟨f0, f1, f2⟩ := HFC.out wq hq; go_simp; first | done | with_reducible rfl)
                show wpAnyH _ _ _ _ _ _ _ (Act.put _ (some 81) _) _
                refine wpAnyH_take (i := 15) (v := ?_) rfl (by kernel_rfl) (by kernel_rfl) (by kernel_rfl) (fun _ _ _ h => h) (Or.inl ⟨by kernel_rfl, ?tq16⟩) HR1.out ?_
                case tq16 => (intro wq hq; obtain ⟨f0, f1, f2⟩ := HFC.out wq hq; go_simp; first | done | with_reducible rfl)
                show wpAnyH _ _ _ _ _ _ _ (Act.put _ (some 82) _) _
                refine wpAnyH_take (i := 16) (v := ?_) rfl (by kernel_rfl) (by kernel_rfl) (by kernel_rfl) (fun _ _ _ h => h) (Or.inl ⟨by kernel_rfl, ?tq17⟩) HR1.out ?_
                case tq17 => (intro wq hq; obtain ⟨f0, f1, f2⟩ := HFC.out wq hq; go_simp; first | done | with_reducible rfl)
                show wpAnyH _ _ _ _ _ _ _ (Act.put _ (some 83) _) _
                refine wpAnyH_take (i := 17) (v := ?_) rfl (by kernel_rfl) (by kernel_rfl) (by kernel_rfl) (fun _ _ _ h => h) (Or.inl ⟨by kernel_rfl, ?tq18⟩) HR1.out ?_
                case tq18 => (intro wq hq; obtain ⟨f0, f1, f2⟩ := HFC.out wq hq; go_simp; first | done | with_reducible rfl)
                show wpAnyH _ _ _ _ _ _ _ (Act.put _ (some 84) _) _
                refine wpAnyH_take (i := 18) (v := ?_) rfl (by kernel_rfl) (by kernel_rfl) (by kernel_rfl) (fun _ _ _ h => h) (Or.inl ⟨by kernel_rfl, ?tq19⟩) HR1.out ?_
                case tq19 => (intro wq hq; obtain ⟨f0, f1, f2⟩ := HFC.out wq hq; go_simp; first | done | with_reducible rfl)
                show wpAnyH _ _ _ _ _ _ _ (Act.put _ (some 85) _) _
                refine wpAnyH_take (i := 19) (v := ?_) rfl (by kernel_rfl) (by kernel_rfl) (by kernel_rfl) (fun _ _ _ h => h) (Or.inl ⟨by kernel_rfl, ?tq20⟩) HR1.out ?_
                case tq20 => (intro wq hq; obtain ⟨f0, f1, f2⟩ := HFC.out wq hq; go_simp; first | done | with_reducible rfl)
                show wpAnyH _ _ _ _ _ _ _ (Act.put _ (some 86) _) _
                refine wpAnyH_take (i := 20) (v := ?_) rfl (by kernel_rfl) (by kernel_rfl) (by kernel_rfl) (fun _ _ _ h => h) (Or.inl ⟨by kernel_rfl, ?tq21⟩) HR1.out ?_
                case tq21 => (intro wq hq; obtain ⟨f0, f1, f2⟩ := HFC.out wq hq; go_simp; first | done | with_reducible rfl)
                show wpAnyH _ _ _ _ _ _ _ (Act.put _ (some 87) _) _
                refine wpAnyH_take (i := 21) (v := ?_) rfl (by kernel_rfl) (by kernel_rfl) (by kernel_rfl) (fun _ _ _ h => h) (Or.inl ⟨by kernel_rfl, ?tq22⟩) HR1.out ?_
                case tq22 => (intro wq hq; obtain ⟨f0, f1, f2⟩ := HFC.out wq hq; go_simp; first | done | with_reducible rfl)
                show wpAnyH _ _ _ _ _ _ _ (Act.put _ (some 88) _) _
                refine wpAnyH_take (i := 22) (v := ?_) rfl (by kernel_rfl) (by kernel_rfl) (by kernel_rfl) (fun _ _ _ h => h) (Or.inl ⟨by kernel_rfl, ?tq23⟩) HR1.out ?_
                case tq23 => (intro wq hq; obtain ⟨f0, f1, f2⟩ := HFC.out wq hq; go_simp; first | done | with_reducible rfl)
                show wpAnyH _ _ _ _ _ _ _ (Act.put _ (some 89) _) _
                refine wpAnyH_done (by kernel_rfl) ?_ _
                refine NoPanic.normal ?_
                show Exit.then _ _ _ (Act.put _ (some 89) _) _
                simp only [Act.put, List.setIfInBounds_toArray, List.set_cons_zero, List.set_cons_succ]
                go_wp2_with fail
                go_roundw
                case rel => exact ⟨j + 1, HLT.out, by go_num, HB9.out.trans (HR1.out.mono HB9.out.size)⟩
                case measure => simp [intOf]; have := HLT.out; omega
            · have hj' : j = L.length := by omega
              subst hj'
              have HMW := Lib.hid (HMP.out.below hb9)
              have HBF := Lib.hid (HBE.out.trans (hb9.mono HBE.out.size))
              have hll := HLL.out
              clear hb9
              obtain ⟨wz, hwz⟩ : ∃ wz, wz = wr := ⟨_, rfl⟩
              rw [← hwz] at HMW HBF ⊢
              clear hwz
              obtain ⟨nl, hnl⟩ : ∃ nl, nl = L.length := ⟨_, rfl⟩
              rw [← hnl] at HMW ⊢
              have HNL := Lib.hid hnl
              clear hnl
              go_upto_region 20 with fail
              go_wp2_with (refine len_mapL rfl (.tmp 92) 54 4 rfl HMW.out Tryz.underlying54 rfl ?_)
              go_wp2_with fail
              go_ret
              exact ⟨rfl, HBF.out⟩
theorem own : ownKnob Tryz.prog.godebug = none := by kernel_rfl
theorem laidOut : laidOutB Tryz.prog = true := by kernel_rfl
set_option maxRecDepth 100000 in
theorem lifted (os : Os) (started : os.Started) (H : Type) (enc : TypeId × Value → H) :
    ReturnsInHanded {} Tryz.checked os 6 .any (Rows.rootsGlobalsSpec.pre6 enc Tryz.prog Tryz.f6 Rows.rootsGlobalsRow.domain false) (Rows.rootsGlobalsSpec.post enc Tryz.prog Tryz.f6 false true false false) := by
  refine returnsInHanded_of_change (C := Tryz.checked) own started (by kernel_rfl) Tryz.func6
    (ChangeSpec.witness6 (enc := enc) (C := Tryz.checked) false ⟨#[], #[.slice none 0 0], []⟩ 8 (by kernel_rfl) (by kernel_rfl) (by kernel_rfl) (by kernel_rfl)) ?_
  intro W base args ds gs before hval0 hW hcnd _
  have hval : ∀ (j : Nat) t v, Tryz.f6.params[j]? = some t → args[j]? = some v → Value.okWide Tryz.prog W .any base t v := hval0
  have hW' := hW
  obtain ⟨p, q, hA0, hV, rfl, hfz, hnd⟩ := hW
  have hA : DataW.TrodAll enc Tryz.prog W 0 (fun _ => true) true Tryz.f6.params.toList args.toList ds p := hA0
  rw [Tryz.params6] at hA hval
  obtain ⟨v0, vs0, d0, ds0, p0, q0, hargs, rfl, rfl, h0, r0⟩ := trodAll_cons hA
  obtain ⟨rfl, rfl, rfl⟩ := trodAll_nil r0
  obtain rfl : args = #[v0] := by cases args; simp_all
  have w0 := open_intsB (hval 0 23 v0 rfl rfl) h0
  clear hA0 hval0
  simp only [List.append_nil] at hW'
  refine (walk W v0 w0).mono fun e W' ⟨he, hb⟩ => ?_
  subst he
  exact ⟨_, rfl, law_post laidOut (by kernel_rfl) rfl Tryz.underlying4 hW' rfl (fun ds h => by match ds, h with | [_], _ => rfl) hb⟩
theorem over : Rows.rootsGlobalsRow.holds Tryz.pinned (OpenSpec.ofChange Rows.rootsGlobalsSpec) :=
  OpenClaim.holds_of_wide 6 Tryz.f6 rfl rfl rfl rfl rfl rfl rfl ⟨rfl, rfl, rfl, rfl, rfl⟩ rfl rfl rfl rfl rfl (by kernel_rfl) Tryz.func6 (by kernel_rfl)
    (of_decide_eq_true (by kernel_rfl)) (by unfold Func.isWrapper; first | (rw [if_pos (by decide +kernel)]; kernel_rfl) | (rw [if_neg (by decide +kernel)]; exact ⟨rfl, rfl⟩))
    (fun os started H enc _ => lifted os started H enc)
theorem proved : Rows.RootsGlobalsSaid := over
#print axioms proved
end Go.Proofs.YtknbllbhakpaaaaGreat.rootsGlobals
