/- Of every program: a copy is alike, and what is written into it leaves what it was made of, and another copy, as they were. No condition: for every input. -/
import Derived.Test.YtmmdppjbofbjhaaRSame
import Derived.Test.YtmmdppjbofbjhaaCopyG
import Derived.Test.YtmmdppjbofbjhaaAlive10
import Derived.Test.YtmmdppjbofbjhaaSmallB
import Derived.Test.YtmmdppjbofbjhaaLaw
import Derived.Deep.RegionHeld3
import Derived.BigRegion
import Derived.Deep.CutBlock
import Derived.Deep.DeepCutAuto
namespace Go.Proofs.Ytmmdppjbofbjhaa
theorem PrgOwn.mono {w : World} {B B' : Nat} {p : Prg} {c0 c1 c2 : Value} (h : PrgOwn w B p c0 c1 c2) (hb : B' ≤ B) : PrgOwn w B' p c0 c1 c2 := by
  obtain ⟨a, ⟨hs, b⟩, xs, c⟩ := h
  exact ⟨a.base (fun k hk => Nat.le_trans hb (a.lt hk).1), ⟨hs, b.mono hb⟩, xs, c.mono hb⟩
end Go.Proofs.Ytmmdppjbofbjhaa
namespace Go.Proofs.Ytmmdppjbofbjhaa.imageCopies
open Go.ChangeShapes Go.WideShapes Go.ChangeAt Go.RowKit

set_option maxRecDepth 100000 in
set_option maxHeartbeats 12800000 in
theorem walk (w : World) (v : Value) (hv : ∃ (pr : Prg) (c0 c1 c2 : Value), v = .agg #[c0, c1, c2] ∧ PrgVal w (fun k => k < w.heap.size) pr c0 c1 c2) :
    Calls Try.prog 15 #[v] w fun e w' => e = .returned (.bool true) ∧ Below w.heap.size w w' := by
  obtain ⟨p, c0, c1, c2, rfl, hp⟩ := hv
  have hP : ∀ wr, Below w.heap.size w wr → PrgVal wr (fun k => k < w.heap.size) p c0 c1 c2 := fun wr hb => hp.fr (Fr.of_below hb (fun _ => False)) (fun _ _ h => h)
  have sp := fun wr hb => small_any wr _ p _ _ _ (hP wr hb)
  have al := fun wr (_ : Below w.heap.size w wr) => alive10 wr
  have cp := fun wr hb => copyP_any wr _ p _ _ _ (hP wr hb)
  have hP2 := hP
  obtain ⟨⟨a0, m0, rfl, _⟩, ⟨a1, m1, rfl, _⟩, a2, m2, rfl, _⟩ := hp
  clear hP
  have hbx := fun wr h => box1 w #[.slice a0 p.globals.length m0, .slice a1 p.shapes.length m1, .slice a2 p.funcs.length m2] 71 wr h
  have hz0 : (w.alloc (.cells #[.slice a0 p.globals.length m0, .slice a1 p.shapes.length m1, .slice a2 p.funcs.length m2] 71)).heap.size = w.heap.size + 1 := by simp
  obtain ⟨W0, hW0⟩ : ∃ W0, W0 = w.alloc (.cells #[.slice a0 p.globals.length m0, .slice a1 p.shapes.length m1, .slice a2 p.funcs.length m2] 71) := ⟨_, rfl⟩
  rw [← hW0] at hbx hz0
  have hr : Below (w.heap.size + 1) W0 W0 := Below.refl _ _
  have hs : ∀ wr, Below (w.heap.size + 1) W0 wr → wr.cell? ⟨w.heap.size, 0, none⟩ = some (.slice a0 p.globals.length m0) ∧ wr.cell? ⟨w.heap.size, 1, none⟩ = some (.slice a1 p.shapes.length m1) ∧ wr.cell? ⟨w.heap.size, 2, none⟩ = some (.slice a2 p.funcs.length m2) := fun wr h =>
    ⟨(hbx wr h).1 0 _ rfl, (hbx wr h).1 1 _ rfl, (hbx wr h).1 2 _ rfl⟩
  have hbw : ∀ wr, Below (w.heap.size + 1) W0 wr → Below w.heap.size w wr := fun wr h => (hbx wr h).2.1
  obtain ⟨k0, k1, k2⟩ := hs W0 hr
  clear hbx
  have AL := Lib.hid al; clear al
  have SP := Lib.hid sp; clear sp
  have CP := Lib.hid cp; clear cp
  have HP2 := Lib.hid hP2; clear hP2
  have HR := Lib.hid hr; clear hr
  have HS := Lib.hid hs; clear hs
  have HBW := Lib.hid hbw; clear hbw
  have HZ0 := Lib.hid hz0; clear hz0
  have HW0 := Lib.hid hW0
  by_cases hsp : bulk p ≤ 3000
  case neg =>
    have SP' := SP.out
    rw [decide_eq_false hsp] at SP'
    have SP := Lib.hid SP'
    clear SP' hsp
    go_enter Try.func15, Try.ntmps15
    clear hW0
    go_upto_region 1 with fail
    rw [← HW0.out]
    go_wp2_with fail
    refine (SP.out _ (HBW.out _ HR.out)).mono ?_
    rintro e w1 ⟨rfl, hb⟩
    have hr1 := HR.out.trans (hb.mono (by have := HZ0.out; omega))
    clear hb k0 k1 k2
    go_wp2_with fail
    refine (AL.out _ (HBW.out _ hr1)).mono ?_
    rintro e w2 ⟨rfl, hb⟩
    have hr2 := HBW.out _ (hr1.trans (hb.mono (by have := hr1.size; have := HZ0.out; omega)))
    clear hb
    have HR1 := Lib.hid hr1; clear hr1
    have HR2 := Lib.hid hr2; clear hr2
    go_wp2_with fail
    go_ret
    exact ⟨rfl, HR2.out⟩
  have SP' := SP.out
  rw [decide_eq_true hsp] at SP'
  have SP := Lib.hid SP'
  have cp := fun wr hb => CP.out wr hb hsp
  unfold CopyPost at cp
  have CP := Lib.hid cp
  clear SP' cp
  go_enter Try.func15, Try.ntmps15
  clear hW0
  go_upto_region 1 with fail
  rw [← HW0.out]
  go_wp2_with fail
  refine (SP.out _ (HBW.out _ HR.out)).mono ?_
  rintro e w1 ⟨rfl, hb⟩
  have hr1 := HR.out.trans (hb.mono (by have := HZ0.out; omega))
  clear hb k0 k1 k2
  go_wp2_with fail
  refine (AL.out _ (HBW.out _ hr1)).mono ?_
  rintro e w2 ⟨rfl, hb⟩
  have hr2 := hr1.trans (hb.mono (by have := hr1.size; have := HZ0.out; omega))
  have hr3 : Below (w.heap.size + 1) W0 w2.drew := hr2.drew
  clear hb hr1 hr2
  have HR0 := Lib.hid hr3
  clear hr3
  go_upto_region 3 with fail
  go_cut [3, 4] (fun s3 s4 wx => ∃ (A B N M : Nat) (x0 x1 x2 y0 y1 y2 : Option Addr) (i0 i1 i2 j0 j1 j2 : Nat), s3 = .pointer (some ⟨A, 0, none⟩) ∧ s4 = .pointer (some ⟨B, 0, none⟩) ∧
    wx.heap[A]? = some (.cells #[.slice x0 p.globals.length i0, .slice x1 p.shapes.length i1, .slice x2 p.funcs.length i2] 71) ∧ wx.heap[B]? = some (.cells #[.slice y0 p.globals.length j0, .slice y1 p.shapes.length j1, .slice y2 p.funcs.length j2] 71) ∧
    PrgOwnM wx N M p (.slice x0 p.globals.length i0) (.slice x1 p.shapes.length i1) (.slice x2 p.funcs.length i2) ∧ PrgOwn wx M p (.slice y0 p.globals.length j0) (.slice y1 p.shapes.length j1) (.slice y2 p.funcs.length j2) ∧
    (A < N ∨ M ≤ A) ∧ (B < N ∨ M ≤ B) ∧ w.heap.size + 1 ≤ N ∧ w.heap.size + 1 ≤ A ∧ w.heap.size + 1 ≤ B ∧ M ≤ wx.heap.size ∧ Below (w.heap.size + 1) W0 wx)
  case first =>
    refine wp_region_noPanic ?_
    refine wp_region_held_drew (S := fun wr => wr.cell? ⟨w.heap.size, 0, none⟩ = some (.slice a0 p.globals.length m0) ∧ wr.cell? ⟨w.heap.size, 1, none⟩ = some (.slice a1 p.shapes.length m1) ∧ wr.cell? ⟨w.heap.size, 2, none⟩ = some (.slice a2 p.funcs.length m2)) (by kernel_rfl) (HS.out _ HR0.out) (fun _ => ?_)
    generalize w2.drew = r0 at *
    refine wpAnyH_take (i := 0) (v := ?_) rfl (by kernel_rfl) (by kernel_rfl) (by kernel_rfl) (fun _ _ _ h => h) (Or.inl ⟨by rfl, ?tk0⟩) (HS.out _ HR0.out) ?_
    case tk0 =>
      rintro wq ⟨q0, q1, q2⟩
      go_simp
      try with_reducible rfl
    refine wpAnyH_take (i := 2) (v := ?_) rfl (by kernel_rfl) (by kernel_rfl) (by kernel_rfl) (fun _ _ _ h => h) (Or.inl ⟨by rfl, ?tk2⟩) (HS.out _ HR0.out) ?_
    case tk2 =>
      rintro wq ⟨q0, q1, q2⟩
      go_simp
      try with_reducible rfl
    refine wpAnyH_ready (rs := [1, 4, 5]) (by kernel_rfl) (by simp) ?_
    refine (AllReadyH.cons rfl (fun K hK => ?_) (AllReadyH.cons rfl (fun K hK => ?_) (AllReadyH.cons rfl (fun K hK => ?_) AllReadyH.nil)))
    · go_simp
      go_at_call 64
      refine (CP.out r0 (HBW.out r0 HR0.out)).mono ?_
      rintro e r1 ⟨v0, v1, v2, rfl, hv, hb⟩
      have hz := HR0.out.size
      have hbz := hb.size
      have HR1 := Lib.hid (HR0.out.trans (hb.mono (by have := HZ0.out; omega)))
      have hval := hv.val
      obtain ⟨⟨xa0, xn0, rfl, _⟩, ⟨xa1, xn1, rfl, _⟩, xa2, xn2, rfl, _⟩ := hval
      have hX := hv.bound
      obtain ⟨N, hN⟩ : ∃ N, N = r0.heap.size := ⟨_, rfl⟩
      obtain ⟨M, hM⟩ : ∃ M, M = r1.heap.size := ⟨_, rfl⟩
      rw [← hN, ← hM] at hX
      have hNw : w.heap.size + 1 ≤ N := by have := HZ0.out; omega
      have hMr : M ≤ r1.heap.size := by omega
      have HX := Lib.hid hX
      clear hX hN hM
      clear hv hb hz hbz
      refine hK.out _ _ (HS.out _ HR1.out) (fun _ => ?_)
      clear hK K
      refine wpAnyH_ready (rs := [3, 4, 5]) (by kernel_rfl) (by simp) ?_
      refine (AllReadyH.cons rfl (fun K hK => ?_) (AllReadyH.cons rfl (fun K hK => ?_) (AllReadyH.cons rfl (fun K hK => ?_) AllReadyH.nil)))
      · go_simp
        go_at_call 64
        refine (CP.out r1 (HBW.out r1 HR1.out)).mono ?_
        rintro e r2 ⟨v0, v1, v2, rfl, hv, hb⟩
        have hz := HR1.out.size
        have hbz := hb.size
        have HR2 := Lib.hid (HR1.out.trans (hb.mono (by have := HZ0.out; omega)))
        have hval := hv.val
        obtain ⟨⟨ya0, yn0, rfl, _⟩, ⟨ya1, yn1, rfl, _⟩, ya2, yn2, rfl, _⟩ := hval
        have hX := HX.out.below hb
        have hY : PrgOwn r2 M p _ _ _ := hv.mono hMr
        have hMr : M ≤ r2.heap.size := by omega
        have HX := Lib.hid hX
        have HY := Lib.hid hY
        clear hX hY
        clear hv hb hz hbz
        refine hK.out _ _ (HS.out _ HR2.out) (fun _ => ?_)
        clear hK K
        refine wpAnyH_ready (rs := [4, 5]) (by kernel_rfl) (by simp) ?_
        refine (AllReadyH.cons rfl (fun K hK => ?_) (AllReadyH.cons rfl (fun K hK => ?_) AllReadyH.nil))
        · go_simp
          obtain ⟨r3, hr⟩ : ∃ r, r = r2.alloc (.cells #[.slice none 0 0, .slice none 0 0, .slice none 0 0] 71) := ⟨_, rfl⟩
          obtain ⟨A, ha⟩ : ∃ A, A = r2.heap.size := ⟨_, rfl⟩
          have hl : r3.heap[A]? = some (.cells #[.slice none 0 0, .slice none 0 0, .slice none 0 0] 71) := by rw [hr, ha]; exact heap_new _ _
          have hb : Below r2.heap.size r2 r3 := by rw [hr]; exact (Below.refl _ _).alloc (Nat.le_refl _) _
          rw [← hr, ← ha]
          clear hr
          have hz := HR2.out.size
          have hbz := hb.size
          have hAw : w.heap.size + 1 ≤ A := by have := HZ0.out; omega
          have HR3 := Lib.hid (HR2.out.trans (hb.mono (by have := HZ0.out; omega)))
          have hAp : A < N ∨ M ≤ A := .inr (by omega)
          have hMr : M ≤ r3.heap.size := by omega
          have HX := Lib.hid (HX.out.below hb)
          have HY := Lib.hid (HY.out.below hb)
          have HA := Lib.hid hl
          clear hl hb hz hbz ha
          refine hK.out _ _ (HS.out _ HR3.out) (fun _ => ?_)
          clear hK K
          refine wpAnyH_ready (rs := [5]) (by kernel_rfl) (by simp) ?_
          refine (AllReadyH.cons rfl (fun K hK => ?_) AllReadyH.nil)
          · go_simp
            obtain ⟨r4, hr⟩ : ∃ r, r = r3.alloc (.cells #[.slice none 0 0, .slice none 0 0, .slice none 0 0] 71) := ⟨_, rfl⟩
            obtain ⟨B, ha⟩ : ∃ A, A = r3.heap.size := ⟨_, rfl⟩
            have hl : r4.heap[B]? = some (.cells #[.slice none 0 0, .slice none 0 0, .slice none 0 0] 71) := by rw [hr, ha]; exact heap_new _ _
            have hb : Below r3.heap.size r3 r4 := by rw [hr]; exact (Below.refl _ _).alloc (Nat.le_refl _) _
            rw [← hr, ← ha]
            clear hr
            have hz := HR3.out.size
            have hbz := hb.size
            have hBw : w.heap.size + 1 ≤ B := by have := HZ0.out; omega
            have HR4 := Lib.hid (HR3.out.trans (hb.mono (by have := HZ0.out; omega)))
            have hAB : A ≠ B := by have := heap_lt HA.out; omega
            have HA := Lib.hid ((Fr.of_below hb (fun _ => False)).heap HA.out (fun h => h))
            have hBp : B < N ∨ M ≤ B := .inr (by omega)
            have hMr : M ≤ r4.heap.size := by omega
            have HX := Lib.hid (HX.out.below hb)
            have HY := Lib.hid (HY.out.below hb)
            have HB := Lib.hid hl
            clear hl hb hz hbz ha
            refine hK.out _ _ (HS.out _ HR4.out) (fun _ => ?_)
            clear hK K
            refine wpAnyH_ready (rs := [6]) (by kernel_rfl) (by simp) ?_
            refine (AllReadyH.cons rfl (fun K hK => ?_) AllReadyH.nil)
            obtain ⟨⟨k0, k1, k2⟩, f0, f1, f2⟩ := three_cells HA.out
            go_simp
            clear k0 k1 k2 f0 f1 f2
            have hl := row_set (row_set (row_set HA.out 0 (.slice xa0 p.globals.length xn0)) 1 (.slice xa1 p.shapes.length xn1)) 2 (.slice xa2 p.funcs.length xn2)
            have hf : Fr (onB A) r4 _ := (((Fr.refl (onB A) r4).setCell (p := ⟨A, 0, none⟩) (fun _ => rfl) (.slice xa0 p.globals.length xn0)).setCell (p := ⟨A, 1, none⟩) (fun _ => rfl) (.slice xa1 p.shapes.length xn1)).setCell (p := ⟨A, 2, none⟩) (fun _ => rfl) (.slice xa2 p.funcs.length xn2)
            generalize ((r4.setCell ⟨A, 0, none⟩ (.slice xa0 p.globals.length xn0)).setCell ⟨A, 1, none⟩ (.slice xa1 p.shapes.length xn1)).setCell ⟨A, 2, none⟩ (.slice xa2 p.funcs.length xn2) = r5 at *
            have HX := Lib.hid (HX.out.other hf HA.out)
            have HY := Lib.hid (HY.out.other hf HA.out)
            have HB := Lib.hid (hf.heap HB.out (show ¬ onB A B from fun h => by unfold onB at h; omega))
            have HR5 := Lib.hid (HR4.out.trans (hf.below (show w.heap.size + 1 ≤ _ by have := HR4.out.size; have := HZ0.out; omega) (fun k hk => by unfold onB at hk; omega)))
            have HA := Lib.hid hl
            have hMr : M ≤ r5.heap.size := Nat.le_trans hMr hf.size
            clear hl hf
            refine hK.out _ _ (HS.out _ HR5.out) (fun _ => ?_)
            clear hK K
            refine wpAnyH_ready (rs := [7]) (by kernel_rfl) (by simp) ?_
            refine (AllReadyH.cons rfl (fun K hK => ?_) AllReadyH.nil)
            obtain ⟨⟨k0, k1, k2⟩, f0, f1, f2⟩ := three_cells HB.out
            go_simp
            clear k0 k1 k2 f0 f1 f2
            have hl := row_set (row_set (row_set HB.out 0 (.slice ya0 p.globals.length yn0)) 1 (.slice ya1 p.shapes.length yn1)) 2 (.slice ya2 p.funcs.length yn2)
            have hf : Fr (onB B) r5 _ := (((Fr.refl (onB B) r5).setCell (p := ⟨B, 0, none⟩) (fun _ => rfl) (.slice ya0 p.globals.length yn0)).setCell (p := ⟨B, 1, none⟩) (fun _ => rfl) (.slice ya1 p.shapes.length yn1)).setCell (p := ⟨B, 2, none⟩) (fun _ => rfl) (.slice ya2 p.funcs.length yn2)
            generalize ((r5.setCell ⟨B, 0, none⟩ (.slice ya0 p.globals.length yn0)).setCell ⟨B, 1, none⟩ (.slice ya1 p.shapes.length yn1)).setCell ⟨B, 2, none⟩ (.slice ya2 p.funcs.length yn2) = r6 at *
            have HX := Lib.hid (HX.out.other hf HB.out)
            have HY := Lib.hid (HY.out.other hf HB.out)
            have HA := Lib.hid (hf.heap HA.out (show ¬ onB B A from fun h => by unfold onB at h; omega))
            have HR6 := Lib.hid (HR5.out.trans (hf.below (show w.heap.size + 1 ≤ _ by have := HR5.out.size; have := HZ0.out; omega) (fun k hk => by unfold onB at hk; omega)))
            have HB := Lib.hid hl
            have hMr : M ≤ r6.heap.size := Nat.le_trans hMr hf.size
            clear hl hf
            refine hK.out _ _ (HS.out _ HR6.out) (fun _ => ?_)
            clear hK K
            refine wpAnyH_done (by kernel_rfl) ?_ _
            refine NoPanic.normal ?_
            go_wp2_with fail
            go_meet
            case rel => exact ⟨A, B, N, M, _, _, _, _, _, _, _, _, _, _, _, _, rfl, rfl, HA.out, HB.out, HX.out, HY.out, hAp, hBp, hNw, hAw, hBw, hMr, HR6.out⟩
        · go_simp
          obtain ⟨r3, hr⟩ : ∃ r, r = r2.alloc (.cells #[.slice none 0 0, .slice none 0 0, .slice none 0 0] 71) := ⟨_, rfl⟩
          obtain ⟨B, ha⟩ : ∃ A, A = r2.heap.size := ⟨_, rfl⟩
          have hl : r3.heap[B]? = some (.cells #[.slice none 0 0, .slice none 0 0, .slice none 0 0] 71) := by rw [hr, ha]; exact heap_new _ _
          have hb : Below r2.heap.size r2 r3 := by rw [hr]; exact (Below.refl _ _).alloc (Nat.le_refl _) _
          rw [← hr, ← ha]
          clear hr
          have hz := HR2.out.size
          have hbz := hb.size
          have hBw : w.heap.size + 1 ≤ B := by have := HZ0.out; omega
          have HR3 := Lib.hid (HR2.out.trans (hb.mono (by have := HZ0.out; omega)))
          have hBp : B < N ∨ M ≤ B := .inr (by omega)
          have hMr : M ≤ r3.heap.size := by omega
          have HX := Lib.hid (HX.out.below hb)
          have HY := Lib.hid (HY.out.below hb)
          have HB := Lib.hid hl
          clear hl hb hz hbz ha
          refine hK.out _ _ (HS.out _ HR3.out) (fun _ => ?_)
          clear hK K
          refine wpAnyH_ready (rs := [4]) (by kernel_rfl) (by simp) ?_
          refine (AllReadyH.cons rfl (fun K hK => ?_) AllReadyH.nil)
          · go_simp
            obtain ⟨r4, hr⟩ : ∃ r, r = r3.alloc (.cells #[.slice none 0 0, .slice none 0 0, .slice none 0 0] 71) := ⟨_, rfl⟩
            obtain ⟨A, ha⟩ : ∃ A, A = r3.heap.size := ⟨_, rfl⟩
            have hl : r4.heap[A]? = some (.cells #[.slice none 0 0, .slice none 0 0, .slice none 0 0] 71) := by rw [hr, ha]; exact heap_new _ _
            have hb : Below r3.heap.size r3 r4 := by rw [hr]; exact (Below.refl _ _).alloc (Nat.le_refl _) _
            rw [← hr, ← ha]
            clear hr
            have hz := HR3.out.size
            have hbz := hb.size
            have hAw : w.heap.size + 1 ≤ A := by have := HZ0.out; omega
            have HR4 := Lib.hid (HR3.out.trans (hb.mono (by have := HZ0.out; omega)))
            have hAB : A ≠ B := by have := heap_lt HB.out; omega
            have HB := Lib.hid ((Fr.of_below hb (fun _ => False)).heap HB.out (fun h => h))
            have hAp : A < N ∨ M ≤ A := .inr (by omega)
            have hMr : M ≤ r4.heap.size := by omega
            have HX := Lib.hid (HX.out.below hb)
            have HY := Lib.hid (HY.out.below hb)
            have HA := Lib.hid hl
            clear hl hb hz hbz ha
            refine hK.out _ _ (HS.out _ HR4.out) (fun _ => ?_)
            clear hK K
            refine wpAnyH_ready (rs := [6]) (by kernel_rfl) (by simp) ?_
            refine (AllReadyH.cons rfl (fun K hK => ?_) AllReadyH.nil)
            obtain ⟨⟨k0, k1, k2⟩, f0, f1, f2⟩ := three_cells HA.out
            go_simp
            clear k0 k1 k2 f0 f1 f2
            have hl := row_set (row_set (row_set HA.out 0 (.slice xa0 p.globals.length xn0)) 1 (.slice xa1 p.shapes.length xn1)) 2 (.slice xa2 p.funcs.length xn2)
            have hf : Fr (onB A) r4 _ := (((Fr.refl (onB A) r4).setCell (p := ⟨A, 0, none⟩) (fun _ => rfl) (.slice xa0 p.globals.length xn0)).setCell (p := ⟨A, 1, none⟩) (fun _ => rfl) (.slice xa1 p.shapes.length xn1)).setCell (p := ⟨A, 2, none⟩) (fun _ => rfl) (.slice xa2 p.funcs.length xn2)
            generalize ((r4.setCell ⟨A, 0, none⟩ (.slice xa0 p.globals.length xn0)).setCell ⟨A, 1, none⟩ (.slice xa1 p.shapes.length xn1)).setCell ⟨A, 2, none⟩ (.slice xa2 p.funcs.length xn2) = r5 at *
            have HX := Lib.hid (HX.out.other hf HA.out)
            have HY := Lib.hid (HY.out.other hf HA.out)
            have HB := Lib.hid (hf.heap HB.out (show ¬ onB A B from fun h => by unfold onB at h; omega))
            have HR5 := Lib.hid (HR4.out.trans (hf.below (show w.heap.size + 1 ≤ _ by have := HR4.out.size; have := HZ0.out; omega) (fun k hk => by unfold onB at hk; omega)))
            have HA := Lib.hid hl
            have hMr : M ≤ r5.heap.size := Nat.le_trans hMr hf.size
            clear hl hf
            refine hK.out _ _ (HS.out _ HR5.out) (fun _ => ?_)
            clear hK K
            refine wpAnyH_ready (rs := [7]) (by kernel_rfl) (by simp) ?_
            refine (AllReadyH.cons rfl (fun K hK => ?_) AllReadyH.nil)
            obtain ⟨⟨k0, k1, k2⟩, f0, f1, f2⟩ := three_cells HB.out
            go_simp
            clear k0 k1 k2 f0 f1 f2
            have hl := row_set (row_set (row_set HB.out 0 (.slice ya0 p.globals.length yn0)) 1 (.slice ya1 p.shapes.length yn1)) 2 (.slice ya2 p.funcs.length yn2)
            have hf : Fr (onB B) r5 _ := (((Fr.refl (onB B) r5).setCell (p := ⟨B, 0, none⟩) (fun _ => rfl) (.slice ya0 p.globals.length yn0)).setCell (p := ⟨B, 1, none⟩) (fun _ => rfl) (.slice ya1 p.shapes.length yn1)).setCell (p := ⟨B, 2, none⟩) (fun _ => rfl) (.slice ya2 p.funcs.length yn2)
            generalize ((r5.setCell ⟨B, 0, none⟩ (.slice ya0 p.globals.length yn0)).setCell ⟨B, 1, none⟩ (.slice ya1 p.shapes.length yn1)).setCell ⟨B, 2, none⟩ (.slice ya2 p.funcs.length yn2) = r6 at *
            have HX := Lib.hid (HX.out.other hf HB.out)
            have HY := Lib.hid (HY.out.other hf HB.out)
            have HA := Lib.hid (hf.heap HA.out (show ¬ onB B A from fun h => by unfold onB at h; omega))
            have HR6 := Lib.hid (HR5.out.trans (hf.below (show w.heap.size + 1 ≤ _ by have := HR5.out.size; have := HZ0.out; omega) (fun k hk => by unfold onB at hk; omega)))
            have HB := Lib.hid hl
            have hMr : M ≤ r6.heap.size := Nat.le_trans hMr hf.size
            clear hl hf
            refine hK.out _ _ (HS.out _ HR6.out) (fun _ => ?_)
            clear hK K
            refine wpAnyH_done (by kernel_rfl) ?_ _
            refine NoPanic.normal ?_
            go_wp2_with fail
            go_meet
            case rel => exact ⟨A, B, N, M, _, _, _, _, _, _, _, _, _, _, _, _, rfl, rfl, HA.out, HB.out, HX.out, HY.out, hAp, hBp, hNw, hAw, hBw, hMr, HR6.out⟩
      · go_simp
        obtain ⟨r2, hr⟩ : ∃ r, r = r1.alloc (.cells #[.slice none 0 0, .slice none 0 0, .slice none 0 0] 71) := ⟨_, rfl⟩
        obtain ⟨A, ha⟩ : ∃ A, A = r1.heap.size := ⟨_, rfl⟩
        have hl : r2.heap[A]? = some (.cells #[.slice none 0 0, .slice none 0 0, .slice none 0 0] 71) := by rw [hr, ha]; exact heap_new _ _
        have hb : Below r1.heap.size r1 r2 := by rw [hr]; exact (Below.refl _ _).alloc (Nat.le_refl _) _
        rw [← hr, ← ha]
        clear hr
        have hz := HR1.out.size
        have hbz := hb.size
        have hAw : w.heap.size + 1 ≤ A := by have := HZ0.out; omega
        have HR2 := Lib.hid (HR1.out.trans (hb.mono (by have := HZ0.out; omega)))
        have hAp : A < N ∨ M ≤ A := .inr (by omega)
        have hMr : M ≤ r2.heap.size := by omega
        have HX := Lib.hid (HX.out.below hb)
        have HA := Lib.hid hl
        clear hl hb hz hbz ha
        refine hK.out _ _ (HS.out _ HR2.out) (fun _ => ?_)
        clear hK K
        refine wpAnyH_ready (rs := [3, 5]) (by kernel_rfl) (by simp) ?_
        refine (AllReadyH.cons rfl (fun K hK => ?_) (AllReadyH.cons rfl (fun K hK => ?_) AllReadyH.nil))
        · go_simp
          go_at_call 64
          refine (CP.out r2 (HBW.out r2 HR2.out)).mono ?_
          rintro e r3 ⟨v0, v1, v2, rfl, hv, hb⟩
          have hz := HR2.out.size
          have hbz := hb.size
          have HR3 := Lib.hid (HR2.out.trans (hb.mono (by have := HZ0.out; omega)))
          have hval := hv.val
          obtain ⟨⟨ya0, yn0, rfl, _⟩, ⟨ya1, yn1, rfl, _⟩, ya2, yn2, rfl, _⟩ := hval
          have hX := HX.out.below hb
          have hY : PrgOwn r3 M p _ _ _ := hv.mono hMr
          have hMr : M ≤ r3.heap.size := by omega
          have HX := Lib.hid hX
          have HY := Lib.hid hY
          clear hX hY
          have HA := Lib.hid ((Fr.of_below hb (fun _ => False)).heap HA.out (fun h => h))
          clear hv hb hz hbz
          refine hK.out _ _ (HS.out _ HR3.out) (fun _ => ?_)
          clear hK K
          refine wpAnyH_ready (rs := [5]) (by kernel_rfl) (by simp) ?_
          refine (AllReadyH.cons rfl (fun K hK => ?_) AllReadyH.nil)
          · go_simp
            obtain ⟨r4, hr⟩ : ∃ r, r = r3.alloc (.cells #[.slice none 0 0, .slice none 0 0, .slice none 0 0] 71) := ⟨_, rfl⟩
            obtain ⟨B, ha⟩ : ∃ A, A = r3.heap.size := ⟨_, rfl⟩
            have hl : r4.heap[B]? = some (.cells #[.slice none 0 0, .slice none 0 0, .slice none 0 0] 71) := by rw [hr, ha]; exact heap_new _ _
            have hb : Below r3.heap.size r3 r4 := by rw [hr]; exact (Below.refl _ _).alloc (Nat.le_refl _) _
            rw [← hr, ← ha]
            clear hr
            have hz := HR3.out.size
            have hbz := hb.size
            have hBw : w.heap.size + 1 ≤ B := by have := HZ0.out; omega
            have HR4 := Lib.hid (HR3.out.trans (hb.mono (by have := HZ0.out; omega)))
            have hAB : A ≠ B := by have := heap_lt HA.out; omega
            have HA := Lib.hid ((Fr.of_below hb (fun _ => False)).heap HA.out (fun h => h))
            have hBp : B < N ∨ M ≤ B := .inr (by omega)
            have hMr : M ≤ r4.heap.size := by omega
            have HX := Lib.hid (HX.out.below hb)
            have HY := Lib.hid (HY.out.below hb)
            have HB := Lib.hid hl
            clear hl hb hz hbz ha
            refine hK.out _ _ (HS.out _ HR4.out) (fun _ => ?_)
            clear hK K
            refine wpAnyH_ready (rs := [6]) (by kernel_rfl) (by simp) ?_
            refine (AllReadyH.cons rfl (fun K hK => ?_) AllReadyH.nil)
            obtain ⟨⟨k0, k1, k2⟩, f0, f1, f2⟩ := three_cells HA.out
            go_simp
            clear k0 k1 k2 f0 f1 f2
            have hl := row_set (row_set (row_set HA.out 0 (.slice xa0 p.globals.length xn0)) 1 (.slice xa1 p.shapes.length xn1)) 2 (.slice xa2 p.funcs.length xn2)
            have hf : Fr (onB A) r4 _ := (((Fr.refl (onB A) r4).setCell (p := ⟨A, 0, none⟩) (fun _ => rfl) (.slice xa0 p.globals.length xn0)).setCell (p := ⟨A, 1, none⟩) (fun _ => rfl) (.slice xa1 p.shapes.length xn1)).setCell (p := ⟨A, 2, none⟩) (fun _ => rfl) (.slice xa2 p.funcs.length xn2)
            generalize ((r4.setCell ⟨A, 0, none⟩ (.slice xa0 p.globals.length xn0)).setCell ⟨A, 1, none⟩ (.slice xa1 p.shapes.length xn1)).setCell ⟨A, 2, none⟩ (.slice xa2 p.funcs.length xn2) = r5 at *
            have HX := Lib.hid (HX.out.other hf HA.out)
            have HY := Lib.hid (HY.out.other hf HA.out)
            have HB := Lib.hid (hf.heap HB.out (show ¬ onB A B from fun h => by unfold onB at h; omega))
            have HR5 := Lib.hid (HR4.out.trans (hf.below (show w.heap.size + 1 ≤ _ by have := HR4.out.size; have := HZ0.out; omega) (fun k hk => by unfold onB at hk; omega)))
            have HA := Lib.hid hl
            have hMr : M ≤ r5.heap.size := Nat.le_trans hMr hf.size
            clear hl hf
            refine hK.out _ _ (HS.out _ HR5.out) (fun _ => ?_)
            clear hK K
            refine wpAnyH_ready (rs := [7]) (by kernel_rfl) (by simp) ?_
            refine (AllReadyH.cons rfl (fun K hK => ?_) AllReadyH.nil)
            obtain ⟨⟨k0, k1, k2⟩, f0, f1, f2⟩ := three_cells HB.out
            go_simp
            clear k0 k1 k2 f0 f1 f2
            have hl := row_set (row_set (row_set HB.out 0 (.slice ya0 p.globals.length yn0)) 1 (.slice ya1 p.shapes.length yn1)) 2 (.slice ya2 p.funcs.length yn2)
            have hf : Fr (onB B) r5 _ := (((Fr.refl (onB B) r5).setCell (p := ⟨B, 0, none⟩) (fun _ => rfl) (.slice ya0 p.globals.length yn0)).setCell (p := ⟨B, 1, none⟩) (fun _ => rfl) (.slice ya1 p.shapes.length yn1)).setCell (p := ⟨B, 2, none⟩) (fun _ => rfl) (.slice ya2 p.funcs.length yn2)
            generalize ((r5.setCell ⟨B, 0, none⟩ (.slice ya0 p.globals.length yn0)).setCell ⟨B, 1, none⟩ (.slice ya1 p.shapes.length yn1)).setCell ⟨B, 2, none⟩ (.slice ya2 p.funcs.length yn2) = r6 at *
            have HX := Lib.hid (HX.out.other hf HB.out)
            have HY := Lib.hid (HY.out.other hf HB.out)
            have HA := Lib.hid (hf.heap HA.out (show ¬ onB B A from fun h => by unfold onB at h; omega))
            have HR6 := Lib.hid (HR5.out.trans (hf.below (show w.heap.size + 1 ≤ _ by have := HR5.out.size; have := HZ0.out; omega) (fun k hk => by unfold onB at hk; omega)))
            have HB := Lib.hid hl
            have hMr : M ≤ r6.heap.size := Nat.le_trans hMr hf.size
            clear hl hf
            refine hK.out _ _ (HS.out _ HR6.out) (fun _ => ?_)
            clear hK K
            refine wpAnyH_done (by kernel_rfl) ?_ _
            refine NoPanic.normal ?_
            go_wp2_with fail
            go_meet
            case rel => exact ⟨A, B, N, M, _, _, _, _, _, _, _, _, _, _, _, _, rfl, rfl, HA.out, HB.out, HX.out, HY.out, hAp, hBp, hNw, hAw, hBw, hMr, HR6.out⟩
        · go_simp
          obtain ⟨r3, hr⟩ : ∃ r, r = r2.alloc (.cells #[.slice none 0 0, .slice none 0 0, .slice none 0 0] 71) := ⟨_, rfl⟩
          obtain ⟨B, ha⟩ : ∃ A, A = r2.heap.size := ⟨_, rfl⟩
          have hl : r3.heap[B]? = some (.cells #[.slice none 0 0, .slice none 0 0, .slice none 0 0] 71) := by rw [hr, ha]; exact heap_new _ _
          have hb : Below r2.heap.size r2 r3 := by rw [hr]; exact (Below.refl _ _).alloc (Nat.le_refl _) _
          rw [← hr, ← ha]
          clear hr
          have hz := HR2.out.size
          have hbz := hb.size
          have hBw : w.heap.size + 1 ≤ B := by have := HZ0.out; omega
          have HR3 := Lib.hid (HR2.out.trans (hb.mono (by have := HZ0.out; omega)))
          have hAB : A ≠ B := by have := heap_lt HA.out; omega
          have HA := Lib.hid ((Fr.of_below hb (fun _ => False)).heap HA.out (fun h => h))
          have hBp : B < N ∨ M ≤ B := .inr (by omega)
          have hMr : M ≤ r3.heap.size := by omega
          have HX := Lib.hid (HX.out.below hb)
          have HB := Lib.hid hl
          clear hl hb hz hbz ha
          refine hK.out _ _ (HS.out _ HR3.out) (fun _ => ?_)
          clear hK K
          refine wpAnyH_ready (rs := [3]) (by kernel_rfl) (by simp) ?_
          refine (AllReadyH.cons rfl (fun K hK => ?_) AllReadyH.nil)
          · go_simp
            go_at_call 64
            refine (CP.out r3 (HBW.out r3 HR3.out)).mono ?_
            rintro e r4 ⟨v0, v1, v2, rfl, hv, hb⟩
            have hz := HR3.out.size
            have hbz := hb.size
            have HR4 := Lib.hid (HR3.out.trans (hb.mono (by have := HZ0.out; omega)))
            have hval := hv.val
            obtain ⟨⟨ya0, yn0, rfl, _⟩, ⟨ya1, yn1, rfl, _⟩, ya2, yn2, rfl, _⟩ := hval
            have hX := HX.out.below hb
            have hY : PrgOwn r4 M p _ _ _ := hv.mono hMr
            have hMr : M ≤ r4.heap.size := by omega
            have HX := Lib.hid hX
            have HY := Lib.hid hY
            clear hX hY
            have HA := Lib.hid ((Fr.of_below hb (fun _ => False)).heap HA.out (fun h => h))
            have HB := Lib.hid ((Fr.of_below hb (fun _ => False)).heap HB.out (fun h => h))
            clear hv hb hz hbz
            refine hK.out _ _ (HS.out _ HR4.out) (fun _ => ?_)
            clear hK K
            refine wpAnyH_ready (rs := [6]) (by kernel_rfl) (by simp) ?_
            refine (AllReadyH.cons rfl (fun K hK => ?_) AllReadyH.nil)
            obtain ⟨⟨k0, k1, k2⟩, f0, f1, f2⟩ := three_cells HA.out
            go_simp
            clear k0 k1 k2 f0 f1 f2
            have hl := row_set (row_set (row_set HA.out 0 (.slice xa0 p.globals.length xn0)) 1 (.slice xa1 p.shapes.length xn1)) 2 (.slice xa2 p.funcs.length xn2)
            have hf : Fr (onB A) r4 _ := (((Fr.refl (onB A) r4).setCell (p := ⟨A, 0, none⟩) (fun _ => rfl) (.slice xa0 p.globals.length xn0)).setCell (p := ⟨A, 1, none⟩) (fun _ => rfl) (.slice xa1 p.shapes.length xn1)).setCell (p := ⟨A, 2, none⟩) (fun _ => rfl) (.slice xa2 p.funcs.length xn2)
            generalize ((r4.setCell ⟨A, 0, none⟩ (.slice xa0 p.globals.length xn0)).setCell ⟨A, 1, none⟩ (.slice xa1 p.shapes.length xn1)).setCell ⟨A, 2, none⟩ (.slice xa2 p.funcs.length xn2) = r5 at *
            have HX := Lib.hid (HX.out.other hf HA.out)
            have HY := Lib.hid (HY.out.other hf HA.out)
            have HB := Lib.hid (hf.heap HB.out (show ¬ onB A B from fun h => by unfold onB at h; omega))
            have HR5 := Lib.hid (HR4.out.trans (hf.below (show w.heap.size + 1 ≤ _ by have := HR4.out.size; have := HZ0.out; omega) (fun k hk => by unfold onB at hk; omega)))
            have HA := Lib.hid hl
            have hMr : M ≤ r5.heap.size := Nat.le_trans hMr hf.size
            clear hl hf
            refine hK.out _ _ (HS.out _ HR5.out) (fun _ => ?_)
            clear hK K
            refine wpAnyH_ready (rs := [7]) (by kernel_rfl) (by simp) ?_
            refine (AllReadyH.cons rfl (fun K hK => ?_) AllReadyH.nil)
            obtain ⟨⟨k0, k1, k2⟩, f0, f1, f2⟩ := three_cells HB.out
            go_simp
            clear k0 k1 k2 f0 f1 f2
            have hl := row_set (row_set (row_set HB.out 0 (.slice ya0 p.globals.length yn0)) 1 (.slice ya1 p.shapes.length yn1)) 2 (.slice ya2 p.funcs.length yn2)
            have hf : Fr (onB B) r5 _ := (((Fr.refl (onB B) r5).setCell (p := ⟨B, 0, none⟩) (fun _ => rfl) (.slice ya0 p.globals.length yn0)).setCell (p := ⟨B, 1, none⟩) (fun _ => rfl) (.slice ya1 p.shapes.length yn1)).setCell (p := ⟨B, 2, none⟩) (fun _ => rfl) (.slice ya2 p.funcs.length yn2)
            generalize ((r5.setCell ⟨B, 0, none⟩ (.slice ya0 p.globals.length yn0)).setCell ⟨B, 1, none⟩ (.slice ya1 p.shapes.length yn1)).setCell ⟨B, 2, none⟩ (.slice ya2 p.funcs.length yn2) = r6 at *
            have HX := Lib.hid (HX.out.other hf HB.out)
            have HY := Lib.hid (HY.out.other hf HB.out)
            have HA := Lib.hid (hf.heap HA.out (show ¬ onB B A from fun h => by unfold onB at h; omega))
            have HR6 := Lib.hid (HR5.out.trans (hf.below (show w.heap.size + 1 ≤ _ by have := HR5.out.size; have := HZ0.out; omega) (fun k hk => by unfold onB at hk; omega)))
            have HB := Lib.hid hl
            have hMr : M ≤ r6.heap.size := Nat.le_trans hMr hf.size
            clear hl hf
            refine hK.out _ _ (HS.out _ HR6.out) (fun _ => ?_)
            clear hK K
            refine wpAnyH_done (by kernel_rfl) ?_ _
            refine NoPanic.normal ?_
            go_wp2_with fail
            go_meet
            case rel => exact ⟨A, B, N, M, _, _, _, _, _, _, _, _, _, _, _, _, rfl, rfl, HA.out, HB.out, HX.out, HY.out, hAp, hBp, hNw, hAw, hBw, hMr, HR6.out⟩
      · go_simp
        obtain ⟨r2, hr⟩ : ∃ r, r = r1.alloc (.cells #[.slice none 0 0, .slice none 0 0, .slice none 0 0] 71) := ⟨_, rfl⟩
        obtain ⟨B, ha⟩ : ∃ A, A = r1.heap.size := ⟨_, rfl⟩
        have hl : r2.heap[B]? = some (.cells #[.slice none 0 0, .slice none 0 0, .slice none 0 0] 71) := by rw [hr, ha]; exact heap_new _ _
        have hb : Below r1.heap.size r1 r2 := by rw [hr]; exact (Below.refl _ _).alloc (Nat.le_refl _) _
        rw [← hr, ← ha]
        clear hr
        have hz := HR1.out.size
        have hbz := hb.size
        have hBw : w.heap.size + 1 ≤ B := by have := HZ0.out; omega
        have HR2 := Lib.hid (HR1.out.trans (hb.mono (by have := HZ0.out; omega)))
        have hBp : B < N ∨ M ≤ B := .inr (by omega)
        have hMr : M ≤ r2.heap.size := by omega
        have HX := Lib.hid (HX.out.below hb)
        have HB := Lib.hid hl
        clear hl hb hz hbz ha
        refine hK.out _ _ (HS.out _ HR2.out) (fun _ => ?_)
        clear hK K
        refine wpAnyH_ready (rs := [3, 4]) (by kernel_rfl) (by simp) ?_
        refine (AllReadyH.cons rfl (fun K hK => ?_) (AllReadyH.cons rfl (fun K hK => ?_) AllReadyH.nil))
        · go_simp
          go_at_call 64
          refine (CP.out r2 (HBW.out r2 HR2.out)).mono ?_
          rintro e r3 ⟨v0, v1, v2, rfl, hv, hb⟩
          have hz := HR2.out.size
          have hbz := hb.size
          have HR3 := Lib.hid (HR2.out.trans (hb.mono (by have := HZ0.out; omega)))
          have hval := hv.val
          obtain ⟨⟨ya0, yn0, rfl, _⟩, ⟨ya1, yn1, rfl, _⟩, ya2, yn2, rfl, _⟩ := hval
          have hX := HX.out.below hb
          have hY : PrgOwn r3 M p _ _ _ := hv.mono hMr
          have hMr : M ≤ r3.heap.size := by omega
          have HX := Lib.hid hX
          have HY := Lib.hid hY
          clear hX hY
          have HB := Lib.hid ((Fr.of_below hb (fun _ => False)).heap HB.out (fun h => h))
          clear hv hb hz hbz
          refine hK.out _ _ (HS.out _ HR3.out) (fun _ => ?_)
          clear hK K
          refine wpAnyH_ready (rs := [4]) (by kernel_rfl) (by simp) ?_
          refine (AllReadyH.cons rfl (fun K hK => ?_) AllReadyH.nil)
          · go_simp
            obtain ⟨r4, hr⟩ : ∃ r, r = r3.alloc (.cells #[.slice none 0 0, .slice none 0 0, .slice none 0 0] 71) := ⟨_, rfl⟩
            obtain ⟨A, ha⟩ : ∃ A, A = r3.heap.size := ⟨_, rfl⟩
            have hl : r4.heap[A]? = some (.cells #[.slice none 0 0, .slice none 0 0, .slice none 0 0] 71) := by rw [hr, ha]; exact heap_new _ _
            have hb : Below r3.heap.size r3 r4 := by rw [hr]; exact (Below.refl _ _).alloc (Nat.le_refl _) _
            rw [← hr, ← ha]
            clear hr
            have hz := HR3.out.size
            have hbz := hb.size
            have hAw : w.heap.size + 1 ≤ A := by have := HZ0.out; omega
            have HR4 := Lib.hid (HR3.out.trans (hb.mono (by have := HZ0.out; omega)))
            have hAB : A ≠ B := by have := heap_lt HB.out; omega
            have HB := Lib.hid ((Fr.of_below hb (fun _ => False)).heap HB.out (fun h => h))
            have hAp : A < N ∨ M ≤ A := .inr (by omega)
            have hMr : M ≤ r4.heap.size := by omega
            have HX := Lib.hid (HX.out.below hb)
            have HY := Lib.hid (HY.out.below hb)
            have HA := Lib.hid hl
            clear hl hb hz hbz ha
            refine hK.out _ _ (HS.out _ HR4.out) (fun _ => ?_)
            clear hK K
            refine wpAnyH_ready (rs := [6]) (by kernel_rfl) (by simp) ?_
            refine (AllReadyH.cons rfl (fun K hK => ?_) AllReadyH.nil)
            obtain ⟨⟨k0, k1, k2⟩, f0, f1, f2⟩ := three_cells HA.out
            go_simp
            clear k0 k1 k2 f0 f1 f2
            have hl := row_set (row_set (row_set HA.out 0 (.slice xa0 p.globals.length xn0)) 1 (.slice xa1 p.shapes.length xn1)) 2 (.slice xa2 p.funcs.length xn2)
            have hf : Fr (onB A) r4 _ := (((Fr.refl (onB A) r4).setCell (p := ⟨A, 0, none⟩) (fun _ => rfl) (.slice xa0 p.globals.length xn0)).setCell (p := ⟨A, 1, none⟩) (fun _ => rfl) (.slice xa1 p.shapes.length xn1)).setCell (p := ⟨A, 2, none⟩) (fun _ => rfl) (.slice xa2 p.funcs.length xn2)
            generalize ((r4.setCell ⟨A, 0, none⟩ (.slice xa0 p.globals.length xn0)).setCell ⟨A, 1, none⟩ (.slice xa1 p.shapes.length xn1)).setCell ⟨A, 2, none⟩ (.slice xa2 p.funcs.length xn2) = r5 at *
            have HX := Lib.hid (HX.out.other hf HA.out)
            have HY := Lib.hid (HY.out.other hf HA.out)
            have HB := Lib.hid (hf.heap HB.out (show ¬ onB A B from fun h => by unfold onB at h; omega))
            have HR5 := Lib.hid (HR4.out.trans (hf.below (show w.heap.size + 1 ≤ _ by have := HR4.out.size; have := HZ0.out; omega) (fun k hk => by unfold onB at hk; omega)))
            have HA := Lib.hid hl
            have hMr : M ≤ r5.heap.size := Nat.le_trans hMr hf.size
            clear hl hf
            refine hK.out _ _ (HS.out _ HR5.out) (fun _ => ?_)
            clear hK K
            refine wpAnyH_ready (rs := [7]) (by kernel_rfl) (by simp) ?_
            refine (AllReadyH.cons rfl (fun K hK => ?_) AllReadyH.nil)
            obtain ⟨⟨k0, k1, k2⟩, f0, f1, f2⟩ := three_cells HB.out
            go_simp
            clear k0 k1 k2 f0 f1 f2
            have hl := row_set (row_set (row_set HB.out 0 (.slice ya0 p.globals.length yn0)) 1 (.slice ya1 p.shapes.length yn1)) 2 (.slice ya2 p.funcs.length yn2)
            have hf : Fr (onB B) r5 _ := (((Fr.refl (onB B) r5).setCell (p := ⟨B, 0, none⟩) (fun _ => rfl) (.slice ya0 p.globals.length yn0)).setCell (p := ⟨B, 1, none⟩) (fun _ => rfl) (.slice ya1 p.shapes.length yn1)).setCell (p := ⟨B, 2, none⟩) (fun _ => rfl) (.slice ya2 p.funcs.length yn2)
            generalize ((r5.setCell ⟨B, 0, none⟩ (.slice ya0 p.globals.length yn0)).setCell ⟨B, 1, none⟩ (.slice ya1 p.shapes.length yn1)).setCell ⟨B, 2, none⟩ (.slice ya2 p.funcs.length yn2) = r6 at *
            have HX := Lib.hid (HX.out.other hf HB.out)
            have HY := Lib.hid (HY.out.other hf HB.out)
            have HA := Lib.hid (hf.heap HA.out (show ¬ onB B A from fun h => by unfold onB at h; omega))
            have HR6 := Lib.hid (HR5.out.trans (hf.below (show w.heap.size + 1 ≤ _ by have := HR5.out.size; have := HZ0.out; omega) (fun k hk => by unfold onB at hk; omega)))
            have HB := Lib.hid hl
            have hMr : M ≤ r6.heap.size := Nat.le_trans hMr hf.size
            clear hl hf
            refine hK.out _ _ (HS.out _ HR6.out) (fun _ => ?_)
            clear hK K
            refine wpAnyH_done (by kernel_rfl) ?_ _
            refine NoPanic.normal ?_
            go_wp2_with fail
            go_meet
            case rel => exact ⟨A, B, N, M, _, _, _, _, _, _, _, _, _, _, _, _, rfl, rfl, HA.out, HB.out, HX.out, HY.out, hAp, hBp, hNw, hAw, hBw, hMr, HR6.out⟩
        · go_simp
          obtain ⟨r3, hr⟩ : ∃ r, r = r2.alloc (.cells #[.slice none 0 0, .slice none 0 0, .slice none 0 0] 71) := ⟨_, rfl⟩
          obtain ⟨A, ha⟩ : ∃ A, A = r2.heap.size := ⟨_, rfl⟩
          have hl : r3.heap[A]? = some (.cells #[.slice none 0 0, .slice none 0 0, .slice none 0 0] 71) := by rw [hr, ha]; exact heap_new _ _
          have hb : Below r2.heap.size r2 r3 := by rw [hr]; exact (Below.refl _ _).alloc (Nat.le_refl _) _
          rw [← hr, ← ha]
          clear hr
          have hz := HR2.out.size
          have hbz := hb.size
          have hAw : w.heap.size + 1 ≤ A := by have := HZ0.out; omega
          have HR3 := Lib.hid (HR2.out.trans (hb.mono (by have := HZ0.out; omega)))
          have hAB : A ≠ B := by have := heap_lt HB.out; omega
          have HB := Lib.hid ((Fr.of_below hb (fun _ => False)).heap HB.out (fun h => h))
          have hAp : A < N ∨ M ≤ A := .inr (by omega)
          have hMr : M ≤ r3.heap.size := by omega
          have HX := Lib.hid (HX.out.below hb)
          have HA := Lib.hid hl
          clear hl hb hz hbz ha
          refine hK.out _ _ (HS.out _ HR3.out) (fun _ => ?_)
          clear hK K
          refine wpAnyH_ready (rs := [3]) (by kernel_rfl) (by simp) ?_
          refine (AllReadyH.cons rfl (fun K hK => ?_) AllReadyH.nil)
          · go_simp
            go_at_call 64
            refine (CP.out r3 (HBW.out r3 HR3.out)).mono ?_
            rintro e r4 ⟨v0, v1, v2, rfl, hv, hb⟩
            have hz := HR3.out.size
            have hbz := hb.size
            have HR4 := Lib.hid (HR3.out.trans (hb.mono (by have := HZ0.out; omega)))
            have hval := hv.val
            obtain ⟨⟨ya0, yn0, rfl, _⟩, ⟨ya1, yn1, rfl, _⟩, ya2, yn2, rfl, _⟩ := hval
            have hX := HX.out.below hb
            have hY : PrgOwn r4 M p _ _ _ := hv.mono hMr
            have hMr : M ≤ r4.heap.size := by omega
            have HX := Lib.hid hX
            have HY := Lib.hid hY
            clear hX hY
            have HA := Lib.hid ((Fr.of_below hb (fun _ => False)).heap HA.out (fun h => h))
            have HB := Lib.hid ((Fr.of_below hb (fun _ => False)).heap HB.out (fun h => h))
            clear hv hb hz hbz
            refine hK.out _ _ (HS.out _ HR4.out) (fun _ => ?_)
            clear hK K
            refine wpAnyH_ready (rs := [6]) (by kernel_rfl) (by simp) ?_
            refine (AllReadyH.cons rfl (fun K hK => ?_) AllReadyH.nil)
            obtain ⟨⟨k0, k1, k2⟩, f0, f1, f2⟩ := three_cells HA.out
            go_simp
            clear k0 k1 k2 f0 f1 f2
            have hl := row_set (row_set (row_set HA.out 0 (.slice xa0 p.globals.length xn0)) 1 (.slice xa1 p.shapes.length xn1)) 2 (.slice xa2 p.funcs.length xn2)
            have hf : Fr (onB A) r4 _ := (((Fr.refl (onB A) r4).setCell (p := ⟨A, 0, none⟩) (fun _ => rfl) (.slice xa0 p.globals.length xn0)).setCell (p := ⟨A, 1, none⟩) (fun _ => rfl) (.slice xa1 p.shapes.length xn1)).setCell (p := ⟨A, 2, none⟩) (fun _ => rfl) (.slice xa2 p.funcs.length xn2)
            generalize ((r4.setCell ⟨A, 0, none⟩ (.slice xa0 p.globals.length xn0)).setCell ⟨A, 1, none⟩ (.slice xa1 p.shapes.length xn1)).setCell ⟨A, 2, none⟩ (.slice xa2 p.funcs.length xn2) = r5 at *
            have HX := Lib.hid (HX.out.other hf HA.out)
            have HY := Lib.hid (HY.out.other hf HA.out)
            have HB := Lib.hid (hf.heap HB.out (show ¬ onB A B from fun h => by unfold onB at h; omega))
            have HR5 := Lib.hid (HR4.out.trans (hf.below (show w.heap.size + 1 ≤ _ by have := HR4.out.size; have := HZ0.out; omega) (fun k hk => by unfold onB at hk; omega)))
            have HA := Lib.hid hl
            have hMr : M ≤ r5.heap.size := Nat.le_trans hMr hf.size
            clear hl hf
            refine hK.out _ _ (HS.out _ HR5.out) (fun _ => ?_)
            clear hK K
            refine wpAnyH_ready (rs := [7]) (by kernel_rfl) (by simp) ?_
            refine (AllReadyH.cons rfl (fun K hK => ?_) AllReadyH.nil)
            obtain ⟨⟨k0, k1, k2⟩, f0, f1, f2⟩ := three_cells HB.out
            go_simp
            clear k0 k1 k2 f0 f1 f2
            have hl := row_set (row_set (row_set HB.out 0 (.slice ya0 p.globals.length yn0)) 1 (.slice ya1 p.shapes.length yn1)) 2 (.slice ya2 p.funcs.length yn2)
            have hf : Fr (onB B) r5 _ := (((Fr.refl (onB B) r5).setCell (p := ⟨B, 0, none⟩) (fun _ => rfl) (.slice ya0 p.globals.length yn0)).setCell (p := ⟨B, 1, none⟩) (fun _ => rfl) (.slice ya1 p.shapes.length yn1)).setCell (p := ⟨B, 2, none⟩) (fun _ => rfl) (.slice ya2 p.funcs.length yn2)
            generalize ((r5.setCell ⟨B, 0, none⟩ (.slice ya0 p.globals.length yn0)).setCell ⟨B, 1, none⟩ (.slice ya1 p.shapes.length yn1)).setCell ⟨B, 2, none⟩ (.slice ya2 p.funcs.length yn2) = r6 at *
            have HX := Lib.hid (HX.out.other hf HB.out)
            have HY := Lib.hid (HY.out.other hf HB.out)
            have HA := Lib.hid (hf.heap HA.out (show ¬ onB B A from fun h => by unfold onB at h; omega))
            have HR6 := Lib.hid (HR5.out.trans (hf.below (show w.heap.size + 1 ≤ _ by have := HR5.out.size; have := HZ0.out; omega) (fun k hk => by unfold onB at hk; omega)))
            have HB := Lib.hid hl
            have hMr : M ≤ r6.heap.size := Nat.le_trans hMr hf.size
            clear hl hf
            refine hK.out _ _ (HS.out _ HR6.out) (fun _ => ?_)
            clear hK K
            refine wpAnyH_done (by kernel_rfl) ?_ _
            refine NoPanic.normal ?_
            go_wp2_with fail
            go_meet
            case rel => exact ⟨A, B, N, M, _, _, _, _, _, _, _, _, _, _, _, _, rfl, rfl, HA.out, HB.out, HX.out, HY.out, hAp, hBp, hNw, hAw, hBw, hMr, HR6.out⟩
    · go_simp
      obtain ⟨r1, hr⟩ : ∃ r, r = r0.alloc (.cells #[.slice none 0 0, .slice none 0 0, .slice none 0 0] 71) := ⟨_, rfl⟩
      obtain ⟨A, ha⟩ : ∃ A, A = r0.heap.size := ⟨_, rfl⟩
      have hl : r1.heap[A]? = some (.cells #[.slice none 0 0, .slice none 0 0, .slice none 0 0] 71) := by rw [hr, ha]; exact heap_new _ _
      have hb : Below r0.heap.size r0 r1 := by rw [hr]; exact (Below.refl _ _).alloc (Nat.le_refl _) _
      rw [← hr, ← ha]
      clear hr
      have hz := HR0.out.size
      have hbz := hb.size
      have hAw : w.heap.size + 1 ≤ A := by have := HZ0.out; omega
      have HR1 := Lib.hid (HR0.out.trans (hb.mono (by have := HZ0.out; omega)))
      have HA := Lib.hid hl
      clear hl hb hz hbz ha
      refine hK.out _ _ (HS.out _ HR1.out) (fun _ => ?_)
      clear hK K
      refine wpAnyH_ready (rs := [1, 5]) (by kernel_rfl) (by simp) ?_
      refine (AllReadyH.cons rfl (fun K hK => ?_) (AllReadyH.cons rfl (fun K hK => ?_) AllReadyH.nil))
      · go_simp
        go_at_call 64
        refine (CP.out r1 (HBW.out r1 HR1.out)).mono ?_
        rintro e r2 ⟨v0, v1, v2, rfl, hv, hb⟩
        have hz := HR1.out.size
        have hbz := hb.size
        have HR2 := Lib.hid (HR1.out.trans (hb.mono (by have := HZ0.out; omega)))
        have hval := hv.val
        obtain ⟨⟨xa0, xn0, rfl, _⟩, ⟨xa1, xn1, rfl, _⟩, xa2, xn2, rfl, _⟩ := hval
        have hX := hv.bound
        obtain ⟨N, hN⟩ : ∃ N, N = r1.heap.size := ⟨_, rfl⟩
        obtain ⟨M, hM⟩ : ∃ M, M = r2.heap.size := ⟨_, rfl⟩
        rw [← hN, ← hM] at hX
        have hNw : w.heap.size + 1 ≤ N := by have := HZ0.out; omega
        have hMr : M ≤ r2.heap.size := by omega
        have hAp : A < N ∨ M ≤ A := .inl (by have := heap_lt HA.out; omega)
        have HX := Lib.hid hX
        clear hX hN hM
        have HA := Lib.hid ((Fr.of_below hb (fun _ => False)).heap HA.out (fun h => h))
        clear hv hb hz hbz
        refine hK.out _ _ (HS.out _ HR2.out) (fun _ => ?_)
        clear hK K
        refine wpAnyH_ready (rs := [3, 5]) (by kernel_rfl) (by simp) ?_
        refine (AllReadyH.cons rfl (fun K hK => ?_) (AllReadyH.cons rfl (fun K hK => ?_) AllReadyH.nil))
        · go_simp
          go_at_call 64
          refine (CP.out r2 (HBW.out r2 HR2.out)).mono ?_
          rintro e r3 ⟨v0, v1, v2, rfl, hv, hb⟩
          have hz := HR2.out.size
          have hbz := hb.size
          have HR3 := Lib.hid (HR2.out.trans (hb.mono (by have := HZ0.out; omega)))
          have hval := hv.val
          obtain ⟨⟨ya0, yn0, rfl, _⟩, ⟨ya1, yn1, rfl, _⟩, ya2, yn2, rfl, _⟩ := hval
          have hX := HX.out.below hb
          have hY : PrgOwn r3 M p _ _ _ := hv.mono hMr
          have hMr : M ≤ r3.heap.size := by omega
          have HX := Lib.hid hX
          have HY := Lib.hid hY
          clear hX hY
          have HA := Lib.hid ((Fr.of_below hb (fun _ => False)).heap HA.out (fun h => h))
          clear hv hb hz hbz
          refine hK.out _ _ (HS.out _ HR3.out) (fun _ => ?_)
          clear hK K
          refine wpAnyH_ready (rs := [5]) (by kernel_rfl) (by simp) ?_
          refine (AllReadyH.cons rfl (fun K hK => ?_) AllReadyH.nil)
          · go_simp
            obtain ⟨r4, hr⟩ : ∃ r, r = r3.alloc (.cells #[.slice none 0 0, .slice none 0 0, .slice none 0 0] 71) := ⟨_, rfl⟩
            obtain ⟨B, ha⟩ : ∃ A, A = r3.heap.size := ⟨_, rfl⟩
            have hl : r4.heap[B]? = some (.cells #[.slice none 0 0, .slice none 0 0, .slice none 0 0] 71) := by rw [hr, ha]; exact heap_new _ _
            have hb : Below r3.heap.size r3 r4 := by rw [hr]; exact (Below.refl _ _).alloc (Nat.le_refl _) _
            rw [← hr, ← ha]
            clear hr
            have hz := HR3.out.size
            have hbz := hb.size
            have hBw : w.heap.size + 1 ≤ B := by have := HZ0.out; omega
            have HR4 := Lib.hid (HR3.out.trans (hb.mono (by have := HZ0.out; omega)))
            have hAB : A ≠ B := by have := heap_lt HA.out; omega
            have HA := Lib.hid ((Fr.of_below hb (fun _ => False)).heap HA.out (fun h => h))
            have hBp : B < N ∨ M ≤ B := .inr (by omega)
            have hMr : M ≤ r4.heap.size := by omega
            have HX := Lib.hid (HX.out.below hb)
            have HY := Lib.hid (HY.out.below hb)
            have HB := Lib.hid hl
            clear hl hb hz hbz ha
            refine hK.out _ _ (HS.out _ HR4.out) (fun _ => ?_)
            clear hK K
            refine wpAnyH_ready (rs := [6]) (by kernel_rfl) (by simp) ?_
            refine (AllReadyH.cons rfl (fun K hK => ?_) AllReadyH.nil)
            obtain ⟨⟨k0, k1, k2⟩, f0, f1, f2⟩ := three_cells HA.out
            go_simp
            clear k0 k1 k2 f0 f1 f2
            have hl := row_set (row_set (row_set HA.out 0 (.slice xa0 p.globals.length xn0)) 1 (.slice xa1 p.shapes.length xn1)) 2 (.slice xa2 p.funcs.length xn2)
            have hf : Fr (onB A) r4 _ := (((Fr.refl (onB A) r4).setCell (p := ⟨A, 0, none⟩) (fun _ => rfl) (.slice xa0 p.globals.length xn0)).setCell (p := ⟨A, 1, none⟩) (fun _ => rfl) (.slice xa1 p.shapes.length xn1)).setCell (p := ⟨A, 2, none⟩) (fun _ => rfl) (.slice xa2 p.funcs.length xn2)
            generalize ((r4.setCell ⟨A, 0, none⟩ (.slice xa0 p.globals.length xn0)).setCell ⟨A, 1, none⟩ (.slice xa1 p.shapes.length xn1)).setCell ⟨A, 2, none⟩ (.slice xa2 p.funcs.length xn2) = r5 at *
            have HX := Lib.hid (HX.out.other hf HA.out)
            have HY := Lib.hid (HY.out.other hf HA.out)
            have HB := Lib.hid (hf.heap HB.out (show ¬ onB A B from fun h => by unfold onB at h; omega))
            have HR5 := Lib.hid (HR4.out.trans (hf.below (show w.heap.size + 1 ≤ _ by have := HR4.out.size; have := HZ0.out; omega) (fun k hk => by unfold onB at hk; omega)))
            have HA := Lib.hid hl
            have hMr : M ≤ r5.heap.size := Nat.le_trans hMr hf.size
            clear hl hf
            refine hK.out _ _ (HS.out _ HR5.out) (fun _ => ?_)
            clear hK K
            refine wpAnyH_ready (rs := [7]) (by kernel_rfl) (by simp) ?_
            refine (AllReadyH.cons rfl (fun K hK => ?_) AllReadyH.nil)
            obtain ⟨⟨k0, k1, k2⟩, f0, f1, f2⟩ := three_cells HB.out
            go_simp
            clear k0 k1 k2 f0 f1 f2
            have hl := row_set (row_set (row_set HB.out 0 (.slice ya0 p.globals.length yn0)) 1 (.slice ya1 p.shapes.length yn1)) 2 (.slice ya2 p.funcs.length yn2)
            have hf : Fr (onB B) r5 _ := (((Fr.refl (onB B) r5).setCell (p := ⟨B, 0, none⟩) (fun _ => rfl) (.slice ya0 p.globals.length yn0)).setCell (p := ⟨B, 1, none⟩) (fun _ => rfl) (.slice ya1 p.shapes.length yn1)).setCell (p := ⟨B, 2, none⟩) (fun _ => rfl) (.slice ya2 p.funcs.length yn2)
            generalize ((r5.setCell ⟨B, 0, none⟩ (.slice ya0 p.globals.length yn0)).setCell ⟨B, 1, none⟩ (.slice ya1 p.shapes.length yn1)).setCell ⟨B, 2, none⟩ (.slice ya2 p.funcs.length yn2) = r6 at *
            have HX := Lib.hid (HX.out.other hf HB.out)
            have HY := Lib.hid (HY.out.other hf HB.out)
            have HA := Lib.hid (hf.heap HA.out (show ¬ onB B A from fun h => by unfold onB at h; omega))
            have HR6 := Lib.hid (HR5.out.trans (hf.below (show w.heap.size + 1 ≤ _ by have := HR5.out.size; have := HZ0.out; omega) (fun k hk => by unfold onB at hk; omega)))
            have HB := Lib.hid hl
            have hMr : M ≤ r6.heap.size := Nat.le_trans hMr hf.size
            clear hl hf
            refine hK.out _ _ (HS.out _ HR6.out) (fun _ => ?_)
            clear hK K
            refine wpAnyH_done (by kernel_rfl) ?_ _
            refine NoPanic.normal ?_
            go_wp2_with fail
            go_meet
            case rel => exact ⟨A, B, N, M, _, _, _, _, _, _, _, _, _, _, _, _, rfl, rfl, HA.out, HB.out, HX.out, HY.out, hAp, hBp, hNw, hAw, hBw, hMr, HR6.out⟩
        · go_simp
          obtain ⟨r3, hr⟩ : ∃ r, r = r2.alloc (.cells #[.slice none 0 0, .slice none 0 0, .slice none 0 0] 71) := ⟨_, rfl⟩
          obtain ⟨B, ha⟩ : ∃ A, A = r2.heap.size := ⟨_, rfl⟩
          have hl : r3.heap[B]? = some (.cells #[.slice none 0 0, .slice none 0 0, .slice none 0 0] 71) := by rw [hr, ha]; exact heap_new _ _
          have hb : Below r2.heap.size r2 r3 := by rw [hr]; exact (Below.refl _ _).alloc (Nat.le_refl _) _
          rw [← hr, ← ha]
          clear hr
          have hz := HR2.out.size
          have hbz := hb.size
          have hBw : w.heap.size + 1 ≤ B := by have := HZ0.out; omega
          have HR3 := Lib.hid (HR2.out.trans (hb.mono (by have := HZ0.out; omega)))
          have hAB : A ≠ B := by have := heap_lt HA.out; omega
          have HA := Lib.hid ((Fr.of_below hb (fun _ => False)).heap HA.out (fun h => h))
          have hBp : B < N ∨ M ≤ B := .inr (by omega)
          have hMr : M ≤ r3.heap.size := by omega
          have HX := Lib.hid (HX.out.below hb)
          have HB := Lib.hid hl
          clear hl hb hz hbz ha
          refine hK.out _ _ (HS.out _ HR3.out) (fun _ => ?_)
          clear hK K
          refine wpAnyH_ready (rs := [3]) (by kernel_rfl) (by simp) ?_
          refine (AllReadyH.cons rfl (fun K hK => ?_) AllReadyH.nil)
          · go_simp
            go_at_call 64
            refine (CP.out r3 (HBW.out r3 HR3.out)).mono ?_
            rintro e r4 ⟨v0, v1, v2, rfl, hv, hb⟩
            have hz := HR3.out.size
            have hbz := hb.size
            have HR4 := Lib.hid (HR3.out.trans (hb.mono (by have := HZ0.out; omega)))
            have hval := hv.val
            obtain ⟨⟨ya0, yn0, rfl, _⟩, ⟨ya1, yn1, rfl, _⟩, ya2, yn2, rfl, _⟩ := hval
            have hX := HX.out.below hb
            have hY : PrgOwn r4 M p _ _ _ := hv.mono hMr
            have hMr : M ≤ r4.heap.size := by omega
            have HX := Lib.hid hX
            have HY := Lib.hid hY
            clear hX hY
            have HA := Lib.hid ((Fr.of_below hb (fun _ => False)).heap HA.out (fun h => h))
            have HB := Lib.hid ((Fr.of_below hb (fun _ => False)).heap HB.out (fun h => h))
            clear hv hb hz hbz
            refine hK.out _ _ (HS.out _ HR4.out) (fun _ => ?_)
            clear hK K
            refine wpAnyH_ready (rs := [6]) (by kernel_rfl) (by simp) ?_
            refine (AllReadyH.cons rfl (fun K hK => ?_) AllReadyH.nil)
            obtain ⟨⟨k0, k1, k2⟩, f0, f1, f2⟩ := three_cells HA.out
            go_simp
            clear k0 k1 k2 f0 f1 f2
            have hl := row_set (row_set (row_set HA.out 0 (.slice xa0 p.globals.length xn0)) 1 (.slice xa1 p.shapes.length xn1)) 2 (.slice xa2 p.funcs.length xn2)
            have hf : Fr (onB A) r4 _ := (((Fr.refl (onB A) r4).setCell (p := ⟨A, 0, none⟩) (fun _ => rfl) (.slice xa0 p.globals.length xn0)).setCell (p := ⟨A, 1, none⟩) (fun _ => rfl) (.slice xa1 p.shapes.length xn1)).setCell (p := ⟨A, 2, none⟩) (fun _ => rfl) (.slice xa2 p.funcs.length xn2)
            generalize ((r4.setCell ⟨A, 0, none⟩ (.slice xa0 p.globals.length xn0)).setCell ⟨A, 1, none⟩ (.slice xa1 p.shapes.length xn1)).setCell ⟨A, 2, none⟩ (.slice xa2 p.funcs.length xn2) = r5 at *
            have HX := Lib.hid (HX.out.other hf HA.out)
            have HY := Lib.hid (HY.out.other hf HA.out)
            have HB := Lib.hid (hf.heap HB.out (show ¬ onB A B from fun h => by unfold onB at h; omega))
            have HR5 := Lib.hid (HR4.out.trans (hf.below (show w.heap.size + 1 ≤ _ by have := HR4.out.size; have := HZ0.out; omega) (fun k hk => by unfold onB at hk; omega)))
            have HA := Lib.hid hl
            have hMr : M ≤ r5.heap.size := Nat.le_trans hMr hf.size
            clear hl hf
            refine hK.out _ _ (HS.out _ HR5.out) (fun _ => ?_)
            clear hK K
            refine wpAnyH_ready (rs := [7]) (by kernel_rfl) (by simp) ?_
            refine (AllReadyH.cons rfl (fun K hK => ?_) AllReadyH.nil)
            obtain ⟨⟨k0, k1, k2⟩, f0, f1, f2⟩ := three_cells HB.out
            go_simp
            clear k0 k1 k2 f0 f1 f2
            have hl := row_set (row_set (row_set HB.out 0 (.slice ya0 p.globals.length yn0)) 1 (.slice ya1 p.shapes.length yn1)) 2 (.slice ya2 p.funcs.length yn2)
            have hf : Fr (onB B) r5 _ := (((Fr.refl (onB B) r5).setCell (p := ⟨B, 0, none⟩) (fun _ => rfl) (.slice ya0 p.globals.length yn0)).setCell (p := ⟨B, 1, none⟩) (fun _ => rfl) (.slice ya1 p.shapes.length yn1)).setCell (p := ⟨B, 2, none⟩) (fun _ => rfl) (.slice ya2 p.funcs.length yn2)
            generalize ((r5.setCell ⟨B, 0, none⟩ (.slice ya0 p.globals.length yn0)).setCell ⟨B, 1, none⟩ (.slice ya1 p.shapes.length yn1)).setCell ⟨B, 2, none⟩ (.slice ya2 p.funcs.length yn2) = r6 at *
            have HX := Lib.hid (HX.out.other hf HB.out)
            have HY := Lib.hid (HY.out.other hf HB.out)
            have HA := Lib.hid (hf.heap HA.out (show ¬ onB B A from fun h => by unfold onB at h; omega))
            have HR6 := Lib.hid (HR5.out.trans (hf.below (show w.heap.size + 1 ≤ _ by have := HR5.out.size; have := HZ0.out; omega) (fun k hk => by unfold onB at hk; omega)))
            have HB := Lib.hid hl
            have hMr : M ≤ r6.heap.size := Nat.le_trans hMr hf.size
            clear hl hf
            refine hK.out _ _ (HS.out _ HR6.out) (fun _ => ?_)
            clear hK K
            refine wpAnyH_done (by kernel_rfl) ?_ _
            refine NoPanic.normal ?_
            go_wp2_with fail
            go_meet
            case rel => exact ⟨A, B, N, M, _, _, _, _, _, _, _, _, _, _, _, _, rfl, rfl, HA.out, HB.out, HX.out, HY.out, hAp, hBp, hNw, hAw, hBw, hMr, HR6.out⟩
      · go_simp
        obtain ⟨r2, hr⟩ : ∃ r, r = r1.alloc (.cells #[.slice none 0 0, .slice none 0 0, .slice none 0 0] 71) := ⟨_, rfl⟩
        obtain ⟨B, ha⟩ : ∃ A, A = r1.heap.size := ⟨_, rfl⟩
        have hl : r2.heap[B]? = some (.cells #[.slice none 0 0, .slice none 0 0, .slice none 0 0] 71) := by rw [hr, ha]; exact heap_new _ _
        have hb : Below r1.heap.size r1 r2 := by rw [hr]; exact (Below.refl _ _).alloc (Nat.le_refl _) _
        rw [← hr, ← ha]
        clear hr
        have hz := HR1.out.size
        have hbz := hb.size
        have hBw : w.heap.size + 1 ≤ B := by have := HZ0.out; omega
        have HR2 := Lib.hid (HR1.out.trans (hb.mono (by have := HZ0.out; omega)))
        have hAB : A ≠ B := by have := heap_lt HA.out; omega
        have HA := Lib.hid ((Fr.of_below hb (fun _ => False)).heap HA.out (fun h => h))
        have HB := Lib.hid hl
        clear hl hb hz hbz ha
        refine hK.out _ _ (HS.out _ HR2.out) (fun _ => ?_)
        clear hK K
        refine wpAnyH_ready (rs := [1]) (by kernel_rfl) (by simp) ?_
        refine (AllReadyH.cons rfl (fun K hK => ?_) AllReadyH.nil)
        · go_simp
          go_at_call 64
          refine (CP.out r2 (HBW.out r2 HR2.out)).mono ?_
          rintro e r3 ⟨v0, v1, v2, rfl, hv, hb⟩
          have hz := HR2.out.size
          have hbz := hb.size
          have HR3 := Lib.hid (HR2.out.trans (hb.mono (by have := HZ0.out; omega)))
          have hval := hv.val
          obtain ⟨⟨xa0, xn0, rfl, _⟩, ⟨xa1, xn1, rfl, _⟩, xa2, xn2, rfl, _⟩ := hval
          have hX := hv.bound
          obtain ⟨N, hN⟩ : ∃ N, N = r2.heap.size := ⟨_, rfl⟩
          obtain ⟨M, hM⟩ : ∃ M, M = r3.heap.size := ⟨_, rfl⟩
          rw [← hN, ← hM] at hX
          have hNw : w.heap.size + 1 ≤ N := by have := HZ0.out; omega
          have hMr : M ≤ r3.heap.size := by omega
          have hAp : A < N ∨ M ≤ A := .inl (by have := heap_lt HA.out; omega)
          have hBp : B < N ∨ M ≤ B := .inl (by have := heap_lt HB.out; omega)
          have HX := Lib.hid hX
          clear hX hN hM
          have HA := Lib.hid ((Fr.of_below hb (fun _ => False)).heap HA.out (fun h => h))
          have HB := Lib.hid ((Fr.of_below hb (fun _ => False)).heap HB.out (fun h => h))
          clear hv hb hz hbz
          refine hK.out _ _ (HS.out _ HR3.out) (fun _ => ?_)
          clear hK K
          refine wpAnyH_ready (rs := [3]) (by kernel_rfl) (by simp) ?_
          refine (AllReadyH.cons rfl (fun K hK => ?_) AllReadyH.nil)
          · go_simp
            go_at_call 64
            refine (CP.out r3 (HBW.out r3 HR3.out)).mono ?_
            rintro e r4 ⟨v0, v1, v2, rfl, hv, hb⟩
            have hz := HR3.out.size
            have hbz := hb.size
            have HR4 := Lib.hid (HR3.out.trans (hb.mono (by have := HZ0.out; omega)))
            have hval := hv.val
            obtain ⟨⟨ya0, yn0, rfl, _⟩, ⟨ya1, yn1, rfl, _⟩, ya2, yn2, rfl, _⟩ := hval
            have hX := HX.out.below hb
            have hY : PrgOwn r4 M p _ _ _ := hv.mono hMr
            have hMr : M ≤ r4.heap.size := by omega
            have HX := Lib.hid hX
            have HY := Lib.hid hY
            clear hX hY
            have HA := Lib.hid ((Fr.of_below hb (fun _ => False)).heap HA.out (fun h => h))
            have HB := Lib.hid ((Fr.of_below hb (fun _ => False)).heap HB.out (fun h => h))
            clear hv hb hz hbz
            refine hK.out _ _ (HS.out _ HR4.out) (fun _ => ?_)
            clear hK K
            refine wpAnyH_ready (rs := [6]) (by kernel_rfl) (by simp) ?_
            refine (AllReadyH.cons rfl (fun K hK => ?_) AllReadyH.nil)
            obtain ⟨⟨k0, k1, k2⟩, f0, f1, f2⟩ := three_cells HA.out
            go_simp
            clear k0 k1 k2 f0 f1 f2
            have hl := row_set (row_set (row_set HA.out 0 (.slice xa0 p.globals.length xn0)) 1 (.slice xa1 p.shapes.length xn1)) 2 (.slice xa2 p.funcs.length xn2)
            have hf : Fr (onB A) r4 _ := (((Fr.refl (onB A) r4).setCell (p := ⟨A, 0, none⟩) (fun _ => rfl) (.slice xa0 p.globals.length xn0)).setCell (p := ⟨A, 1, none⟩) (fun _ => rfl) (.slice xa1 p.shapes.length xn1)).setCell (p := ⟨A, 2, none⟩) (fun _ => rfl) (.slice xa2 p.funcs.length xn2)
            generalize ((r4.setCell ⟨A, 0, none⟩ (.slice xa0 p.globals.length xn0)).setCell ⟨A, 1, none⟩ (.slice xa1 p.shapes.length xn1)).setCell ⟨A, 2, none⟩ (.slice xa2 p.funcs.length xn2) = r5 at *
            have HX := Lib.hid (HX.out.other hf HA.out)
            have HY := Lib.hid (HY.out.other hf HA.out)
            have HB := Lib.hid (hf.heap HB.out (show ¬ onB A B from fun h => by unfold onB at h; omega))
            have HR5 := Lib.hid (HR4.out.trans (hf.below (show w.heap.size + 1 ≤ _ by have := HR4.out.size; have := HZ0.out; omega) (fun k hk => by unfold onB at hk; omega)))
            have HA := Lib.hid hl
            have hMr : M ≤ r5.heap.size := Nat.le_trans hMr hf.size
            clear hl hf
            refine hK.out _ _ (HS.out _ HR5.out) (fun _ => ?_)
            clear hK K
            refine wpAnyH_ready (rs := [7]) (by kernel_rfl) (by simp) ?_
            refine (AllReadyH.cons rfl (fun K hK => ?_) AllReadyH.nil)
            obtain ⟨⟨k0, k1, k2⟩, f0, f1, f2⟩ := three_cells HB.out
            go_simp
            clear k0 k1 k2 f0 f1 f2
            have hl := row_set (row_set (row_set HB.out 0 (.slice ya0 p.globals.length yn0)) 1 (.slice ya1 p.shapes.length yn1)) 2 (.slice ya2 p.funcs.length yn2)
            have hf : Fr (onB B) r5 _ := (((Fr.refl (onB B) r5).setCell (p := ⟨B, 0, none⟩) (fun _ => rfl) (.slice ya0 p.globals.length yn0)).setCell (p := ⟨B, 1, none⟩) (fun _ => rfl) (.slice ya1 p.shapes.length yn1)).setCell (p := ⟨B, 2, none⟩) (fun _ => rfl) (.slice ya2 p.funcs.length yn2)
            generalize ((r5.setCell ⟨B, 0, none⟩ (.slice ya0 p.globals.length yn0)).setCell ⟨B, 1, none⟩ (.slice ya1 p.shapes.length yn1)).setCell ⟨B, 2, none⟩ (.slice ya2 p.funcs.length yn2) = r6 at *
            have HX := Lib.hid (HX.out.other hf HB.out)
            have HY := Lib.hid (HY.out.other hf HB.out)
            have HA := Lib.hid (hf.heap HA.out (show ¬ onB B A from fun h => by unfold onB at h; omega))
            have HR6 := Lib.hid (HR5.out.trans (hf.below (show w.heap.size + 1 ≤ _ by have := HR5.out.size; have := HZ0.out; omega) (fun k hk => by unfold onB at hk; omega)))
            have HB := Lib.hid hl
            have hMr : M ≤ r6.heap.size := Nat.le_trans hMr hf.size
            clear hl hf
            refine hK.out _ _ (HS.out _ HR6.out) (fun _ => ?_)
            clear hK K
            refine wpAnyH_done (by kernel_rfl) ?_ _
            refine NoPanic.normal ?_
            go_wp2_with fail
            go_meet
            case rel => exact ⟨A, B, N, M, _, _, _, _, _, _, _, _, _, _, _, _, rfl, rfl, HA.out, HB.out, HX.out, HY.out, hAp, hBp, hNw, hAw, hBw, hMr, HR6.out⟩
    · go_simp
      obtain ⟨r1, hr⟩ : ∃ r, r = r0.alloc (.cells #[.slice none 0 0, .slice none 0 0, .slice none 0 0] 71) := ⟨_, rfl⟩
      obtain ⟨B, ha⟩ : ∃ A, A = r0.heap.size := ⟨_, rfl⟩
      have hl : r1.heap[B]? = some (.cells #[.slice none 0 0, .slice none 0 0, .slice none 0 0] 71) := by rw [hr, ha]; exact heap_new _ _
      have hb : Below r0.heap.size r0 r1 := by rw [hr]; exact (Below.refl _ _).alloc (Nat.le_refl _) _
      rw [← hr, ← ha]
      clear hr
      have hz := HR0.out.size
      have hbz := hb.size
      have hBw : w.heap.size + 1 ≤ B := by have := HZ0.out; omega
      have HR1 := Lib.hid (HR0.out.trans (hb.mono (by have := HZ0.out; omega)))
      have HB := Lib.hid hl
      clear hl hb hz hbz ha
      refine hK.out _ _ (HS.out _ HR1.out) (fun _ => ?_)
      clear hK K
      refine wpAnyH_ready (rs := [1, 4]) (by kernel_rfl) (by simp) ?_
      refine (AllReadyH.cons rfl (fun K hK => ?_) (AllReadyH.cons rfl (fun K hK => ?_) AllReadyH.nil))
      · go_simp
        go_at_call 64
        refine (CP.out r1 (HBW.out r1 HR1.out)).mono ?_
        rintro e r2 ⟨v0, v1, v2, rfl, hv, hb⟩
        have hz := HR1.out.size
        have hbz := hb.size
        have HR2 := Lib.hid (HR1.out.trans (hb.mono (by have := HZ0.out; omega)))
        have hval := hv.val
        obtain ⟨⟨xa0, xn0, rfl, _⟩, ⟨xa1, xn1, rfl, _⟩, xa2, xn2, rfl, _⟩ := hval
        have hX := hv.bound
        obtain ⟨N, hN⟩ : ∃ N, N = r1.heap.size := ⟨_, rfl⟩
        obtain ⟨M, hM⟩ : ∃ M, M = r2.heap.size := ⟨_, rfl⟩
        rw [← hN, ← hM] at hX
        have hNw : w.heap.size + 1 ≤ N := by have := HZ0.out; omega
        have hMr : M ≤ r2.heap.size := by omega
        have hBp : B < N ∨ M ≤ B := .inl (by have := heap_lt HB.out; omega)
        have HX := Lib.hid hX
        clear hX hN hM
        have HB := Lib.hid ((Fr.of_below hb (fun _ => False)).heap HB.out (fun h => h))
        clear hv hb hz hbz
        refine hK.out _ _ (HS.out _ HR2.out) (fun _ => ?_)
        clear hK K
        refine wpAnyH_ready (rs := [3, 4]) (by kernel_rfl) (by simp) ?_
        refine (AllReadyH.cons rfl (fun K hK => ?_) (AllReadyH.cons rfl (fun K hK => ?_) AllReadyH.nil))
        · go_simp
          go_at_call 64
          refine (CP.out r2 (HBW.out r2 HR2.out)).mono ?_
          rintro e r3 ⟨v0, v1, v2, rfl, hv, hb⟩
          have hz := HR2.out.size
          have hbz := hb.size
          have HR3 := Lib.hid (HR2.out.trans (hb.mono (by have := HZ0.out; omega)))
          have hval := hv.val
          obtain ⟨⟨ya0, yn0, rfl, _⟩, ⟨ya1, yn1, rfl, _⟩, ya2, yn2, rfl, _⟩ := hval
          have hX := HX.out.below hb
          have hY : PrgOwn r3 M p _ _ _ := hv.mono hMr
          have hMr : M ≤ r3.heap.size := by omega
          have HX := Lib.hid hX
          have HY := Lib.hid hY
          clear hX hY
          have HB := Lib.hid ((Fr.of_below hb (fun _ => False)).heap HB.out (fun h => h))
          clear hv hb hz hbz
          refine hK.out _ _ (HS.out _ HR3.out) (fun _ => ?_)
          clear hK K
          refine wpAnyH_ready (rs := [4]) (by kernel_rfl) (by simp) ?_
          refine (AllReadyH.cons rfl (fun K hK => ?_) AllReadyH.nil)
          · go_simp
            obtain ⟨r4, hr⟩ : ∃ r, r = r3.alloc (.cells #[.slice none 0 0, .slice none 0 0, .slice none 0 0] 71) := ⟨_, rfl⟩
            obtain ⟨A, ha⟩ : ∃ A, A = r3.heap.size := ⟨_, rfl⟩
            have hl : r4.heap[A]? = some (.cells #[.slice none 0 0, .slice none 0 0, .slice none 0 0] 71) := by rw [hr, ha]; exact heap_new _ _
            have hb : Below r3.heap.size r3 r4 := by rw [hr]; exact (Below.refl _ _).alloc (Nat.le_refl _) _
            rw [← hr, ← ha]
            clear hr
            have hz := HR3.out.size
            have hbz := hb.size
            have hAw : w.heap.size + 1 ≤ A := by have := HZ0.out; omega
            have HR4 := Lib.hid (HR3.out.trans (hb.mono (by have := HZ0.out; omega)))
            have hAB : A ≠ B := by have := heap_lt HB.out; omega
            have HB := Lib.hid ((Fr.of_below hb (fun _ => False)).heap HB.out (fun h => h))
            have hAp : A < N ∨ M ≤ A := .inr (by omega)
            have hMr : M ≤ r4.heap.size := by omega
            have HX := Lib.hid (HX.out.below hb)
            have HY := Lib.hid (HY.out.below hb)
            have HA := Lib.hid hl
            clear hl hb hz hbz ha
            refine hK.out _ _ (HS.out _ HR4.out) (fun _ => ?_)
            clear hK K
            refine wpAnyH_ready (rs := [6]) (by kernel_rfl) (by simp) ?_
            refine (AllReadyH.cons rfl (fun K hK => ?_) AllReadyH.nil)
            obtain ⟨⟨k0, k1, k2⟩, f0, f1, f2⟩ := three_cells HA.out
            go_simp
            clear k0 k1 k2 f0 f1 f2
            have hl := row_set (row_set (row_set HA.out 0 (.slice xa0 p.globals.length xn0)) 1 (.slice xa1 p.shapes.length xn1)) 2 (.slice xa2 p.funcs.length xn2)
            have hf : Fr (onB A) r4 _ := (((Fr.refl (onB A) r4).setCell (p := ⟨A, 0, none⟩) (fun _ => rfl) (.slice xa0 p.globals.length xn0)).setCell (p := ⟨A, 1, none⟩) (fun _ => rfl) (.slice xa1 p.shapes.length xn1)).setCell (p := ⟨A, 2, none⟩) (fun _ => rfl) (.slice xa2 p.funcs.length xn2)
            generalize ((r4.setCell ⟨A, 0, none⟩ (.slice xa0 p.globals.length xn0)).setCell ⟨A, 1, none⟩ (.slice xa1 p.shapes.length xn1)).setCell ⟨A, 2, none⟩ (.slice xa2 p.funcs.length xn2) = r5 at *
            have HX := Lib.hid (HX.out.other hf HA.out)
            have HY := Lib.hid (HY.out.other hf HA.out)
            have HB := Lib.hid (hf.heap HB.out (show ¬ onB A B from fun h => by unfold onB at h; omega))
            have HR5 := Lib.hid (HR4.out.trans (hf.below (show w.heap.size + 1 ≤ _ by have := HR4.out.size; have := HZ0.out; omega) (fun k hk => by unfold onB at hk; omega)))
            have HA := Lib.hid hl
            have hMr : M ≤ r5.heap.size := Nat.le_trans hMr hf.size
            clear hl hf
            refine hK.out _ _ (HS.out _ HR5.out) (fun _ => ?_)
            clear hK K
            refine wpAnyH_ready (rs := [7]) (by kernel_rfl) (by simp) ?_
            refine (AllReadyH.cons rfl (fun K hK => ?_) AllReadyH.nil)
            obtain ⟨⟨k0, k1, k2⟩, f0, f1, f2⟩ := three_cells HB.out
            go_simp
            clear k0 k1 k2 f0 f1 f2
            have hl := row_set (row_set (row_set HB.out 0 (.slice ya0 p.globals.length yn0)) 1 (.slice ya1 p.shapes.length yn1)) 2 (.slice ya2 p.funcs.length yn2)
            have hf : Fr (onB B) r5 _ := (((Fr.refl (onB B) r5).setCell (p := ⟨B, 0, none⟩) (fun _ => rfl) (.slice ya0 p.globals.length yn0)).setCell (p := ⟨B, 1, none⟩) (fun _ => rfl) (.slice ya1 p.shapes.length yn1)).setCell (p := ⟨B, 2, none⟩) (fun _ => rfl) (.slice ya2 p.funcs.length yn2)
            generalize ((r5.setCell ⟨B, 0, none⟩ (.slice ya0 p.globals.length yn0)).setCell ⟨B, 1, none⟩ (.slice ya1 p.shapes.length yn1)).setCell ⟨B, 2, none⟩ (.slice ya2 p.funcs.length yn2) = r6 at *
            have HX := Lib.hid (HX.out.other hf HB.out)
            have HY := Lib.hid (HY.out.other hf HB.out)
            have HA := Lib.hid (hf.heap HA.out (show ¬ onB B A from fun h => by unfold onB at h; omega))
            have HR6 := Lib.hid (HR5.out.trans (hf.below (show w.heap.size + 1 ≤ _ by have := HR5.out.size; have := HZ0.out; omega) (fun k hk => by unfold onB at hk; omega)))
            have HB := Lib.hid hl
            have hMr : M ≤ r6.heap.size := Nat.le_trans hMr hf.size
            clear hl hf
            refine hK.out _ _ (HS.out _ HR6.out) (fun _ => ?_)
            clear hK K
            refine wpAnyH_done (by kernel_rfl) ?_ _
            refine NoPanic.normal ?_
            go_wp2_with fail
            go_meet
            case rel => exact ⟨A, B, N, M, _, _, _, _, _, _, _, _, _, _, _, _, rfl, rfl, HA.out, HB.out, HX.out, HY.out, hAp, hBp, hNw, hAw, hBw, hMr, HR6.out⟩
        · go_simp
          obtain ⟨r3, hr⟩ : ∃ r, r = r2.alloc (.cells #[.slice none 0 0, .slice none 0 0, .slice none 0 0] 71) := ⟨_, rfl⟩
          obtain ⟨A, ha⟩ : ∃ A, A = r2.heap.size := ⟨_, rfl⟩
          have hl : r3.heap[A]? = some (.cells #[.slice none 0 0, .slice none 0 0, .slice none 0 0] 71) := by rw [hr, ha]; exact heap_new _ _
          have hb : Below r2.heap.size r2 r3 := by rw [hr]; exact (Below.refl _ _).alloc (Nat.le_refl _) _
          rw [← hr, ← ha]
          clear hr
          have hz := HR2.out.size
          have hbz := hb.size
          have hAw : w.heap.size + 1 ≤ A := by have := HZ0.out; omega
          have HR3 := Lib.hid (HR2.out.trans (hb.mono (by have := HZ0.out; omega)))
          have hAB : A ≠ B := by have := heap_lt HB.out; omega
          have HB := Lib.hid ((Fr.of_below hb (fun _ => False)).heap HB.out (fun h => h))
          have hAp : A < N ∨ M ≤ A := .inr (by omega)
          have hMr : M ≤ r3.heap.size := by omega
          have HX := Lib.hid (HX.out.below hb)
          have HA := Lib.hid hl
          clear hl hb hz hbz ha
          refine hK.out _ _ (HS.out _ HR3.out) (fun _ => ?_)
          clear hK K
          refine wpAnyH_ready (rs := [3]) (by kernel_rfl) (by simp) ?_
          refine (AllReadyH.cons rfl (fun K hK => ?_) AllReadyH.nil)
          · go_simp
            go_at_call 64
            refine (CP.out r3 (HBW.out r3 HR3.out)).mono ?_
            rintro e r4 ⟨v0, v1, v2, rfl, hv, hb⟩
            have hz := HR3.out.size
            have hbz := hb.size
            have HR4 := Lib.hid (HR3.out.trans (hb.mono (by have := HZ0.out; omega)))
            have hval := hv.val
            obtain ⟨⟨ya0, yn0, rfl, _⟩, ⟨ya1, yn1, rfl, _⟩, ya2, yn2, rfl, _⟩ := hval
            have hX := HX.out.below hb
            have hY : PrgOwn r4 M p _ _ _ := hv.mono hMr
            have hMr : M ≤ r4.heap.size := by omega
            have HX := Lib.hid hX
            have HY := Lib.hid hY
            clear hX hY
            have HA := Lib.hid ((Fr.of_below hb (fun _ => False)).heap HA.out (fun h => h))
            have HB := Lib.hid ((Fr.of_below hb (fun _ => False)).heap HB.out (fun h => h))
            clear hv hb hz hbz
            refine hK.out _ _ (HS.out _ HR4.out) (fun _ => ?_)
            clear hK K
            refine wpAnyH_ready (rs := [6]) (by kernel_rfl) (by simp) ?_
            refine (AllReadyH.cons rfl (fun K hK => ?_) AllReadyH.nil)
            obtain ⟨⟨k0, k1, k2⟩, f0, f1, f2⟩ := three_cells HA.out
            go_simp
            clear k0 k1 k2 f0 f1 f2
            have hl := row_set (row_set (row_set HA.out 0 (.slice xa0 p.globals.length xn0)) 1 (.slice xa1 p.shapes.length xn1)) 2 (.slice xa2 p.funcs.length xn2)
            have hf : Fr (onB A) r4 _ := (((Fr.refl (onB A) r4).setCell (p := ⟨A, 0, none⟩) (fun _ => rfl) (.slice xa0 p.globals.length xn0)).setCell (p := ⟨A, 1, none⟩) (fun _ => rfl) (.slice xa1 p.shapes.length xn1)).setCell (p := ⟨A, 2, none⟩) (fun _ => rfl) (.slice xa2 p.funcs.length xn2)
            generalize ((r4.setCell ⟨A, 0, none⟩ (.slice xa0 p.globals.length xn0)).setCell ⟨A, 1, none⟩ (.slice xa1 p.shapes.length xn1)).setCell ⟨A, 2, none⟩ (.slice xa2 p.funcs.length xn2) = r5 at *
            have HX := Lib.hid (HX.out.other hf HA.out)
            have HY := Lib.hid (HY.out.other hf HA.out)
            have HB := Lib.hid (hf.heap HB.out (show ¬ onB A B from fun h => by unfold onB at h; omega))
            have HR5 := Lib.hid (HR4.out.trans (hf.below (show w.heap.size + 1 ≤ _ by have := HR4.out.size; have := HZ0.out; omega) (fun k hk => by unfold onB at hk; omega)))
            have HA := Lib.hid hl
            have hMr : M ≤ r5.heap.size := Nat.le_trans hMr hf.size
            clear hl hf
            refine hK.out _ _ (HS.out _ HR5.out) (fun _ => ?_)
            clear hK K
            refine wpAnyH_ready (rs := [7]) (by kernel_rfl) (by simp) ?_
            refine (AllReadyH.cons rfl (fun K hK => ?_) AllReadyH.nil)
            obtain ⟨⟨k0, k1, k2⟩, f0, f1, f2⟩ := three_cells HB.out
            go_simp
            clear k0 k1 k2 f0 f1 f2
            have hl := row_set (row_set (row_set HB.out 0 (.slice ya0 p.globals.length yn0)) 1 (.slice ya1 p.shapes.length yn1)) 2 (.slice ya2 p.funcs.length yn2)
            have hf : Fr (onB B) r5 _ := (((Fr.refl (onB B) r5).setCell (p := ⟨B, 0, none⟩) (fun _ => rfl) (.slice ya0 p.globals.length yn0)).setCell (p := ⟨B, 1, none⟩) (fun _ => rfl) (.slice ya1 p.shapes.length yn1)).setCell (p := ⟨B, 2, none⟩) (fun _ => rfl) (.slice ya2 p.funcs.length yn2)
            generalize ((r5.setCell ⟨B, 0, none⟩ (.slice ya0 p.globals.length yn0)).setCell ⟨B, 1, none⟩ (.slice ya1 p.shapes.length yn1)).setCell ⟨B, 2, none⟩ (.slice ya2 p.funcs.length yn2) = r6 at *
            have HX := Lib.hid (HX.out.other hf HB.out)
            have HY := Lib.hid (HY.out.other hf HB.out)
            have HA := Lib.hid (hf.heap HA.out (show ¬ onB B A from fun h => by unfold onB at h; omega))
            have HR6 := Lib.hid (HR5.out.trans (hf.below (show w.heap.size + 1 ≤ _ by have := HR5.out.size; have := HZ0.out; omega) (fun k hk => by unfold onB at hk; omega)))
            have HB := Lib.hid hl
            have hMr : M ≤ r6.heap.size := Nat.le_trans hMr hf.size
            clear hl hf
            refine hK.out _ _ (HS.out _ HR6.out) (fun _ => ?_)
            clear hK K
            refine wpAnyH_done (by kernel_rfl) ?_ _
            refine NoPanic.normal ?_
            go_wp2_with fail
            go_meet
            case rel => exact ⟨A, B, N, M, _, _, _, _, _, _, _, _, _, _, _, _, rfl, rfl, HA.out, HB.out, HX.out, HY.out, hAp, hBp, hNw, hAw, hBw, hMr, HR6.out⟩
      · go_simp
        obtain ⟨r2, hr⟩ : ∃ r, r = r1.alloc (.cells #[.slice none 0 0, .slice none 0 0, .slice none 0 0] 71) := ⟨_, rfl⟩
        obtain ⟨A, ha⟩ : ∃ A, A = r1.heap.size := ⟨_, rfl⟩
        have hl : r2.heap[A]? = some (.cells #[.slice none 0 0, .slice none 0 0, .slice none 0 0] 71) := by rw [hr, ha]; exact heap_new _ _
        have hb : Below r1.heap.size r1 r2 := by rw [hr]; exact (Below.refl _ _).alloc (Nat.le_refl _) _
        rw [← hr, ← ha]
        clear hr
        have hz := HR1.out.size
        have hbz := hb.size
        have hAw : w.heap.size + 1 ≤ A := by have := HZ0.out; omega
        have HR2 := Lib.hid (HR1.out.trans (hb.mono (by have := HZ0.out; omega)))
        have hAB : A ≠ B := by have := heap_lt HB.out; omega
        have HB := Lib.hid ((Fr.of_below hb (fun _ => False)).heap HB.out (fun h => h))
        have HA := Lib.hid hl
        clear hl hb hz hbz ha
        refine hK.out _ _ (HS.out _ HR2.out) (fun _ => ?_)
        clear hK K
        refine wpAnyH_ready (rs := [1]) (by kernel_rfl) (by simp) ?_
        refine (AllReadyH.cons rfl (fun K hK => ?_) AllReadyH.nil)
        · go_simp
          go_at_call 64
          refine (CP.out r2 (HBW.out r2 HR2.out)).mono ?_
          rintro e r3 ⟨v0, v1, v2, rfl, hv, hb⟩
          have hz := HR2.out.size
          have hbz := hb.size
          have HR3 := Lib.hid (HR2.out.trans (hb.mono (by have := HZ0.out; omega)))
          have hval := hv.val
          obtain ⟨⟨xa0, xn0, rfl, _⟩, ⟨xa1, xn1, rfl, _⟩, xa2, xn2, rfl, _⟩ := hval
          have hX := hv.bound
          obtain ⟨N, hN⟩ : ∃ N, N = r2.heap.size := ⟨_, rfl⟩
          obtain ⟨M, hM⟩ : ∃ M, M = r3.heap.size := ⟨_, rfl⟩
          rw [← hN, ← hM] at hX
          have hNw : w.heap.size + 1 ≤ N := by have := HZ0.out; omega
          have hMr : M ≤ r3.heap.size := by omega
          have hAp : A < N ∨ M ≤ A := .inl (by have := heap_lt HA.out; omega)
          have hBp : B < N ∨ M ≤ B := .inl (by have := heap_lt HB.out; omega)
          have HX := Lib.hid hX
          clear hX hN hM
          have HA := Lib.hid ((Fr.of_below hb (fun _ => False)).heap HA.out (fun h => h))
          have HB := Lib.hid ((Fr.of_below hb (fun _ => False)).heap HB.out (fun h => h))
          clear hv hb hz hbz
          refine hK.out _ _ (HS.out _ HR3.out) (fun _ => ?_)
          clear hK K
          refine wpAnyH_ready (rs := [3]) (by kernel_rfl) (by simp) ?_
          refine (AllReadyH.cons rfl (fun K hK => ?_) AllReadyH.nil)
          · go_simp
            go_at_call 64
            refine (CP.out r3 (HBW.out r3 HR3.out)).mono ?_
            rintro e r4 ⟨v0, v1, v2, rfl, hv, hb⟩
            have hz := HR3.out.size
            have hbz := hb.size
            have HR4 := Lib.hid (HR3.out.trans (hb.mono (by have := HZ0.out; omega)))
            have hval := hv.val
            obtain ⟨⟨ya0, yn0, rfl, _⟩, ⟨ya1, yn1, rfl, _⟩, ya2, yn2, rfl, _⟩ := hval
            have hX := HX.out.below hb
            have hY : PrgOwn r4 M p _ _ _ := hv.mono hMr
            have hMr : M ≤ r4.heap.size := by omega
            have HX := Lib.hid hX
            have HY := Lib.hid hY
            clear hX hY
            have HA := Lib.hid ((Fr.of_below hb (fun _ => False)).heap HA.out (fun h => h))
            have HB := Lib.hid ((Fr.of_below hb (fun _ => False)).heap HB.out (fun h => h))
            clear hv hb hz hbz
            refine hK.out _ _ (HS.out _ HR4.out) (fun _ => ?_)
            clear hK K
            refine wpAnyH_ready (rs := [6]) (by kernel_rfl) (by simp) ?_
            refine (AllReadyH.cons rfl (fun K hK => ?_) AllReadyH.nil)
            obtain ⟨⟨k0, k1, k2⟩, f0, f1, f2⟩ := three_cells HA.out
            go_simp
            clear k0 k1 k2 f0 f1 f2
            have hl := row_set (row_set (row_set HA.out 0 (.slice xa0 p.globals.length xn0)) 1 (.slice xa1 p.shapes.length xn1)) 2 (.slice xa2 p.funcs.length xn2)
            have hf : Fr (onB A) r4 _ := (((Fr.refl (onB A) r4).setCell (p := ⟨A, 0, none⟩) (fun _ => rfl) (.slice xa0 p.globals.length xn0)).setCell (p := ⟨A, 1, none⟩) (fun _ => rfl) (.slice xa1 p.shapes.length xn1)).setCell (p := ⟨A, 2, none⟩) (fun _ => rfl) (.slice xa2 p.funcs.length xn2)
            generalize ((r4.setCell ⟨A, 0, none⟩ (.slice xa0 p.globals.length xn0)).setCell ⟨A, 1, none⟩ (.slice xa1 p.shapes.length xn1)).setCell ⟨A, 2, none⟩ (.slice xa2 p.funcs.length xn2) = r5 at *
            have HX := Lib.hid (HX.out.other hf HA.out)
            have HY := Lib.hid (HY.out.other hf HA.out)
            have HB := Lib.hid (hf.heap HB.out (show ¬ onB A B from fun h => by unfold onB at h; omega))
            have HR5 := Lib.hid (HR4.out.trans (hf.below (show w.heap.size + 1 ≤ _ by have := HR4.out.size; have := HZ0.out; omega) (fun k hk => by unfold onB at hk; omega)))
            have HA := Lib.hid hl
            have hMr : M ≤ r5.heap.size := Nat.le_trans hMr hf.size
            clear hl hf
            refine hK.out _ _ (HS.out _ HR5.out) (fun _ => ?_)
            clear hK K
            refine wpAnyH_ready (rs := [7]) (by kernel_rfl) (by simp) ?_
            refine (AllReadyH.cons rfl (fun K hK => ?_) AllReadyH.nil)
            obtain ⟨⟨k0, k1, k2⟩, f0, f1, f2⟩ := three_cells HB.out
            go_simp
            clear k0 k1 k2 f0 f1 f2
            have hl := row_set (row_set (row_set HB.out 0 (.slice ya0 p.globals.length yn0)) 1 (.slice ya1 p.shapes.length yn1)) 2 (.slice ya2 p.funcs.length yn2)
            have hf : Fr (onB B) r5 _ := (((Fr.refl (onB B) r5).setCell (p := ⟨B, 0, none⟩) (fun _ => rfl) (.slice ya0 p.globals.length yn0)).setCell (p := ⟨B, 1, none⟩) (fun _ => rfl) (.slice ya1 p.shapes.length yn1)).setCell (p := ⟨B, 2, none⟩) (fun _ => rfl) (.slice ya2 p.funcs.length yn2)
            generalize ((r5.setCell ⟨B, 0, none⟩ (.slice ya0 p.globals.length yn0)).setCell ⟨B, 1, none⟩ (.slice ya1 p.shapes.length yn1)).setCell ⟨B, 2, none⟩ (.slice ya2 p.funcs.length yn2) = r6 at *
            have HX := Lib.hid (HX.out.other hf HB.out)
            have HY := Lib.hid (HY.out.other hf HB.out)
            have HA := Lib.hid (hf.heap HA.out (show ¬ onB B A from fun h => by unfold onB at h; omega))
            have HR6 := Lib.hid (HR5.out.trans (hf.below (show w.heap.size + 1 ≤ _ by have := HR5.out.size; have := HZ0.out; omega) (fun k hk => by unfold onB at hk; omega)))
            have HB := Lib.hid hl
            have hMr : M ≤ r6.heap.size := Nat.le_trans hMr hf.size
            clear hl hf
            refine hK.out _ _ (HS.out _ HR6.out) (fun _ => ?_)
            clear hK K
            refine wpAnyH_done (by kernel_rfl) ?_ _
            refine NoPanic.normal ?_
            go_wp2_with fail
            go_meet
            case rel => exact ⟨A, B, N, M, _, _, _, _, _, _, _, _, _, _, _, _, rfl, rfl, HA.out, HB.out, HX.out, HY.out, hAp, hBp, hNw, hAw, hBw, hMr, HR6.out⟩
  case rest =>
    obtain ⟨A, B, N, M, x0, x1, x2, y0, y1, y2, i0, i1, i2, j0, j1, j2, rfl, rfl, hA, hB, hX, hY, hAp, hBp, hNw, hAw, hBw, hMc, hR⟩ := hcut
    have rsx : ∀ W D D' c0 c1 c2 d0 d1 d2, PrgVal W D p c0 c1 c2 → PrgVal W D' p d0 d1 d2 → Calls Try.prog 62 #[.agg #[c0, c1, c2], .agg #[d0, d1, d2]] W fun e w' => e = .returned (.bool true) ∧ Below W.heap.size W w' := fun W D D' c0 c1 c2 d0 d1 d2 h1 h2 => by
      have okp : PrgOk p := by unfold PrgOk; omega
      have := rsame_any W D D' p p c0 c1 c2 d0 d1 d2 h1 h2 okp okp
      rw [show decide (p = p) = true from by simp] at this
      exact this
    have hl0 : p.globals.length ≤ 3000 ∧ p.shapes.length ≤ 3000 ∧ p.funcs.length ≤ 3000 := by unfold bulk at hsp; omega
    have hap := hX.own.val
    have hbp := hY.val
    have ca := rsx wc _ _ _ _ _ _ _ _ hap (HP2.out wc (HBW.out wc hR))
    have cb := fun W (hb : Below wc.heap.size wc W) => rsx W _ _ _ _ _ _ _ _ (hbp.fr (Fr.of_below hb (fun _ => False)) (fun _ _ h => h)) (HP2.out W (HBW.out W (hR.trans (hb.mono (by have := hR.size; have := HZ0.out; omega)))))
    have hbd := hbp.dom (D' := fun k => M ≤ k) (fun k hk => hk.1)
    obtain ⟨k0, k1, k2⟩ := HS.out wc hR
    obtain ⟨⟨a0', a1', a2'⟩, _⟩ := three_cells hA
    clear hap hbp
    have HA := Lib.hid hA; clear hA
    have HB := Lib.hid hB; clear hB
    have HX := Lib.hid hX; clear hX
    have HR := Lib.hid hR; clear hR
    have RSX := Lib.hid rsx; clear rsx
    have CA := Lib.hid ca; clear ca
    have CB := Lib.hid cb; clear cb
    have HBD := Lib.hid hbd; clear hbd
    go_wp2_with fail
    refine CA.out.mono ?_
    rintro e w5 ⟨rfl, hb5⟩
    have hR5 := HR.out.trans (hb5.mono (by have := HR.out.size; have := HZ0.out; omega))
    obtain ⟨b0', b1', b2'⟩ := (three_cells ((Fr.of_below hb5 (fun _ => False)).heap HB.out (fun h => h))).1
    clear k0 k1 k2 a0' a1' a2'
    obtain ⟨k0, k1, k2⟩ := HS.out w5 hR5
    have CB5 := Lib.hid (CB.out w5 hb5)
    have HR5 := Lib.hid hR5; clear hR5
    have HB5 := Lib.hid hb5; clear hb5
    go_wp2_with fail
    refine CB5.out.mono ?_
    rintro e V ⟨rfl, hb6⟩
    have hb := HB5.out.trans (hb6.mono HB5.out.size)
    have hRV := HR.out.trans (hb.mono (by have := HR.out.size; have := HZ0.out; omega))
    have hAV := (Fr.of_below hb (fun _ => False)).heap HA.out (fun h => h)
    have hBV := (Fr.of_below hb (fun _ => False)).heap HB.out (fun h => h)
    have hPV := HBD.out.fr (Fr.of_below hb (fun _ => False)) (fun _ _ h => h)
    have hMV : M ≤ V.heap.size := Nat.le_trans hMc hb.size
    obtain ⟨hs0, xs0, hs0l, xs0l, hm0⟩ := (HX.out.below hb).mut
    have har : ∀ W, Fr (fun k => N ≤ k ∧ k < M) V W → W.heap[A]? = some (.cells #[.slice x0 p.globals.length i0, .slice x1 p.shapes.length i1, .slice x2 p.funcs.length i2] 71) := fun W h => h.heap hAV (fun (e : N ≤ A ∧ A < M) => by omega)
    clear k0 k1 k2 b0' b1' b2' hb6 hb hAV
    have HRV := Lib.hid hRV; clear hRV
    have HBV := Lib.hid hBV; clear hBV
    have HPV := Lib.hid hPV; clear hPV
    have HM0 := Lib.hid hm0; clear hm0
    have HAR := Lib.hid har; clear har
    go_wp2_with fail
    go_loopw [5] (fun i wr => ∃ k : Nat, k ≤ p.globals.length ∧ i = .int .i64 k ∧ Mut wr N M (.slice x0 p.globals.length i0) (.slice x1 p.shapes.length i1) (.slice x2 p.funcs.length i2) hs0 xs0 ∧ Fr (fun k => N ≤ k ∧ k < M) V wr) (fun i _ => p.globals.length - (intOf i).toNat)
    case atStart => exact ⟨0, Nat.zero_le _, rfl, HM0.out, Fr.refl _ _⟩
    case round =>
      obtain ⟨k, hk, rfl, hm, hf⟩ := hrel
      obtain ⟨⟨q0, q1, q2⟩, _⟩ := three_cells (HAR.out _ hf)
      by_cases hlt : k < p.globals.length
      · obtain ⟨g, rfl, hg1, hg2, ⟨cs, hcs⟩, hsl⟩ := hm.1.slot k hlt
        obtain ⟨⟨u, hu⟩, hfz⟩ := hsl 0 (by decide)
        rw [show k * intE.size + 0 = k from by show k * 1 + 0 = k; omega] at hu hfz
        have hm2 := hm.setInt (m := k) (x := -5) hcs
        have hf2 := hf.setCell (p := ⟨g, k, none⟩) (fun _ => ⟨hg1, hg2⟩) (.int .i64 (-5))
        clear hsl hcs hm hf q1 q2
        have HM2 := Lib.hid hm2; clear hm2
        have HF2 := Lib.hid hf2; clear hf2
        go_wp2_with fail
        go_roundw
        case rel =>
          exact ⟨k + 1, by omega, by go_num, HM2.out, HF2.out⟩
        case measure => simp [intOf]; omega
      · have hk' : k = p.globals.length := by omega
        have HM := Lib.hid hm; clear hm
        have HF := Lib.hid hf; clear hf
        clear q1 q2
        go_wp2_with fail
        clear q0
        go_loopw [6] (fun i wr => ∃ (k : Nat) (hs : List Hd), k ≤ p.shapes.length ∧ i = .int .i64 k ∧ hs.length = p.shapes.length ∧ Mut wr N M (.slice x0 p.globals.length i0) (.slice x1 p.shapes.length i1) (.slice x2 p.funcs.length i2) hs xs0 ∧ Fr (fun k => N ≤ k ∧ k < M) V wr) (fun i _ => p.shapes.length - (intOf i).toNat)
        case atStart => exact ⟨0, hs0, Nat.zero_le _, rfl, hs0l, HM.out, HF.out⟩
        case round =>
          obtain ⟨k, hs, hk, rfl, hsl, hm, hf⟩ := hrel
          obtain ⟨⟨q0, q1, q2⟩, _⟩ := three_cells (HAR.out _ hf)
          by_cases hlt : k < p.shapes.length
          · have hkx : k < hs.length := by omega
            obtain ⟨h1, h2, h3, hhk⟩ : ∃ a n c, hs[k] = ⟨a, n, c⟩ := ⟨_, _, _, rfl⟩
            have HHK := Lib.hid hhk
            clear hhk
            have HSLL := Lib.hid hsl
            clear hsl
            have HM := Lib.hid hm; clear hm
            have HF := Lib.hid hf; clear hf
            clear q0 q2
            go_wp2_with fail
            clear q1
            go_loopw [7] (fun i wr => ∃ t : Nat, t ≤ h2 ∧ i = .int .i64 t ∧ Mut wr N M (.slice x0 p.globals.length i0) (.slice x1 p.shapes.length i1) (.slice x2 p.funcs.length i2) hs xs0 ∧ Fr (fun k => N ≤ k ∧ k < M) V wr) (fun i _ => h2 - (intOf i).toNat)
            case atStart => exact ⟨0, Nat.zero_le _, rfl, HM.out, HF.out⟩
            case round =>
              obtain ⟨t, ht, rfl, hm, hf⟩ := hrel
              obtain ⟨⟨q0, q1, q2⟩, _⟩ := three_cells (HAR.out _ hf)
              obtain ⟨g1, rfl, hg3, hg4, c1, z1⟩ := hm.2.1.at k hkx
              rw [HHK.out] at c1
              dsimp only at c1
              by_cases hlt2 : t < h2
              · have hrow := hm.2.1.2.2 k hkx
                rw [HHK.out] at hrow
                have hmx : h2 ≤ 9223372036854775807 := by have := Row.max hrow; unfold maxLen at this; omega
                obtain ⟨g, rfl, hg1, hg2, ⟨cs, hcs⟩, hsl2⟩ := Row.slot hrow t hlt2
                obtain ⟨⟨u, hu⟩, hfz⟩ := hsl2 0 (by decide)
                rw [show t * intE.size + 0 = t from by show t * 1 + 0 = t; omega] at hu hfz
                have hm2 := hm.setInt (m := t) (x := -5) hcs
                have hf2 := hf.setCell (p := ⟨g, t, none⟩) (fun _ => ⟨hg1, hg2⟩) (.int .i64 (-5))
                clear hrow hsl2 hcs hm hf q0 q2 z1
                have HM2 := Lib.hid hm2; clear hm2
                have HF2 := Lib.hid hf2; clear hf2
                go_wp2_with fail
                go_roundw
                case rel => exact ⟨t + 1, by omega, by go_num, HM2.out, HF2.out⟩
                case measure => simp [intOf]; omega
              · have hk2 : t = h2 := by omega
                have hm2 := hm.setSh hkx
                have hf2 := hf.setCell (p := ⟨g1, k, none⟩) (fun _ => ⟨hg3, hg4⟩) (.slice none 0 0)
                have hsl2 : (hs.set k ⟨none, 0, 0⟩).length = p.shapes.length := by rw [List.length_set]; exact HSLL.out
                clear hm hf q0 q2
                have HM2 := Lib.hid hm2; clear hm2
                have HF2 := Lib.hid hf2; clear hf2
                have HSL2 := Lib.hid hsl2; clear hsl2
                go_wp2_with fail
                go_roundw
                case rel => exact ⟨k + 1, _, by omega, by go_num, HSL2.out, HM2.out, HF2.out⟩
                case measure => simp [intOf]; omega
          · have hk' : k = p.shapes.length := by omega
            have HM := Lib.hid hm; clear hm
            have HF := Lib.hid hf; clear hf
            clear q0 q2
            go_wp2_with fail
            clear q1
            go_loopw [8] (fun i wr => ∃ (k : Nat) (xs : List FnH), k ≤ p.funcs.length ∧ i = .int .i64 k ∧ xs.length = p.funcs.length ∧ Mut wr N M (.slice x0 p.globals.length i0) (.slice x1 p.shapes.length i1) (.slice x2 p.funcs.length i2) hs xs ∧ Fr (fun k => N ≤ k ∧ k < M) V wr) (fun i _ => p.funcs.length - (intOf i).toNat)
            case atStart => exact ⟨0, xs0, Nat.zero_le _, rfl, xs0l, HM.out, HF.out⟩
            case round =>
              obtain ⟨k, xs, hk, rfl, hxl, hm, hf⟩ := hrel
              obtain ⟨⟨q0, q1, q2⟩, _⟩ := three_cells (HAR.out _ hf)
              by_cases hlt : k < p.funcs.length
              · have hkx : k < xs.length := by omega
                have HXL := Lib.hid hxl
                clear hxl
                obtain ⟨g2, rfl, hg3, hg4, ⟨c0, c1, c2, c3, c4⟩, z2⟩ := hm.2.2.at k hkx
                obtain ⟨f0, f1, f2, xr, xv, f3, f4, f5, f6, f7, f8, hxk⟩ : ∃ f0 f1 f2 xr xv f3 f4 f5 f6 f7 f8, xs[k] = ⟨⟨f0, f1, f2⟩, xr, xv, ⟨f3, f4, f5⟩, ⟨f6, f7, f8⟩⟩ := ⟨_, _, _, _, _, _, _, _, _, _, _, rfl⟩
                rw [hxk] at c0 c1 c2 c3 c4
                dsimp only at c0 c1 c2 c3 c4
                obtain ⟨y, hy⟩ : ∃ y, y = wr.heap.size := ⟨_, rfl⟩
                have hbs := (Below.refl wr.heap.size wr).alloc (Nat.le_refl _) (.cells #[.slice f0 f1 f2, .int .i64 xr, .int .i64 xv, .slice f3 f4 f5, .slice f6 f7 f8] 86)
                have hly := heap_new wr (.cells #[.slice f0 f1 f2, .int .i64 xr, .int .i64 xv, .slice f3 f4 f5, .slice f6 f7 f8] 86)
                obtain ⟨wS, hwS⟩ : ∃ wS, wS = wr.alloc (.cells #[.slice f0 f1 f2, .int .i64 xr, .int .i64 xv, .slice f3 f4 f5, .slice f6 f7 f8] 86) := ⟨_, rfl⟩
                rw [← hwS] at hbs
                rw [← hwS, ← hy] at hly
                have hMy : M ≤ y := by have := hf.size; omega
                have hmS := hm.below hbs
                have hfS := hf.trans (Fr.of_below hbs (fun k => N ≤ k ∧ k < M)) (fun _ _ h => h)
                have HWS := Lib.hid hwS
                have HY2 := Lib.hid hy
                have HXK := Lib.hid hxk
                have HMT := Lib.hid hmS
                have HFR := Lib.hid hfS
                have HLY := Lib.hid hly
                clear hwS hy hxk hmS hfS hly hm hf hbs z2
                go_upto_region 22 with fail
                rw [← HWS.out, ← HY2.out]
                clear q0 q1 q2 c0 c1 c2 c3 c4
                go_wp2_with fail
                go_loopw [10] (fun i wr => ∃ t : Nat, t ≤ f1 ∧ i = .int .i64 t ∧ Mut wr N M (.slice x0 p.globals.length i0) (.slice x1 p.shapes.length i1) (.slice (some ⟨g2, 0, none⟩) p.funcs.length i2) hs xs ∧ Fr (fun k => N ≤ k ∧ k < M) V wr ∧ wr.heap[y]? = some (.cells #[.slice f0 f1 f2, .int .i64 xr, .int .i64 xv, .slice f3 f4 f5, .slice f6 f7 f8] 86)) (fun i _ => f1 - (intOf i).toNat)
                case atStart => exact ⟨0, Nat.zero_le _, rfl, HMT.out, HFR.out, HLY.out⟩
                case round =>
                  obtain ⟨t, ht, rfl, hm, hf, hly⟩ := hrel
                  obtain ⟨⟨t0, t1, t2, t3, t4⟩, _⟩ := five_cells hly
                  by_cases hlt2 : t < f1
                  · have hrow := (hm.2.2.2.2 k hkx).1
                    rw [HXK.out] at hrow
                    have hmx : f1 ≤ 9223372036854775807 := by have := Row.max hrow; unfold maxLen at this; omega
                    obtain ⟨g, rfl, hg1, hg2, ⟨cs, hcs⟩, hsl⟩ := Row.slot hrow t hlt2
                    obtain ⟨⟨u, hu⟩, hfz⟩ := hsl 0 (by decide)
                    rw [show t * intE.size + 0 = t from by show t * 1 + 0 = t; omega] at hu hfz
                    have hm2 := hm.setInt (m := t) (x := -5) hcs
                    have hf2 := hf.setCell (p := ⟨g, t, none⟩) (fun _ => ⟨hg1, hg2⟩) (.int .i64 (-5))
                    have hl2 := (Fr.setAt wr g (t) (.int .i64 (-5))).heap hly (show ¬ onB g y from fun e => by unfold onB at e; omega)
                    clear hrow hsl hcs hm hf hly
                    have HM2 := Lib.hid hm2; clear hm2
                    have HF2 := Lib.hid hf2; clear hf2
                    have HL2 := Lib.hid hl2; clear hl2
                    go_wp2_with fail
                    go_roundw
                    case rel => exact ⟨t + 1, by omega, by go_num, HM2.out, HF2.out, HL2.out⟩
                    case measure => simp [intOf]; omega
                  · have HMT := Lib.hid hm
                    have HFR := Lib.hid hf
                    have HLY := Lib.hid hly
                    clear hm hf hly
                    go_wp2_with fail
                    clear t0 t1 t2 t3 t4
                    go_loopw [11] (fun i wr => ∃ t : Nat, t ≤ f4 ∧ i = .int .i64 t ∧ Mut wr N M (.slice x0 p.globals.length i0) (.slice x1 p.shapes.length i1) (.slice (some ⟨g2, 0, none⟩) p.funcs.length i2) hs xs ∧ Fr (fun k => N ≤ k ∧ k < M) V wr ∧ wr.heap[y]? = some (.cells #[.slice f0 f1 f2, .int .i64 xr, .int .i64 xv, .slice f3 f4 f5, .slice f6 f7 f8] 86)) (fun i _ => f4 - (intOf i).toNat)
                    case atStart => exact ⟨0, Nat.zero_le _, rfl, HMT.out, HFR.out, HLY.out⟩
                    case round =>
                      obtain ⟨t, ht, rfl, hm, hf, hly⟩ := hrel
                      obtain ⟨⟨t0, t1, t2, t3, t4⟩, _⟩ := five_cells hly
                      by_cases hlt2 : t < f4
                      · have hrow := (hm.2.2.2.2 k hkx).2.1
                        rw [HXK.out] at hrow
                        have hmx : f4 ≤ 9223372036854775807 := by have := Row.max hrow; unfold maxLen at this; omega
                        obtain ⟨g, rfl, hg1, hg2, ⟨cs, hcs⟩, hsl⟩ := Row.slot hrow t hlt2
                        obtain ⟨⟨u, hu⟩, hfz⟩ := hsl 0 (by decide)
                        rw [show t * intE.size + 0 = t from by show t * 1 + 0 = t; omega] at hu hfz
                        have hm2 := hm.setInt (m := t) (x := -5) hcs
                        have hf2 := hf.setCell (p := ⟨g, t, none⟩) (fun _ => ⟨hg1, hg2⟩) (.int .i64 (-5))
                        have hl2 := (Fr.setAt wr g (t) (.int .i64 (-5))).heap hly (show ¬ onB g y from fun e => by unfold onB at e; omega)
                        clear hrow hsl hcs hm hf hly
                        have HM2 := Lib.hid hm2; clear hm2
                        have HF2 := Lib.hid hf2; clear hf2
                        have HL2 := Lib.hid hl2; clear hl2
                        go_wp2_with fail
                        go_roundw
                        case rel => exact ⟨t + 1, by omega, by go_num, HM2.out, HF2.out, HL2.out⟩
                        case measure => simp [intOf]; omega
                      · have HMT := Lib.hid hm
                        have HFR := Lib.hid hf
                        have HLY := Lib.hid hly
                        clear hm hf hly
                        go_wp2_with fail
                        clear t0 t1 t2 t3 t4
                        go_loopw [12] (fun i wr => ∃ t : Nat, t ≤ f7 ∧ i = .int .i64 t ∧ Mut wr N M (.slice x0 p.globals.length i0) (.slice x1 p.shapes.length i1) (.slice (some ⟨g2, 0, none⟩) p.funcs.length i2) hs xs ∧ Fr (fun k => N ≤ k ∧ k < M) V wr ∧ wr.heap[y]? = some (.cells #[.slice f0 f1 f2, .int .i64 xr, .int .i64 xv, .slice f3 f4 f5, .slice f6 f7 f8] 86)) (fun i _ => f7 - (intOf i).toNat)
                        case atStart => exact ⟨0, Nat.zero_le _, rfl, HMT.out, HFR.out, HLY.out⟩
                        case round =>
                          obtain ⟨t, ht, rfl, hm, hf, hly⟩ := hrel
                          obtain ⟨⟨t0, t1, t2, t3, t4⟩, _⟩ := five_cells hly
                          by_cases hlt2 : t < f7
                          · have hrow := (hm.2.2.2.2 k hkx).2.2
                            rw [HXK.out] at hrow
                            have hmx : f7 ≤ 9223372036854775807 := by have := Row.max hrow; unfold maxLen at this; omega
                            obtain ⟨g, rfl, hg1, hg2, ⟨cs, hcs⟩, hsl⟩ := Row.slot hrow t hlt2
                            obtain ⟨⟨u, hu⟩, hfz⟩ := hsl 0 (by decide)
                            rw [show t * insE.size + 0 = t * 4 from by show t * 4 + 0 = t * 4; omega] at hu hfz
                            have hm2 := hm.setOp (m := t) (x := -5) hcs
                            have hf2 := hf.setCell (p := ⟨g, t * 4, none⟩) (fun _ => ⟨hg1, hg2⟩) (.int .i64 (-5))
                            have hl2 := (Fr.setAt wr g (t * 4) (.int .i64 (-5))).heap hly (show ¬ onB g y from fun e => by unfold onB at e; omega)
                            clear hrow hsl hcs hm hf hly
                            have HM2 := Lib.hid hm2; clear hm2
                            have HF2 := Lib.hid hf2; clear hf2
                            have HL2 := Lib.hid hl2; clear hl2
                            go_wp2_with fail
                            go_roundw
                            case rel => exact ⟨t + 1, by omega, by go_num, HM2.out, HF2.out, HL2.out⟩
                            case measure => simp [intOf]; omega
                          · have HMT := Lib.hid hm
                            have HFR := Lib.hid hf
                            have HLY := Lib.hid hly
                            clear hm hf hly
                            obtain ⟨⟨q0, q1, q2⟩, _⟩ := three_cells (HAR.out _ HFR.out)
                            obtain ⟨g3, e3, hg5, hg6, ⟨c0, c1, c2, c3, c4⟩, z2⟩ := HMT.out.2.2.at k hkx
                            obtain rfl : g2 = g3 := by simpa using e3
                            have hm2 := HMT.out.setFn (x := -5) hkx
                            have hf2 := HFR.out.setCell (p := ⟨g2, k * 5 + 2, none⟩) (fun _ => ⟨hg3, hg4⟩) (.int .i64 (-5))
                            have hsl2 : (xs.set k { xs[k] with s := -5 }).length = p.funcs.length := by rw [List.length_set]; exact HXL.out
                            clear q0 q1 c0 c1 c3 c4
                            have HM2 := Lib.hid hm2; clear hm2
                            have HF2 := Lib.hid hf2; clear hf2
                            have HSL2 := Lib.hid hsl2; clear hsl2
                            go_wp2_with fail
                            go_roundw
                            case rel => exact ⟨k + 1, _, by omega, by go_num, HSL2.out, HM2.out, HF2.out⟩
                            case measure => simp [intOf]; omega
              · have hk' : k = p.funcs.length := by omega
                have hbelow := hf.below (show w.heap.size + 1 ≤ V.heap.size by have := HRV.out.size; have := HZ0.out; omega) (fun k hk => by have : N ≤ k ∧ k < M := hk; omega)
                have hRw := HRV.out.trans hbelow
                have hBw2 := hf.heap HBV.out (fun (e : N ≤ B ∧ B < M) => by omega)
                have hPb := HPV.out.fr hf (fun k (hk : M ≤ k) (e : N ≤ k ∧ k < M) => by omega)
                have ca := RSX.out wr _ _ _ _ _ _ _ _ hPb (HP2.out wr (HBW.out wr hRw))
                obtain ⟨k0, k1, k2⟩ := HS.out wr hRw
                obtain ⟨⟨b0', b1', b2'⟩, _⟩ := three_cells hBw2
                have hRw2 := HBW.out wr hRw
                clear hm hf hbelow hRw hBw2 hPb q0 q1
                have CZ := Lib.hid ca
                clear ca
                have HRW2 := Lib.hid hRw2; clear hRw2
                go_wp2_with fail
                refine CZ.out.mono ?_
                rintro e wz ⟨rfl, hbz⟩
                have hfin := HRW2.out.trans (hbz.mono HRW2.out.size)
                clear hbz
                have HFIN := Lib.hid hfin; clear hfin
                go_wp2_with fail
                go_ret
                exact ⟨rfl, HFIN.out⟩
theorem own : ownKnob Try.prog.godebug = none := by kernel_rfl
theorem laidOut : laidOutB Try.prog = true := by kernel_rfl
set_option maxRecDepth 100000 in
theorem lifted (os : Os) (started : os.Started) (H : Type) (enc : TypeId × Value → H) :
    ReturnsInHanded {} Try.checked os 15 .any (Rows.imageCopiesSpec.pre6 enc Try.prog Try.f15 Rows.imageCopiesRow.domain false) (Rows.imageCopiesSpec.post enc Try.prog Try.f15 false true false false) := by
  refine returnsInHanded_of_change (C := Try.checked) own started (by kernel_rfl) Try.func15
    (ChangeSpec.witness6 (enc := enc) (C := Try.checked) false ⟨#[], #[.agg #[.slice none 0 0, .slice none 0 0, .slice none 0 0]], []⟩ 8 (by kernel_rfl) (by kernel_rfl) (by kernel_rfl) (by kernel_rfl)) ?_
  intro W base args ds gs before hval0 hW hcnd _
  have hval : ∀ (j : Nat) t v, Try.f15.params[j]? = some t → args[j]? = some v → Value.okWide Try.prog W .any base t v := hval0
  have hW' := hW
  obtain ⟨p, q, hA0, hV, rfl, hfz, hnd⟩ := hW
  have hA : DataW.TrodAll enc Try.prog W 0 (fun _ => true) true Try.f15.params.toList args.toList ds p := hA0
  rw [Try.params15] at hA hval
  obtain ⟨v0, vs0, d0, ds0, p0, q0, hargs, rfl, rfl, h0, r0⟩ := trodAll_cons hA
  obtain ⟨rfl, rfl, rfl⟩ := trodAll_nil r0
  obtain rfl : args = #[v0] := by cases args; simp_all
  have w0 := open_program (hval 0 71 v0 rfl rfl) h0
  clear hA0 hval0
  simp only [List.append_nil] at hW'
  refine (walk W v0 w0).mono fun e W' ⟨he, hb⟩ => ?_
  subst he
  exact ⟨_, rfl, law_post laidOut (by kernel_rfl) rfl Try.underlying4 hW' rfl (fun ds h => by match ds, h with | [_], _ => rfl) hb⟩
theorem over : Rows.imageCopiesRow.holds Try.pinned (OpenSpec.ofChange Rows.imageCopiesSpec) :=
  OpenClaim.holds_of_wide 15 Try.f15 rfl rfl rfl rfl rfl rfl rfl ⟨rfl, rfl, rfl, rfl, rfl⟩ rfl rfl rfl rfl rfl (by kernel_rfl) Try.func15 (by kernel_rfl)
    (of_decide_eq_true (by kernel_rfl)) (by unfold Func.isWrapper; first | (rw [if_pos (by decide +kernel)]; kernel_rfl) | (rw [if_neg (by decide +kernel)]; exact ⟨rfl, rfl⟩))
    (fun os started H enc _ => lifted os started H enc)
theorem proved : Rows.ImageCopiesSaid := over
#print axioms proved
end Go.Proofs.Ytmmdppjbofbjhaa.imageCopies
