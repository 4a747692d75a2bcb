/- Walks: a step's local: Addr. -/
import Derived.Test.YthkhgihjigmkoaaGreatSBp
import Derived.Test.YthkhgihjigmkoaaGreatSAp
set_option linter.unusedVariables false
set_option linter.unusedSimpArgs false
namespace Go.Proofs.YthkhgihjigmkoaaGreat.Tk
open Go.ChangeShapes Go.WideShapes Go.ChangeAt Go.RowKit Go.Maps
theorem clearL_succ (l : List Int) (o n : Nat) : clearL l o (n + 1) = (clearL l o n).set (o + n) 0 := by
  unfold clearL
  rw [List.range_succ, List.foldl_append]
  rfl
set_option maxRecDepth 100000 in
set_option maxHeartbeats 3200000 in
theorem local_addr (w : World) (F : Nat → Prop) (tb : Nat) (p : TPrg) (T : Tk) (X : TB) (h : TaskAt w F tb p T X) (hp : PSmall p) (ht : TkOk T) (P : List Part) (q : Part) (hP : T.parts = P ++ [q]) (hq : 0 ≤ q.pc ∧ q.pc ≤ 100000) (hi : ∀ q ∈ T.parts, ∃ j : Nat, j < p.funcs.length ∧ q.fn = j) (hB : baseOk T.base) (j : Nat) (hj : j < p.funcs.length) (hfj : q.fn = j) (bn : Nat) (hbn : q.base = bn) (sa : Nat) (hs : (sa : Int) < p.funcs[j].slots) (hs2 : sa ≤ 3000) (hin : bn + (2 + sa) < T.words.length) (ib : Int) (hib : i64B ib) (at_ : Int) (o n : Nat) (hat : placeN p T bn p.funcs[j] ib = at_) (hob : (objO p p.funcs[j] ib).2 = n) (ho : at_ = T.base + o) (hon : o + n ≤ T.words.length) (hwi : ∀ k : Nat, k < n → withinR p T (at_ + k)) (c0 c1 c2 mp : Value) (D2 : Nat → Prop) (hD2 : ∀ k, D2 k → k < w.heap.size) (hv : ∀ wr, Below w.heap.size w wr → PV wr D2 p c0 c1 c2) (ic : Int) :
    Calls Tryz.prog 99 #[.agg (stepV c0 c1 c2 mp tb 18 sa ib ic)] w (RunPost w F tb p X ⟨T.base, (clearL T.words o n).set (bn + (2 + sa)) at_, P ++ [⟨q.fn, q.pc + 1, q.base, q.ret, q.ta, q.tn, q.tc⟩], T.marks⟩ (actV 0 0 0 0 0 false (.slice none 0 0))) := by
  have hl : T.parts.length = P.length + 1 := by rw [hP]; simp
  have e0 : (T.parts[P.length]'(by omega)) = q := by simp only [hP]; simp
  have pl := fun wr (hw : Below w.heap.size w wr) => tkPlace_any wr F tb p T X (h.below hw) hp ht hB P.length hl j hj (by rw [e0]; exact hfj) ib hib
  have fnc := fun wr (hw : Below w.heap.size w wr) => fn_some wr F tb p T X (h.below hw) ht.1 P.length hl
  rw [e0] at fnc
  rw [e0, hbn, hat] at pl
  rw [hfj] at fnc
  have ob := fun wr (hw : Below w.heap.size w wr) => object_any wr D2 (fun k hk => Nat.lt_of_lt_of_le (hD2 k hk) hw.size) p c0 c1 c2 j hj (hv wr hw) hp ib hib
  rw [hob] at ob
  generalize (objO p p.funcs[j] ib).1 = ox at *
  have pu := fun wr (k : Nat) (hk : k < n) (hT : TaskAt wr F tb p ⟨T.base, clearL T.words o k, T.parts, T.marks⟩ X) => put_in wr F tb p ⟨T.base, clearL T.words o k, T.parts, T.marks⟩ X hT hp ⟨ht.1, ht.2.1, by show (clearL T.words o k).length ≤ 100000; rw [clearL_len]; exact ht.2.2.1, ht.2.2.2⟩ hi hB (at_ + k) (by obtain ⟨g1, g2, g3⟩ := hwi k hk; exact ⟨g1, by show _ < T.base + ((clearL T.words o k).length : Int); rw [clearL_len]; exact g2, g3⟩) (o + k) (by show o + k < (clearL T.words o k).length; rw [clearL_len]; omega) (by show at_ + (k : Int) - T.base = ((o + k : Nat) : Int); omega) 0
  have st := fun wr (hT : TaskAt wr F tb p ⟨T.base, clearL T.words o n, T.parts, T.marks⟩ X) => stSet_any wr F tb p ⟨T.base, clearL T.words o n, T.parts, T.marks⟩ X hT ⟨ht.1, ht.2.1, by show (clearL T.words o n).length ≤ 100000; rw [clearL_len]; exact ht.2.2.1, ht.2.2.2⟩ P q hP hq j hj hfj bn hbn sa hs hs2 (by show _ < (clearL T.words o n).length; rw [clearL_len]; exact hin) at_ c0 c1 c2 mp 18 sa ib ic
  have hn3 : n ≤ 100000 := by have := ht.2.2.1; omega
  have hat2 : -9000000000000000000 ≤ at_ ∧ at_ ≤ 9000000000000000000 := by have h1 := hB.1; have h2 := hB.2; have := ht.2.2.1; omega
  have h0 : TaskAt w F tb p ⟨T.base, clearL T.words o 0, T.parts, T.marks⟩ X := h
  have HT0 := Lib.hid h0
  clear hl e0 hs hin hat hob ho hon hwi hi hB hv hD2 hp ht hib h0
  have PL := Lib.hid pl; clear pl
  have FNC := Lib.hid fnc; clear fnc
  have OB := Lib.hid ob; clear ob
  have PU := Lib.hid pu; clear pu
  have ST := Lib.hid st; clear st
  have hb0 := ((Below.refl w.heap.size w).alloc (Nat.le_refl _) (.cells (stepV c0 c1 c2 mp tb 18 sa ib ic) 124))
  have hb1 := hb0.alloc hb0.size act0
  have hr0 := row_alloc (heap_new w (.cells (stepV c0 c1 c2 mp tb 18 sa ib ic) 124)) act0
  have hr1 := heap_new (w.alloc (.cells (stepV c0 c1 c2 mp tb 18 sa ib ic) 124)) act0
  rw [show (w.alloc (.cells (stepV c0 c1 c2 mp tb 18 sa ib ic) 124)).heap.size = w.heap.size + 1 from by simp] at hr1
  obtain ⟨W, hW⟩ : ∃ W, W = (w.alloc (.cells (stepV c0 c1 c2 mp tb 18 sa ib ic) 124)).alloc act0 := ⟨_, rfl⟩
  rw [← hW] at hb1 hr0 hr1
  have HFLT := Lib.hid h.flt
  have HOUT := Lib.hid (fun k (hk : X.D k) => (h.out k hk).2)
  have hwz : W.heap.size = w.heap.size + 2 := by rw [hW]; simp
  unfold act0 at hW hr1
  unfold stepV at hW hr0
  have HW := Lib.hid hW
  have k4 : W.cell? ⟨w.heap.size, 4, none⟩ = some (.pointer (some ⟨tb, 0, none⟩)) := (row_cell hr0 4).1
  have k5 : W.cell? ⟨w.heap.size, 5, none⟩ = some (.int .i64 18) := (row_cell hr0 5).1
  have k6 : W.cell? ⟨w.heap.size, 6, none⟩ = some (.int .i64 sa) := (row_cell hr0 6).1
  have k7 : W.cell? ⟨w.heap.size, 7, none⟩ = some (.int .i64 ib) := (row_cell hr0 7).1
  have k8 : W.cell? ⟨w.heap.size, 8, none⟩ = some (.int .i64 ic) := (row_cell hr0 8).1
  have HRR := Lib.hid (Below.refl W.heap.size W)
  clear hb0 hW
  have HB1 := Lib.hid hb1; clear hb1
  have HR1 := Lib.hid hr1; clear hr1
  have HR0 := Lib.hid hr0; clear hr0
  have HWZ := Lib.hid hwz; clear hwz
  unfold stepV
  go_enter Tryz.func99, Tryz.ntmps99
  go_upto_region 1 with fail
  rw [← HW.out]
  go_cut [3, 4] (fun x y wx => ∃ z : Nat, x = .pointer (some ⟨z, 0, none⟩) ∧ y = .pointer (some ⟨tb, 0, none⟩) ∧ wx.heap[z]? = some (.cells #[.int .i64 18, .int .i64 sa, .int .i64 ib, .int .i64 ic] 59) ∧ w.heap.size + 2 ≤ z ∧ Below W.heap.size W wx)
  case first =>
    have bs := World.block_lt k4
    dsimp only at bs
    go_region
    all_goals
      go_wp2_with fail
      go_meet
      case rel => exact ⟨_, rfl, rfl, heap_new _ _, by have := HWZ.out; omega, (HRR.out.drew).alloc (HRR.out.size) _⟩
  case rest =>
    obtain ⟨z, rfl, rfl, hz, hzl, hR⟩ := hcut
    have hbc := HB1.out.trans (hR.mono HB1.out.size)
    have hrb := (Fr.of_below hR (fun _ => False)).heap HR0.out (fun h => h)
    have hrc := (Fr.of_below hR (fun _ => False)).heap HR1.out (fun h => h)
    have HBC := Lib.hid hbc
    have HSZ := Lib.hid (show w.heap.size + 2 ≤ wc.heap.size from by have := hR.size; have := HWZ.out; omega)
    have HRW := Lib.hid (fun wx (hw : Below wc.heap.size wc wx) => (Fr.of_below hw (fun _ => False)).heap hrc (fun h => h))
    have HSS := Lib.hid (show ∀ wx, Below wc.heap.size wc wx → wx.cell? ⟨w.heap.size, 0, none⟩ = some (c0) ∧ wx.cell? ⟨w.heap.size, 1, none⟩ = some (c1) ∧ wx.cell? ⟨w.heap.size, 2, none⟩ = some (c2) ∧ wx.cell? ⟨w.heap.size, 3, none⟩ = some (mp) ∧ wx.cell? ⟨w.heap.size, 4, none⟩ = some (.pointer (some ⟨tb, 0, none⟩)) ∧ wx.cell? ⟨w.heap.size, 5, none⟩ = some (.int .i64 18) ∧ wx.cell? ⟨w.heap.size, 6, none⟩ = some (.int .i64 sa) ∧ wx.cell? ⟨w.heap.size, 7, none⟩ = some (.int .i64 ib) ∧ wx.cell? ⟨w.heap.size, 8, none⟩ = some (.int .i64 ic) ∧ wx.cell? ⟨z, 0, none⟩ = some (.int .i64 18) ∧ wx.cell? ⟨z, 1, none⟩ = some (.int .i64 sa) ∧ wx.cell? ⟨z, 2, none⟩ = some (.int .i64 ib) ∧ wx.cell? ⟨z, 3, none⟩ = some (.int .i64 ic) from fun wx hw => by
      have g1 := (Fr.of_below hw (fun _ => False)).heap hrb (fun h => h)
      have g2 := (Fr.of_below hw (fun _ => False)).heap hz (fun h => h)
      exact ⟨(row_cell g1 0).1, (row_cell g1 1).1, (row_cell g1 2).1, (row_cell g1 3).1, (row_cell g1 4).1, (row_cell g1 5).1, (row_cell g1 6).1, (row_cell g1 7).1, (row_cell g1 8).1, (row_cell g2 0).1, (row_cell g2 1).1, (row_cell g2 2).1, (row_cell g2 3).1⟩)
    have hSd := HSS.out wc.drew (Below.refl wc.heap.size wc).drew
    have HRC := Lib.hid (Below.refl wc.heap.size wc)
    have HRD := Lib.hid (Below.refl wc.heap.size wc).drew
    have z0 : wc.cell? ⟨z, 0, none⟩ = some (.int .i64 18) := (row_cell hz 0).1
    clear hR hrb hrc hz k4 k5 k6 k7 k8 hbc
    clear hSd
    have z2 := (HSS.out _ HRC.out).2.2.2.2.2.2.2.2.2.2.2.1
    go_upto_region 4 with fail
    go_wp2_with fail
    refine (PL.out _ HBC.out).mono ?_
    rintro e w4 ⟨rfl, hb4⟩
    have HW4 := Lib.hid hb4
    clear hb4 z0 z2
    go_upto_region 5 with fail
    have hto := fun wx (hx : Below w4.heap.size w4 wx) => HW4.out.trans (hx.mono HW4.out.size)
    have HKK := Lib.hid (fun wx (hx : Below w4.heap.size w4 wx) => HSS.out wx (hto wx hx))
    have fn4 := fun wx (hx : Below w4.heap.size w4 wx) => (FNC.out wx (HBC.out.trans ((hto wx hx).mono HBC.out.size))).mono (fun e w' he => (show e = .returned (.int .i64 j) ∧ Below wx.heap.size wx w' from ⟨he.1, by obtain ⟨m, hm⟩ := he.2; rw [hm]; exact below_drewN (Below.refl _ _) m⟩))
    have ob4 := fun wx (hx : Below w4.heap.size w4 wx) => OB.out wx (HBC.out.trans ((hto wx hx).mono HBC.out.size))
    clear hto
    have FN4 := Lib.hid fn4; clear fn4
    have OB4 := Lib.hid ob4; clear ob4
    refine wp_region_noPanic ?_
    refine wp_region_held_drew (S := fun w' => Below w4.heap.size w4 w') (by kernel_rfl) (Below.refl _ _).drew (fun _ => ?_)
    have HR1 := Lib.hid (Below.refl w4.heap.size w4).drew
    generalize w4.drew = r1 at *
    refine wpAnyH_take (i := 0) (v := ?_) rfl (by kernel_rfl) (by kernel_rfl) (by kernel_rfl) (fun _ _ _ h => h) (Or.inl ⟨by kernel_rfl, ?tq1⟩) HR1.out ?_
    case tq1 => (intro wq hq; obtain ⟨f0, f1, f2, f3, f4, f5, f6, f7, f8, f9, f10, f11, f12⟩ := HKK.out wq hq; go_simp; first | done | with_reducible rfl)
    refine wpAnyH_take (i := 1) (v := ?_) rfl (by kernel_rfl) (by kernel_rfl) (by kernel_rfl) (fun _ _ _ h => h) (Or.inl ⟨by kernel_rfl, ?tq2⟩) HR1.out ?_
    case tq2 => (intro wq hq; obtain ⟨f0, f1, f2, f3, f4, f5, f6, f7, f8, f9, f10, f11, f12⟩ := HKK.out wq hq; go_simp; first | done | with_reducible rfl)
    refine wpAnyH_take (i := 2) (v := ?_) rfl (by kernel_rfl) (by kernel_rfl) (by kernel_rfl) (fun _ _ _ h => h) (Or.inl ⟨by kernel_rfl, ?tq3⟩) HR1.out ?_
    case tq3 => (intro wq hq; obtain ⟨f0, f1, f2, f3, f4, f5, f6, f7, f8, f9, f10, f11, f12⟩ := HKK.out wq hq; go_simp; first | done | with_reducible rfl)
    refine wpAnyH_take (i := 4) (v := ?_) rfl (by kernel_rfl) (by kernel_rfl) (by kernel_rfl) (fun _ _ _ h => h) (Or.inl ⟨by kernel_rfl, ?tq4⟩) HR1.out ?_
    case tq4 => (intro wq hq; obtain ⟨f0, f1, f2, f3, f4, f5, f6, f7, f8, f9, f10, f11, f12⟩ := HKK.out wq hq; go_simp; first | done | with_reducible rfl)
    refine wpAnyH_take (i := 5) (v := ?_) rfl (by kernel_rfl) (by kernel_rfl) (by kernel_rfl) (fun _ _ _ h => h) (Or.inl ⟨by kernel_rfl, ?tq5⟩) HR1.out ?_
    case tq5 => (intro wq hq; obtain ⟨f0, f1, f2, f3, f4, f5, f6, f7, f8, f9, f10, f11, f12⟩ := HKK.out wq hq; go_simp; first | done | with_reducible rfl)
    refine wpAnyH_ready (rs := [3]) (by kernel_rfl) (by simp) ?_
    refine (AllReadyH.cons rfl (fun K hK => ?_) AllReadyH.nil)
    go_simp
    go_at_call 38
    refine (FN4.out r1 HR1.out).mono ?_
    rintro e r2 ⟨rfl, hb⟩
    have HR2 := Lib.hid (HR1.out.trans (hb.mono HR1.out.size))
    clear hb
    refine hK.out _ _ HR2.out (fun _ => ?_)
    clear hK K
    refine wpAnyH_ready (rs := [6]) (by kernel_rfl) (by simp) ?_
    refine (AllReadyH.cons rfl (fun K hK => ?_) AllReadyH.nil)
    go_simp
    go_at_call 55
    refine (OB4.out r2 HR2.out).mono ?_
    rintro e r3 ⟨rfl, hb⟩
    have HR3 := Lib.hid (HR2.out.trans (hb.mono HR2.out.size))
    clear hb
    refine hK.out _ _ HR3.out (fun _ => ?_)
    clear hK K
    refine wpAnyH_take (i := 7) (v := ?_) rfl (by kernel_rfl) (by kernel_rfl) (by kernel_rfl) (fun _ _ _ h => h) (Or.inl ⟨by kernel_rfl, ?tq6⟩) HR3.out ?_
    case tq6 => (intro wq hq; obtain ⟨f0, f1, f2, f3, f4, f5, f6, f7, f8, f9, f10, f11, f12⟩ := HKK.out wq hq; go_simp; first | done | with_reducible rfl)
    refine wpAnyH_take (i := 8) (v := ?_) rfl (by kernel_rfl) (by kernel_rfl) (by kernel_rfl) (fun _ _ _ h => h) (Or.inl ⟨by kernel_rfl, ?tq7⟩) HR3.out ?_
    case tq7 => (intro wq hq; obtain ⟨f0, f1, f2, f3, f4, f5, f6, f7, f8, f9, f10, f11, f12⟩ := HKK.out wq hq; go_simp; first | done | with_reducible rfl)
    refine wpAnyH_take (i := 9) (v := ?_) rfl (by kernel_rfl) (by kernel_rfl) (by kernel_rfl) (fun _ _ _ h => h) (Or.inl ⟨by kernel_rfl, ?tq8⟩) HR3.out ?_
    case tq8 => (intro wq hq; obtain ⟨f0, f1, f2, f3, f4, f5, f6, f7, f8, f9, f10, f11, f12⟩ := HKK.out wq hq; go_simp; first | done | with_reducible rfl)
    refine wpAnyH_ready (rs := [10]) (by kernel_rfl) (by simp) ?_
    refine (AllReadyH.cons rfl (fun K hK => ?_) AllReadyH.nil)
    go_simp
    refine hK.out _ _ HR3.out (fun _ => ?_)
    clear hK K
    refine wpAnyH_ready (rs := [11]) (by kernel_rfl) (by simp) ?_
    refine (AllReadyH.cons rfl (fun K hK => ?_) AllReadyH.nil)
    go_simp
    refine hK.out _ _ HR3.out (fun _ => ?_)
    clear hK K
    refine wpAnyH_done (by kernel_rfl) ?_ _
    refine NoPanic.normal ?_
    go_wp2_with fail
    go_loopw [34] (fun i wr => ∃ k : Nat, k ≤ n ∧ i = .int .i64 k ∧ TaskAt wr F tb p ⟨T.base, clearL T.words o k, T.parts, T.marks⟩ X ∧ Fr F r3 wr) (fun i _ => n - (intOf i).toNat)
    case atStart => exact ⟨0, Nat.zero_le _, rfl, HT0.out.below (HBC.out.trans ((HW4.out.trans (HR3.out.mono HW4.out.size)).mono HBC.out.size)), Fr.refl _ _⟩
    case round =>
      obtain ⟨k, hk, rfl, hT1, hf1⟩ := hrel
      by_cases hlt : k < n
      · obtain ⟨k1, hk1⟩ : ∃ k1, k1 = k + 1 := ⟨_, rfl⟩
        have i1 : IntKind.i64.wrap ((k : Int) + 1) = (k1 : Int) := by rw [show ((k : Int) + 1) = (k1 : Int) from by omega]; exact IntWalk.i64_in _ (by omega)
        have i2 : IntKind.i64.wrap (at_ + (k : Int)) = at_ + (k : Int) := IntWalk.i64_in _ (by omega)
        have pk := PU.out wr k hlt hT1
        rw [← clearL_succ, ← hk1] at pk
        have hle : k1 ≤ n := by omega
        clear hT1
        have PK := Lib.hid pk; clear pk
        have HF1 := Lib.hid hf1; clear hf1
        have HK1 := Lib.hid hk1; clear hk1
        go_wp2_with fail
        refine PK.out.mono ?_
        rintro e w7 ⟨rfl, hT2, hf2⟩
        have hf2 := HF1.out.trans hf2 (fun _ _ h => h)
        clear PK HF1
        have HT2 := Lib.hid hT2; clear hT2
        have HF2 := Lib.hid hf2; clear hf2
        go_wp2_with fail
        go_roundw
        case rel => exact ⟨k1, hle, by go_num, HT2.out, HF2.out⟩
        case measure => have := HK1.out; simp [intOf]; omega
      · have hk' : k = n := by omega
        subst hk'
        have hb0r := HW4.out.trans (HR3.out.mono HW4.out.size)
        have hrr := hf1.heap (HRW.out _ hb0r) (fun e => by have := HFLT.out (w.heap.size + 1) e; omega)
        have hS := HSS.out _ hb0r
        have hnF : ¬ F w.heap.size := fun e => Nat.lt_irrefl _ (HFLT.out w.heap.size e)
        have hnZ : ¬ F z := fun e => by have := HFLT.out z e; omega
        have y0 := hf1.cell hS.1 hnF
        have y1 := hf1.cell hS.2.1 hnF
        have y2 := hf1.cell hS.2.2.1 hnF
        have y3 := hf1.cell hS.2.2.2.1 hnF
        have y4 := hf1.cell hS.2.2.2.2.1 hnF
        have y5 := hf1.cell hS.2.2.2.2.2.1 hnF
        have y6 := hf1.cell hS.2.2.2.2.2.2.1 hnF
        have y7 := hf1.cell hS.2.2.2.2.2.2.2.1 hnF
        have y8 := hf1.cell hS.2.2.2.2.2.2.2.2.1 hnF
        have z1 := hf1.cell hS.2.2.2.2.2.2.2.2.2.2.1 hnZ
        have st := ST.out wr hT1
        have hfr := (Fr.of_below (HBC.out.trans (hb0r.mono HBC.out.size)) F).trans hf1 (fun _ _ h => h)
        unfold stepV at st
        clear hS hb0r hT1 hf1
        have ST := Lib.hid st; clear st
        have HRR := Lib.hid hrr; clear hrr
        have HFR := Lib.hid hfr; clear hfr
        have HNF := Lib.hid hnF; clear hnF
        go_wp2_with fail
        refine ST.out.mono ?_
        rintro e w5 ⟨rfl, hT5, hf5⟩
        have hr5 := hf5.heap HRR.out (fun e => by have := HFLT.out (w.heap.size + 1) e; omega)
        have hfw := HFR.out.trans hf5 (fun _ _ h => h)
        obtain ⟨F', X', hT5, hXD, hF'⟩ : ∃ F' X', TaskAt w5 F' tb p _ X' ∧ X'.D = X.D ∧ (∀ k, F' k → F k ∨ w.heap.size + 2 ≤ k) := ⟨F, X, hT5, rfl, fun _ h => .inl h⟩
        clear y0 y1 y2 y3 y4 y5 y6 y7 y8 z1 hf5
        obtain ⟨⟨u0, u1, u2, u3, u4, u5, u6⟩, n0, n1, n2, n3, n4, n5, n6⟩ := seven_cells hr5
        have hfs := seven_fr w5 (.int .i64 0) (.int .i64 0) (.int .i64 0) (.int .i64 0) (.int .i64 0) (.bool false) (.slice none 0 0) (w.heap.size + 1)
        have hrs := seven_row hr5 (.int .i64 0) (.int .i64 0) (.int .i64 0) (.int .i64 0) (.int .i64 0) (.bool false) (.slice none 0 0)
        have hFz : ∀ q, F' q → q ≠ w.heap.size + 1 := fun q hq e => by
          rcases hF' q hq with h1 | h1
          · have := HFLT.out q h1; omega
          · omega
        have hT6 := hT5.fr hfs (fun q hq e => hFz q hq e) (fun q hq e => by rw [hXD] at hq; have := HOUT.out q hq; have e : q = w.heap.size + 1 := e; omega)
        have hf6 := hfw.trans hfs (fun q hq e => by have e : q = w.heap.size + 1 := e; omega)
        have hF6 : ∀ q, F' q → F q ∨ w.heap.size ≤ q := fun q hq => (hF' q hq).imp id (fun h1 => by omega)
        have HPP := Lib.hid (show RunPost w F tb p X _ (actV 0 0 0 0 0 false (.slice none 0 0)) _ _ from ⟨rfl, F', X', hT6, hXD, hF6, hf6⟩)
        clear hfs hr5 hT5 hT6 hfw hf6 hF6 hFz hF' hXD
        have HRS := Lib.hid hrs; clear hrs
        unfold actV
        go_wp2_with fail
        refine bodyPost_ret ?_ rfl HPP.out
        have k0 := (row_cell HRS.out 0).1; have k1 := (row_cell HRS.out 1).1; have k2 := (row_cell HRS.out 2).1; have k3 := (row_cell HRS.out 3).1; have k4 := (row_cell HRS.out 4).1; have k5 := (row_cell HRS.out 5).1; have k6 := (row_cell HRS.out 6).1; simp at k0 k1 k2 k3 k4 k5 k6; simp [results, Tryz.results99, go_sem, k0, k1, k2, k3, k4, k5, k6, actV]
end Go.Proofs.YthkhgihjigmkoaaGreat.Tk
