import Derived.Test.YthkhgihjigmkoaaGreatCAr
set_option linter.unusedVariables false
set_option linter.unusedSimpArgs false
namespace Go.Proofs.YthkhgihjigmkoaaGreat.Tk
open Go.ChangeShapes Go.WideShapes Go.ChangeAt Go.RowKit Go.Maps
theorem spot_snoc {SP : Nat → SpotV → Prop} {fr : List SpotV} {s : SpotV} (h : ∀ d (hd : d < fr.length), SP d fr[d]) (hs : SP fr.length s) : ∀ d (hd : d < (fr ++ [s]).length), SP d (fr ++ [s])[d] := fun d hd => by
 rcases Nat.lt_or_ge d fr.length with h1 | h1
 ·rw [List.getElem_append_left h1]
  exact h d h1
 ·have e : d = fr.length := by simp at hd; omega
  subst e
  rw [List.getElem_concat_length rfl]
  exact hs
def RowsG (w : World) (B : Nat) (sl : Nat → Nat) (fr : List SpotV) (A C : Nat → List Int) : Prop := ∀ d (hd : d < fr.length), Own intE w B (.slice fr[d].a7 (sl d) fr[d].c7) (A d) ∧ Own intE w B (.slice fr[d].a8 fr[d].n8 fr[d].c8) (C d)
theorem RowsG.fr {w1 w2 : World} {B : Nat} {sl : Nat → Nat} {fr : List SpotV} {A C : Nat → List Int} (h : RowsG w1 B sl fr A C) {G : Nat → Prop} (hf : Fr G w1 w2) (hG : ∀ b cs f, w1.heap[b]? = some (.cells cs 3 f) → ¬ G b) : RowsG w2 B sl fr A C :=
 fun d hd => ⟨own_keep (h d hd).1 hf hG, own_keep (h d hd).2 hf hG⟩
theorem RowsG.snoc {w : World} {B : Nat} {sl : Nat → Nat} {fr : List SpotV} {A C : Nat → List Int} (h : RowsG w B sl fr A C) (s : SpotV) (h1 : Own intE w B (.slice s.a7 (sl fr.length) s.c7) (A fr.length)) (h2 : Own intE w B (.slice s.a8 s.n8 s.c8) (C fr.length)) : RowsG w B sl (fr ++ [s]) A C := fun d hd => by
 rcases Nat.lt_or_ge d fr.length with h3 | h3
 ·rw [List.getElem_append_left h3]
  exact h d h3
 ·have h4 : d = fr.length := by simp at hd; omega
  subst h4
  simp
  exact ⟨h1, h2⟩
set_option maxRecDepth 100000 in
set_option maxHeartbeats 3200000 in
theorem life3_any (w : World) (F : Nat → Prop) (tb : Nat) (p : TPrg) (T : Tk) (X : TB) (h : TaskAt w F tb p T X) (hlen : T.parts.length ≤ 1000) (hth : ∀ q ∈ T.parts, q.tn = 0) (sl : Nat → Nat) (A C : Nat → List Int) (SP : Nat → SpotV → Prop) (hal : X.al.length ≤ 100000)
  (hspot : ∀ wr, Below w.heap.size w wr → ∀ d : Nat, d < T.parts.length → Calls Tryz.prog 63 #[.pointer (some ⟨tb, 0, none⟩), .int .i64 d] wr fun e w' => ∃ s : SpotV, SP d ⟨s.x0, s.x1, s.x2, s.b3, s.b4, s.x5, s.b6, s.a7, sl d, s.c7, s.a8, s.n8, s.c8⟩ ∧ e = .returned (.agg #[.int .i64 s.x0, .int .i64 s.x1, .int .i64 s.x2, .bool s.b3, .bool s.b4, .int .i64 s.x5, .bool s.b6, .slice s.a7 (sl d) s.c7, .slice s.a8 s.n8 s.c8]) ∧ Own intE w' (wr.heap.size + 1) (.slice s.a7 (sl d) s.c7) (A d) ∧ Own intE w' (wr.heap.size + 1) (.slice s.a8 s.n8 s.c8) (C d) ∧ Below wr.heap.size wr w') :
  Calls Tryz.prog 21 #[.pointer (some ⟨tb, 0, none⟩)] w fun e w' => ∃ (fr : List SpotV) (v av : Value) (g1 : Option Addr) (g2 g3 : Nat), e = .returned (.agg #[.int .i64 0, .int .i64 T.base, .int .i64 T.words.length, v, .slice g1 g2 g3, av, .bool false]) ∧ Own alarmE w' w.heap.size av X.al ∧ (∀ d (hd : d < fr.length), SP d fr[d]) ∧ Own spotE w' w.heap.size v fr ∧ fr.length = T.parts.length ∧ (∀ d (hd : d < fr.length), fr[d].n7 = sl d) ∧ RowsG w' w.heap.size sl fr A C ∧ Below w.heap.size w w' := by
 have bs := fun wr (hw : Below w.heap.size w wr) => base_any wr X.sb X.wb T.base T.words (h.below hw).st
 have cp := fun wr (hw : Below w.heap.size w wr) => cap_any wr F tb p T X (h.below hw)
 have ca := fun wr (hw : Below w.heap.size w wr) => cloneAlarms_any wr 0 X.av X.al (h.below hw).alarms hal
 obtain ⟨a6, n6, c6, hav⟩ := h.alarms.slice
 rw [hav] at ca
 have hb1 := (Below.refl w.heap.size w).alloc (Nat.le_refl _) (.cells #[.int .i64 0, .int .i64 0, .int .i64 0, .slice none 0 0, .slice none 0 0, .slice none 0 0, .bool false] 47)
 have hrow := heap_new w (.cells #[.int .i64 0, .int .i64 0, .int .i64 0, .slice none 0 0, .slice none 0 0, .slice none 0 0, .bool false] 47)
 have hTT : ∀ wr, Below w.heap.size w wr → TaskAt wr F tb p T X := fun wr hw => h.below hw
 have hc := h.below hb1
 obtain ⟨_, _, _, q3, q4, _, q6, _⟩ := hc.cells
 obtain ⟨W, hW⟩ : ∃ W, W = w.alloc (.cells #[.int .i64 0, .int .i64 0, .int .i64 0, .slice none 0 0, .slice none 0 0, .slice none 0 0, .bool false] 47) := ⟨_, rfl⟩
 rw [← hW] at hb1 hrow q3 q4 q6
 rw [hav] at q6
 clear hav
 have HW := Lib.hid hW
 clear hW hc h
 have BS := Lib.hid bs; clear bs
 have CP := Lib.hid cp; clear cp
 have CA := Lib.hid ca; clear ca
 have HB1 := Lib.hid hb1; clear hb1
 have HROW := Lib.hid hrow; clear hrow
 have HTT := Lib.hid hTT; clear hTT
 have HSPOT := Lib.hid hspot; clear hspot
 go_enter Tryz.func21, Tryz.ntmps21
 go_upto_region 1 with fail
 rw [← HW.out]
 go_upto_region 3 with fail
 have hr0 := HB1.out.drew
 have hr1 := (HB1.out.alloc HB1.out.size (.cells #[.int .i64 0, .int .i64 0, .int .i64 0, .slice none 0 0, .slice none 0 0, .slice none 0 0, .bool false] 47)).drew
 have hw0 := Below.refl W.heap.size W
 have HR0 := Lib.hid hr0; clear hr0
 have HR1 := Lib.hid hr1; clear hr1
 have HW0 := Lib.hid hw0; clear hw0
 go_cut [3] (fun t wx => ∃ z a9 n9 c9, t = .pointer (some ⟨z, 0, none⟩) ∧ wx.heap[z]? = some (.cells #[.int .i64 0, .int .i64 T.base, .int .i64 T.words.length, .slice none 0 0, .slice none 0 0, .slice a9 n9 c9, .bool false] 47) ∧ Own alarmE wx W.heap.size (.slice a9 n9 c9) X.al ∧ W.heap.size ≤ z ∧ Below W.heap.size W wx)
 case first =>
  have HKK := Lib.hid (fun wx (hx : Below W.heap.size W wx) => And.intro (below_cell hx q3) (below_cell hx q6))
  have hto := fun wx (hx : Below W.heap.size W wx) => HB1.out.trans (hx.mono HB1.out.size)
  have bsb := fun wx (hx : Below W.heap.size W wx) => (BS.out wx (hto wx hx)).mono (fun e w' he => (show e = .returned (.int .i64 T.base) ∧ Below wx.heap.size wx w' from ⟨he.1, by rw [← he.2]; exact Below.refl _ _⟩))
  have cpb := fun wx (hx : Below W.heap.size W wx) => (CP.out wx (hto wx hx)).mono (fun e w' he => (show e = .returned (.int .i64 T.words.length) ∧ Below wx.heap.size wx w' from ⟨he.1, by rw [← he.2]; exact Below.refl _ _⟩))
  have cab := fun wx (hx : Below W.heap.size W wx) => (CA.out wx (hto wx hx)).mono (fun e w' he => (show ∃ v', e = .returned v' ∧ Own alarmE w' W.heap.size v' X.al ∧ Below wx.heap.size wx w' from by obtain ⟨v', h1, h2, h3⟩ := he; exact ⟨v', h1, h2.base (fun k hk => Nat.le_trans hx.size (own_base h2 hk)), h3⟩))
  clear hto
  have BSB := Lib.hid bsb; clear bsb
  have CPB := Lib.hid cpb; clear cpb
  have CAB := Lib.hid cab; clear cab
  refine wp_region_noPanic ?_
  refine wp_region_held_drew (S := fun w' => Below W.heap.size W w') (by kernel_rfl) (Below.refl _ _).drew (fun _ => ?_)
  have HR1 := Lib.hid (Below.refl W.heap.size W).drew
  generalize W.drew = r1 at *
  refine wpAnyH_take (i := 0) (v := ?_) rfl (by kernel_rfl) (by kernel_rfl) (by kernel_rfl) (fun _ _ _ h => h) (Or.inl ⟨by kernel_rfl, ?tq1⟩) HR1.out ?_
  case tq1 => (intro wq hq; obtain ⟨f0, f1⟩ := HKK.out wq hq; go_simp; first | done | with_reducible rfl)
  refine wpAnyH_take (i := 1) (v := ?_) rfl (by kernel_rfl) (by kernel_rfl) (by kernel_rfl) (fun _ _ _ h => h) (Or.inl ⟨by kernel_rfl, ?tq2⟩) HR1.out ?_
  case tq2 => (intro wq hq; obtain ⟨f0, f1⟩ := HKK.out wq hq; go_simp; first | done | with_reducible rfl)
  refine wpAnyH_take (i := 2) (v := ?_) rfl (by kernel_rfl) (by kernel_rfl) (by kernel_rfl) (fun _ _ _ h => h) (Or.inl ⟨by kernel_rfl, ?tq3⟩) HR1.out ?_
  case tq3 => (intro wq hq; obtain ⟨f0, f1⟩ := HKK.out wq hq; go_simp; first | done | with_reducible rfl)
  refine wpAnyH_take (i := 3) (v := ?_) rfl (by kernel_rfl) (by kernel_rfl) (by kernel_rfl) (fun _ _ _ h => h) (Or.inl ⟨by kernel_rfl, ?tq4⟩) HR1.out ?_
  case tq4 => (intro wq hq; obtain ⟨f0, f1⟩ := HKK.out wq hq; go_simp; first | done | with_reducible rfl)
  refine wpAnyH_take (i := 5) (v := ?_) rfl (by kernel_rfl) (by kernel_rfl) (by kernel_rfl) (fun _ _ _ h => h) (Or.inl ⟨by kernel_rfl, ?tq5⟩) HR1.out ?_
  case tq5 => (intro wq hq; obtain ⟨f0, f1⟩ := HKK.out wq hq; go_simp; first | done | with_reducible rfl)
  refine wpAnyH_take (i := 7) (v := ?_) rfl (by kernel_rfl) (by kernel_rfl) (by kernel_rfl) (fun _ _ _ h => h) (Or.inl ⟨by kernel_rfl, ?tq6⟩) HR1.out ?_
  case tq6 => (intro wq hq; obtain ⟨f0, f1⟩ := HKK.out wq hq; go_simp; first | done | with_reducible rfl)
  refine wpAnyH_take (i := 8) (v := ?_) rfl (by kernel_rfl) (by kernel_rfl) (by kernel_rfl) (fun _ _ _ h => h) (Or.inl ⟨by kernel_rfl, ?tq7⟩) HR1.out ?_
  case tq7 => (intro wq hq; obtain ⟨f0, f1⟩ := HKK.out wq hq; go_simp; first | done | with_reducible rfl)
  refine wpAnyH_take (i := 9) (v := ?_) rfl (by kernel_rfl) (by kernel_rfl) (by kernel_rfl) (fun _ _ _ h => h) (Or.inl ⟨by kernel_rfl, ?tq8⟩) HR1.out ?_
  case tq8 => (intro wq hq; obtain ⟨f0, f1⟩ := HKK.out wq hq; go_simp; first | done | with_reducible rfl)
  refine wpAnyH_take (i := 10) (v := ?_) rfl (by kernel_rfl) (by kernel_rfl) (by kernel_rfl) (fun _ _ _ h => h) (Or.inl ⟨by kernel_rfl, ?tq9⟩) HR1.out ?_
  case tq9 => (intro wq hq; obtain ⟨f0, f1⟩ := HKK.out wq hq; go_simp; first | done | with_reducible rfl)
  refine wpAnyH_take (i := 11) (v := ?_) rfl (by kernel_rfl) (by kernel_rfl) (by kernel_rfl) (fun _ _ _ h => h) (Or.inl ⟨by kernel_rfl, ?tq10⟩) HR1.out ?_
  case tq10 => (intro wq hq; obtain ⟨f0, f1⟩ := HKK.out wq hq; go_simp; first | done | with_reducible rfl)
  refine wpAnyH_ready (rs := [4, 14]) (by kernel_rfl) (by simp) ?_
  refine (AllReadyH.cons rfl (fun K hK => ?_) (AllReadyH.cons rfl (fun K hK => ?_) AllReadyH.nil))
  ·skip
   go_simp
   go_at_call 61
   refine (BSB.out r1 HR1.out).mono ?_
   rintro e r2 ⟨rfl, hb⟩
   have HR2 := Lib.hid (HR1.out.trans (hb.mono HR1.out.size))
   clear hb
   refine hK.out _ _ HR2.out (fun _ => ?_)
   clear hK K
   refine wpAnyH_ready (rs := [6, 14]) (by kernel_rfl) (by simp) ?_
   refine (AllReadyH.cons rfl (fun K hK => ?_) (AllReadyH.cons rfl (fun K hK => ?_) AllReadyH.nil))
   ·skip
    go_simp
    go_at_call 37
    refine (CPB.out r2 HR2.out).mono ?_
    rintro e r3 ⟨rfl, hb⟩
    have HR3 := Lib.hid (HR2.out.trans (hb.mono HR2.out.size))
    clear hb
    refine hK.out _ _ HR3.out (fun _ => ?_)
    clear hK K
    refine wpAnyH_ready (rs := [12, 14]) (by kernel_rfl) (by simp) ?_
    refine (AllReadyH.cons rfl (fun K hK => ?_) (AllReadyH.cons rfl (fun K hK => ?_) AllReadyH.nil))
    ·skip
     go_simp
     go_at_call 62
     refine (CAB.out r3 HR3.out).mono ?_
     rintro e r4 ⟨v9, rfl, ho9, hb⟩
     have HR4 := Lib.hid (HR3.out.trans (hb.mono HR3.out.size))
     obtain ⟨a9, n9, c9, rfl⟩ := ho9.slice
     have HO9 := Lib.hid ho9
     clear ho9
     clear hb
     refine hK.out _ _ HR4.out (fun _ => ?_)
     clear hK K
     refine wpAnyH_take (i := 13) (v := ?_) rfl (by kernel_rfl) (by kernel_rfl) (by kernel_rfl) (fun _ _ _ h => h) (Or.inl ⟨by kernel_rfl, ?tq11⟩) HR4.out ?_
     case tq11 => (intro wq hq; obtain ⟨f0, f1⟩ := HKK.out wq hq; go_simp; first | done | with_reducible rfl)
     refine wpAnyH_ready (rs := [14]) (by kernel_rfl) (by simp) ?_
     refine (AllReadyH.cons rfl (fun K hK => ?_) AllReadyH.nil)
     ·skip
      go_simp
      obtain ⟨r5, hr⟩ : ∃ r, r = r4.alloc (.cells #[.int .i64 0, .int .i64 0, .int .i64 0, .slice none 0 0, .slice none 0 0, .slice none 0 0, .bool false] 47) := ⟨_, rfl⟩
      obtain ⟨y, hy⟩ : ∃ y, y = r4.heap.size := ⟨_, rfl⟩
      have hl : r5.heap[y]? = some (.cells #[.int .i64 0, .int .i64 0, .int .i64 0, .slice none 0 0, .slice none 0 0, .slice none 0 0, .bool false] 47) := by rw [hr, hy]; exact heap_new _ _
      have hb : Below r4.heap.size r4 r5 := by rw [hr]; exact (Below.refl _ _).alloc (Nat.le_refl _) _
      rw [← hr, ← hy]
      have hyW : W.heap.size ≤ y := by have := HR4.out.size; omega
      have HR5 := Lib.hid (HR4.out.trans (hb.mono HR4.out.size))
      have HY := Lib.hid hl
      have HO9 := Lib.hid (HO9.out.below hb)
      clear hl hb hr hy
      refine hK.out _ _ HR5.out (fun _ => ?_)
      clear hK K
      refine wpAnyH_ready (rs := [15]) (by kernel_rfl) (by simp) ?_
      refine (AllReadyH.cons rfl (fun K hK => ?_) AllReadyH.nil)
      have k0 := (row_cell HY.out 0).1
      have g0 := (row_cell HY.out 0).2
      have k1 := (row_cell HY.out 1).1
      have g1 := (row_cell HY.out 1).2
      have k2 := (row_cell HY.out 2).1
      have g2 := (row_cell HY.out 2).2
      have k3 := (row_cell HY.out 3).1
      have g3 := (row_cell HY.out 3).2
      have k4 := (row_cell HY.out 4).1
      have g4 := (row_cell HY.out 4).2
      have k5 := (row_cell HY.out 5).1
      have g5 := (row_cell HY.out 5).2
      have k6 := (row_cell HY.out 6).1
      have g6 := (row_cell HY.out 6).2
      simp only [List.getElem?_toArray, List.getElem?_cons_zero, List.getElem?_cons_succ] at k0 k1 k2 k3 k4 k5 k6
      go_simp
      clear k0 k1 k2 k3 k4 k5 k6 g0 g1 g2 g3 g4 g5 g6
      have hl := (row_set (row_set (row_set (row_set (row_set (row_set (row_set HY.out 0 (.int .i64 0)) 1 (.int .i64 T.base)) 2 (.int .i64 T.words.length)) 3 (.slice none 0 0)) 4 (.slice none 0 0)) 5 (.slice a9 n9 c9)) 6 (.bool false))
      simp only [List.setIfInBounds_toArray, List.set_cons_zero, List.set_cons_succ] at hl
      have hf : Fr (fun k => k = y) r5 _ := ((((((((Fr.refl (fun k => k = y) r5).setCell (p := ⟨y, 0, none⟩) (fun _ => rfl) (.int .i64 0)).setCell (p := ⟨y, 1, none⟩) (fun _ => rfl) (.int .i64 T.base)).setCell (p := ⟨y, 2, none⟩) (fun _ => rfl) (.int .i64 T.words.length)).setCell (p := ⟨y, 3, none⟩) (fun _ => rfl) (.slice none 0 0)).setCell (p := ⟨y, 4, none⟩) (fun _ => rfl) (.slice none 0 0)).setCell (p := ⟨y, 5, none⟩) (fun _ => rfl) (.slice a9 n9 c9)).setCell (p := ⟨y, 6, none⟩) (fun _ => rfl) (.bool false))
      generalize ((((((r5.setCell ⟨y, 0, none⟩ (.int .i64 0)).setCell ⟨y, 1, none⟩ (.int .i64 T.base)).setCell ⟨y, 2, none⟩ (.int .i64 T.words.length)).setCell ⟨y, 3, none⟩ (.slice none 0 0)).setCell ⟨y, 4, none⟩ (.slice none 0 0)).setCell ⟨y, 5, none⟩ (.slice a9 n9 c9)).setCell ⟨y, 6, none⟩ (.bool false) = r6 at *
      have HR6 := Lib.hid (HR5.out.trans (hf.below HR5.out.size (fun k hk => by have e : k = y := hk; omega)))
      have HO9 := Lib.hid (HO9.out.fr hf (fun k hk e => by obtain ⟨_, _, c2⟩ := own_row HO9.out hk; exact cells_ne c2 HY.out (by decide) e))
      have HY := Lib.hid hl
      clear hl hf
      refine hK.out _ _ HR6.out (fun _ => ?_)
      clear hK K
      refine wpAnyH_done (by kernel_rfl) ?_ _
      refine NoPanic.normal ?_
      go_wp2_with fail
      go_meet
      case rel => exact ⟨y, a9, n9, c9, rfl, HY.out, HO9.out, hyW, HR6.out⟩
    ·skip
     go_simp
     obtain ⟨r4, hr⟩ : ∃ r, r = r3.alloc (.cells #[.int .i64 0, .int .i64 0, .int .i64 0, .slice none 0 0, .slice none 0 0, .slice none 0 0, .bool false] 47) := ⟨_, rfl⟩
     obtain ⟨y, hy⟩ : ∃ y, y = r3.heap.size := ⟨_, rfl⟩
     have hl : r4.heap[y]? = some (.cells #[.int .i64 0, .int .i64 0, .int .i64 0, .slice none 0 0, .slice none 0 0, .slice none 0 0, .bool false] 47) := by rw [hr, hy]; exact heap_new _ _
     have hb : Below r3.heap.size r3 r4 := by rw [hr]; exact (Below.refl _ _).alloc (Nat.le_refl _) _
     rw [← hr, ← hy]
     have hyW : W.heap.size ≤ y := by have := HR3.out.size; omega
     have HR4 := Lib.hid (HR3.out.trans (hb.mono HR3.out.size))
     have HY := Lib.hid hl
     clear hl hb hr hy
     refine hK.out _ _ HR4.out (fun _ => ?_)
     clear hK K
     refine wpAnyH_ready (rs := [12]) (by kernel_rfl) (by simp) ?_
     refine (AllReadyH.cons rfl (fun K hK => ?_) AllReadyH.nil)
     ·skip
      go_simp
      go_at_call 62
      refine (CAB.out r4 HR4.out).mono ?_
      rintro e r5 ⟨v9, rfl, ho9, hb⟩
      have HR5 := Lib.hid (HR4.out.trans (hb.mono HR4.out.size))
      have HY := Lib.hid ((Fr.of_below hb (fun _ => False)).heap HY.out (fun h => h))
      obtain ⟨a9, n9, c9, rfl⟩ := ho9.slice
      have HO9 := Lib.hid ho9
      clear ho9
      clear hb
      refine hK.out _ _ HR5.out (fun _ => ?_)
      clear hK K
      refine wpAnyH_take (i := 13) (v := ?_) rfl (by kernel_rfl) (by kernel_rfl) (by kernel_rfl) (fun _ _ _ h => h) (Or.inl ⟨by kernel_rfl, ?tq12⟩) HR5.out ?_
      case tq12 => (intro wq hq; obtain ⟨f0, f1⟩ := HKK.out wq hq; go_simp; first | done | with_reducible rfl)
      refine wpAnyH_ready (rs := [15]) (by kernel_rfl) (by simp) ?_
      refine (AllReadyH.cons rfl (fun K hK => ?_) AllReadyH.nil)
      have k0 := (row_cell HY.out 0).1
      have g0 := (row_cell HY.out 0).2
      have k1 := (row_cell HY.out 1).1
      have g1 := (row_cell HY.out 1).2
      have k2 := (row_cell HY.out 2).1
      have g2 := (row_cell HY.out 2).2
      have k3 := (row_cell HY.out 3).1
      have g3 := (row_cell HY.out 3).2
      have k4 := (row_cell HY.out 4).1
      have g4 := (row_cell HY.out 4).2
      have k5 := (row_cell HY.out 5).1
      have g5 := (row_cell HY.out 5).2
      have k6 := (row_cell HY.out 6).1
      have g6 := (row_cell HY.out 6).2
      simp only [List.getElem?_toArray, List.getElem?_cons_zero, List.getElem?_cons_succ] at k0 k1 k2 k3 k4 k5 k6
      go_simp
      clear k0 k1 k2 k3 k4 k5 k6 g0 g1 g2 g3 g4 g5 g6
      have hl := (row_set (row_set (row_set (row_set (row_set (row_set (row_set HY.out 0 (.int .i64 0)) 1 (.int .i64 T.base)) 2 (.int .i64 T.words.length)) 3 (.slice none 0 0)) 4 (.slice none 0 0)) 5 (.slice a9 n9 c9)) 6 (.bool false))
      simp only [List.setIfInBounds_toArray, List.set_cons_zero, List.set_cons_succ] at hl
      have hf : Fr (fun k => k = y) r5 _ := ((((((((Fr.refl (fun k => k = y) r5).setCell (p := ⟨y, 0, none⟩) (fun _ => rfl) (.int .i64 0)).setCell (p := ⟨y, 1, none⟩) (fun _ => rfl) (.int .i64 T.base)).setCell (p := ⟨y, 2, none⟩) (fun _ => rfl) (.int .i64 T.words.length)).setCell (p := ⟨y, 3, none⟩) (fun _ => rfl) (.slice none 0 0)).setCell (p := ⟨y, 4, none⟩) (fun _ => rfl) (.slice none 0 0)).setCell (p := ⟨y, 5, none⟩) (fun _ => rfl) (.slice a9 n9 c9)).setCell (p := ⟨y, 6, none⟩) (fun _ => rfl) (.bool false))
      generalize ((((((r5.setCell ⟨y, 0, none⟩ (.int .i64 0)).setCell ⟨y, 1, none⟩ (.int .i64 T.base)).setCell ⟨y, 2, none⟩ (.int .i64 T.words.length)).setCell ⟨y, 3, none⟩ (.slice none 0 0)).setCell ⟨y, 4, none⟩ (.slice none 0 0)).setCell ⟨y, 5, none⟩ (.slice a9 n9 c9)).setCell ⟨y, 6, none⟩ (.bool false) = r6 at *
      have HR6 := Lib.hid (HR5.out.trans (hf.below HR5.out.size (fun k hk => by have e : k = y := hk; omega)))
      have HO9 := Lib.hid (HO9.out.fr hf (fun k hk e => by obtain ⟨_, _, c2⟩ := own_row HO9.out hk; exact cells_ne c2 HY.out (by decide) e))
      have HY := Lib.hid hl
      clear hl hf
      refine hK.out _ _ HR6.out (fun _ => ?_)
      clear hK K
      refine wpAnyH_done (by kernel_rfl) ?_ _
      refine NoPanic.normal ?_
      go_wp2_with fail
      go_meet
      case rel => exact ⟨y, a9, n9, c9, rfl, HY.out, HO9.out, hyW, HR6.out⟩
   ·skip
    go_simp
    obtain ⟨r3, hr⟩ : ∃ r, r = r2.alloc (.cells #[.int .i64 0, .int .i64 0, .int .i64 0, .slice none 0 0, .slice none 0 0, .slice none 0 0, .bool false] 47) := ⟨_, rfl⟩
    obtain ⟨y, hy⟩ : ∃ y, y = r2.heap.size := ⟨_, rfl⟩
    have hl : r3.heap[y]? = some (.cells #[.int .i64 0, .int .i64 0, .int .i64 0, .slice none 0 0, .slice none 0 0, .slice none 0 0, .bool false] 47) := by rw [hr, hy]; exact heap_new _ _
    have hb : Below r2.heap.size r2 r3 := by rw [hr]; exact (Below.refl _ _).alloc (Nat.le_refl _) _
    rw [← hr, ← hy]
    have hyW : W.heap.size ≤ y := by have := HR2.out.size; omega
    have HR3 := Lib.hid (HR2.out.trans (hb.mono HR2.out.size))
    have HY := Lib.hid hl
    clear hl hb hr hy
    refine hK.out _ _ HR3.out (fun _ => ?_)
    clear hK K
    refine wpAnyH_ready (rs := [6]) (by kernel_rfl) (by simp) ?_
    refine (AllReadyH.cons rfl (fun K hK => ?_) AllReadyH.nil)
    ·skip
     go_simp
     go_at_call 37
     refine (CPB.out r3 HR3.out).mono ?_
     rintro e r4 ⟨rfl, hb⟩
     have HR4 := Lib.hid (HR3.out.trans (hb.mono HR3.out.size))
     have HY := Lib.hid ((Fr.of_below hb (fun _ => False)).heap HY.out (fun h => h))
     clear hb
     refine hK.out _ _ HR4.out (fun _ => ?_)
     clear hK K
     refine wpAnyH_ready (rs := [12]) (by kernel_rfl) (by simp) ?_
     refine (AllReadyH.cons rfl (fun K hK => ?_) AllReadyH.nil)
     ·skip
      go_simp
      go_at_call 62
      refine (CAB.out r4 HR4.out).mono ?_
      rintro e r5 ⟨v9, rfl, ho9, hb⟩
      have HR5 := Lib.hid (HR4.out.trans (hb.mono HR4.out.size))
      have HY := Lib.hid ((Fr.of_below hb (fun _ => False)).heap HY.out (fun h => h))
      obtain ⟨a9, n9, c9, rfl⟩ := ho9.slice
      have HO9 := Lib.hid ho9
      clear ho9
      clear hb
      refine hK.out _ _ HR5.out (fun _ => ?_)
      clear hK K
      refine wpAnyH_take (i := 13) (v := ?_) rfl (by kernel_rfl) (by kernel_rfl) (by kernel_rfl) (fun _ _ _ h => h) (Or.inl ⟨by kernel_rfl, ?tq13⟩) HR5.out ?_
      case tq13 => (intro wq hq; obtain ⟨f0, f1⟩ := HKK.out wq hq; go_simp; first | done | with_reducible rfl)
      refine wpAnyH_ready (rs := [15]) (by kernel_rfl) (by simp) ?_
      refine (AllReadyH.cons rfl (fun K hK => ?_) AllReadyH.nil)
      have k0 := (row_cell HY.out 0).1
      have g0 := (row_cell HY.out 0).2
      have k1 := (row_cell HY.out 1).1
      have g1 := (row_cell HY.out 1).2
      have k2 := (row_cell HY.out 2).1
      have g2 := (row_cell HY.out 2).2
      have k3 := (row_cell HY.out 3).1
      have g3 := (row_cell HY.out 3).2
      have k4 := (row_cell HY.out 4).1
      have g4 := (row_cell HY.out 4).2
      have k5 := (row_cell HY.out 5).1
      have g5 := (row_cell HY.out 5).2
      have k6 := (row_cell HY.out 6).1
      have g6 := (row_cell HY.out 6).2
      simp only [List.getElem?_toArray, List.getElem?_cons_zero, List.getElem?_cons_succ] at k0 k1 k2 k3 k4 k5 k6
      go_simp
      clear k0 k1 k2 k3 k4 k5 k6 g0 g1 g2 g3 g4 g5 g6
      have hl := (row_set (row_set (row_set (row_set (row_set (row_set (row_set HY.out 0 (.int .i64 0)) 1 (.int .i64 T.base)) 2 (.int .i64 T.words.length)) 3 (.slice none 0 0)) 4 (.slice none 0 0)) 5 (.slice a9 n9 c9)) 6 (.bool false))
      simp only [List.setIfInBounds_toArray, List.set_cons_zero, List.set_cons_succ] at hl
      have hf : Fr (fun k => k = y) r5 _ := ((((((((Fr.refl (fun k => k = y) r5).setCell (p := ⟨y, 0, none⟩) (fun _ => rfl) (.int .i64 0)).setCell (p := ⟨y, 1, none⟩) (fun _ => rfl) (.int .i64 T.base)).setCell (p := ⟨y, 2, none⟩) (fun _ => rfl) (.int .i64 T.words.length)).setCell (p := ⟨y, 3, none⟩) (fun _ => rfl) (.slice none 0 0)).setCell (p := ⟨y, 4, none⟩) (fun _ => rfl) (.slice none 0 0)).setCell (p := ⟨y, 5, none⟩) (fun _ => rfl) (.slice a9 n9 c9)).setCell (p := ⟨y, 6, none⟩) (fun _ => rfl) (.bool false))
      generalize ((((((r5.setCell ⟨y, 0, none⟩ (.int .i64 0)).setCell ⟨y, 1, none⟩ (.int .i64 T.base)).setCell ⟨y, 2, none⟩ (.int .i64 T.words.length)).setCell ⟨y, 3, none⟩ (.slice none 0 0)).setCell ⟨y, 4, none⟩ (.slice none 0 0)).setCell ⟨y, 5, none⟩ (.slice a9 n9 c9)).setCell ⟨y, 6, none⟩ (.bool false) = r6 at *
      have HR6 := Lib.hid (HR5.out.trans (hf.below HR5.out.size (fun k hk => by have e : k = y := hk; omega)))
      have HO9 := Lib.hid (HO9.out.fr hf (fun k hk e => by obtain ⟨_, _, c2⟩ := own_row HO9.out hk; exact cells_ne c2 HY.out (by decide) e))
      have HY := Lib.hid hl
      clear hl hf
      refine hK.out _ _ HR6.out (fun _ => ?_)
      clear hK K
      refine wpAnyH_done (by kernel_rfl) ?_ _
      refine NoPanic.normal ?_
      go_wp2_with fail
      go_meet
      case rel => exact ⟨y, a9, n9, c9, rfl, HY.out, HO9.out, hyW, HR6.out⟩
  ·skip
   go_simp
   obtain ⟨r2, hr⟩ : ∃ r, r = r1.alloc (.cells #[.int .i64 0, .int .i64 0, .int .i64 0, .slice none 0 0, .slice none 0 0, .slice none 0 0, .bool false] 47) := ⟨_, rfl⟩
   obtain ⟨y, hy⟩ : ∃ y, y = r1.heap.size := ⟨_, rfl⟩
   have hl : r2.heap[y]? = some (.cells #[.int .i64 0, .int .i64 0, .int .i64 0, .slice none 0 0, .slice none 0 0, .slice none 0 0, .bool false] 47) := by rw [hr, hy]; exact heap_new _ _
   have hb : Below r1.heap.size r1 r2 := by rw [hr]; exact (Below.refl _ _).alloc (Nat.le_refl _) _
   rw [← hr, ← hy]
   have hyW : W.heap.size ≤ y := by have := HR1.out.size; omega
   have HR2 := Lib.hid (HR1.out.trans (hb.mono HR1.out.size))
   have HY := Lib.hid hl
   clear hl hb hr hy
   refine hK.out _ _ HR2.out (fun _ => ?_)
   clear hK K
   refine wpAnyH_ready (rs := [4]) (by kernel_rfl) (by simp) ?_
   refine (AllReadyH.cons rfl (fun K hK => ?_) AllReadyH.nil)
   ·skip
    go_simp
    go_at_call 61
    refine (BSB.out r2 HR2.out).mono ?_
    rintro e r3 ⟨rfl, hb⟩
    have HR3 := Lib.hid (HR2.out.trans (hb.mono HR2.out.size))
    have HY := Lib.hid ((Fr.of_below hb (fun _ => False)).heap HY.out (fun h => h))
    clear hb
    refine hK.out _ _ HR3.out (fun _ => ?_)
    clear hK K
    refine wpAnyH_ready (rs := [6]) (by kernel_rfl) (by simp) ?_
    refine (AllReadyH.cons rfl (fun K hK => ?_) AllReadyH.nil)
    ·skip
     go_simp
     go_at_call 37
     refine (CPB.out r3 HR3.out).mono ?_
     rintro e r4 ⟨rfl, hb⟩
     have HR4 := Lib.hid (HR3.out.trans (hb.mono HR3.out.size))
     have HY := Lib.hid ((Fr.of_below hb (fun _ => False)).heap HY.out (fun h => h))
     clear hb
     refine hK.out _ _ HR4.out (fun _ => ?_)
     clear hK K
     refine wpAnyH_ready (rs := [12]) (by kernel_rfl) (by simp) ?_
     refine (AllReadyH.cons rfl (fun K hK => ?_) AllReadyH.nil)
     ·skip
      go_simp
      go_at_call 62
      refine (CAB.out r4 HR4.out).mono ?_
      rintro e r5 ⟨v9, rfl, ho9, hb⟩
      have HR5 := Lib.hid (HR4.out.trans (hb.mono HR4.out.size))
      have HY := Lib.hid ((Fr.of_below hb (fun _ => False)).heap HY.out (fun h => h))
      obtain ⟨a9, n9, c9, rfl⟩ := ho9.slice
      have HO9 := Lib.hid ho9
      clear ho9
      clear hb
      refine hK.out _ _ HR5.out (fun _ => ?_)
      clear hK K
      refine wpAnyH_take (i := 13) (v := ?_) rfl (by kernel_rfl) (by kernel_rfl) (by kernel_rfl) (fun _ _ _ h => h) (Or.inl ⟨by kernel_rfl, ?tq14⟩) HR5.out ?_
      case tq14 => (intro wq hq; obtain ⟨f0, f1⟩ := HKK.out wq hq; go_simp; first | done | with_reducible rfl)
      refine wpAnyH_ready (rs := [15]) (by kernel_rfl) (by simp) ?_
      refine (AllReadyH.cons rfl (fun K hK => ?_) AllReadyH.nil)
      have k0 := (row_cell HY.out 0).1
      have g0 := (row_cell HY.out 0).2
      have k1 := (row_cell HY.out 1).1
      have g1 := (row_cell HY.out 1).2
      have k2 := (row_cell HY.out 2).1
      have g2 := (row_cell HY.out 2).2
      have k3 := (row_cell HY.out 3).1
      have g3 := (row_cell HY.out 3).2
      have k4 := (row_cell HY.out 4).1
      have g4 := (row_cell HY.out 4).2
      have k5 := (row_cell HY.out 5).1
      have g5 := (row_cell HY.out 5).2
      have k6 := (row_cell HY.out 6).1
      have g6 := (row_cell HY.out 6).2
      simp only [List.getElem?_toArray, List.getElem?_cons_zero, List.getElem?_cons_succ] at k0 k1 k2 k3 k4 k5 k6
      go_simp
      clear k0 k1 k2 k3 k4 k5 k6 g0 g1 g2 g3 g4 g5 g6
      have hl := (row_set (row_set (row_set (row_set (row_set (row_set (row_set HY.out 0 (.int .i64 0)) 1 (.int .i64 T.base)) 2 (.int .i64 T.words.length)) 3 (.slice none 0 0)) 4 (.slice none 0 0)) 5 (.slice a9 n9 c9)) 6 (.bool false))
      simp only [List.setIfInBounds_toArray, List.set_cons_zero, List.set_cons_succ] at hl
      have hf : Fr (fun k => k = y) r5 _ := ((((((((Fr.refl (fun k => k = y) r5).setCell (p := ⟨y, 0, none⟩) (fun _ => rfl) (.int .i64 0)).setCell (p := ⟨y, 1, none⟩) (fun _ => rfl) (.int .i64 T.base)).setCell (p := ⟨y, 2, none⟩) (fun _ => rfl) (.int .i64 T.words.length)).setCell (p := ⟨y, 3, none⟩) (fun _ => rfl) (.slice none 0 0)).setCell (p := ⟨y, 4, none⟩) (fun _ => rfl) (.slice none 0 0)).setCell (p := ⟨y, 5, none⟩) (fun _ => rfl) (.slice a9 n9 c9)).setCell (p := ⟨y, 6, none⟩) (fun _ => rfl) (.bool false))
      generalize ((((((r5.setCell ⟨y, 0, none⟩ (.int .i64 0)).setCell ⟨y, 1, none⟩ (.int .i64 T.base)).setCell ⟨y, 2, none⟩ (.int .i64 T.words.length)).setCell ⟨y, 3, none⟩ (.slice none 0 0)).setCell ⟨y, 4, none⟩ (.slice none 0 0)).setCell ⟨y, 5, none⟩ (.slice a9 n9 c9)).setCell ⟨y, 6, none⟩ (.bool false) = r6 at *
      have HR6 := Lib.hid (HR5.out.trans (hf.below HR5.out.size (fun k hk => by have e : k = y := hk; omega)))
      have HO9 := Lib.hid (HO9.out.fr hf (fun k hk e => by obtain ⟨_, _, c2⟩ := own_row HO9.out hk; exact cells_ne c2 HY.out (by decide) e))
      have HY := Lib.hid hl
      clear hl hf
      refine hK.out _ _ HR6.out (fun _ => ?_)
      clear hK K
      refine wpAnyH_done (by kernel_rfl) ?_ _
      refine NoPanic.normal ?_
      go_wp2_with fail
      go_meet
      case rel => exact ⟨y, a9, n9, c9, rfl, HY.out, HO9.out, hyW, HR6.out⟩
 case rest =>
  obtain ⟨z, a9, n9, c9, rfl, hz, hal9, hzW, hR⟩ := hcut
  have HAL9 := Lib.hid hal9
  clear hal9
  have q4c := below_cell hR q4
  obtain ⟨ap, cpp, hpv, _⟩ := (HTT.out wc (HB1.out.trans (hR.mono HB1.out.size))).pv
  rw [hpv] at q4c
  have hzl := heap_lt hz
  have hWs := heap_lt HROW.out
  have HPV := Lib.hid hpv
  clear hpv q3 q4 q6
  have HZ := Lib.hid hz; clear hz
  have HR := Lib.hid hR; clear hR
  go_wp2_with fail
  go_loopw [31] (fun i wr => ∃ k : Nat, k ≤ T.parts.length ∧ i = .int .i64 k ∧ ∃ fr ts vf vt, wr.heap[z]? = some (.cells #[.int .i64 0, .int .i64 T.base, .int .i64 T.words.length, vf, vt, .slice a9 n9 c9, .bool false] 47) ∧ Own alarmE wr W.heap.size (.slice a9 n9 c9) X.al ∧ (∀ d (hd : d < fr.length), SP d fr[d]) ∧ Own spotE wr (z + 1) vf fr ∧ Own thsE wr (z + 1) vt ts ∧ fr.length = k ∧ ts.length = k ∧ (∀ d (hd : d < fr.length), fr[d].n7 = sl d) ∧ RowsG wr w.heap.size sl fr A C ∧ Below W.heap.size W wr) (fun i _ => T.parts.length - (intOf i).toNat)
  case atStart => exact ⟨0, Nat.zero_le _, rfl, [], [], _, _, HZ.out, HAL9.out, fun d hd => absurd hd (Nat.not_lt_zero _), Own.nil _ _ _, Own.nil _ _ _, rfl, rfl, fun d hd => absurd hd (Nat.not_lt_zero _), fun d hd => absurd hd (Nat.not_lt_zero _), HR.out⟩
  case round =>
   clear q4c
   obtain ⟨k, hk, rfl, fr, ts, vf, vt, hz, hal9, hsp, hvf, hvt, hfl, htl, hn7, hrf, hR⟩ := hrel
   by_cases hlt : k < T.parts.length
   ·have hbw := HB1.out.trans (hR.mono HB1.out.size)
    obtain ⟨a, c, hpv2, hel⟩ := (HTT.out wr hbw).pv
    rw [HPV.out] at hpv2
    injection hpv2 with e1 _ e3
    subst e1 e3
    obtain ⟨b, rfl, _, k0, k1, k2, k3, k4⟩ := hel k hlt
    have htn := hth _ (List.getElem_mem hlt)
    generalize T.parts[k] = q at *
    rw [htn] at k4
    obtain ⟨f1, f2, f3, rfl⟩ := hvf.slice
    obtain ⟨g1, g2, g3, rfl⟩ := hvt.slice
    have hz5 := row_alloc hz (.cells #[.int .i64 q.fn, .int .i64 q.pc, .int .i64 q.base, .int .i64 q.ret, .slice q.ta 0 q.tc] 100)
    have hb5 := hbw.alloc hbw.size (.cells #[.int .i64 q.fn, .int .i64 q.pc, .int .i64 q.base, .int .i64 q.ret, .slice q.ta 0 q.tc] 100)
    have hbR := hR.alloc hR.size (.cells #[.int .i64 q.fn, .int .i64 q.pc, .int .i64 q.base, .int .i64 q.ret, .slice q.ta 0 q.tc] 100)
    have hvf5 := hvf.alloc (.cells #[.int .i64 q.fn, .int .i64 q.pc, .int .i64 q.base, .int .i64 q.ret, .slice q.ta 0 q.tc] 100)
    have hvt5 := hvt.alloc (.cells #[.int .i64 q.fn, .int .i64 q.pc, .int .i64 q.base, .int .i64 q.ret, .slice q.ta 0 q.tc] 100)
    have hp4 := heap_new wr (.cells #[.int .i64 q.fn, .int .i64 q.pc, .int .i64 q.base, .int .i64 q.ret, .slice q.ta 0 q.tc] 100)
    have hrf5 := hrf.fr ((Fr.refl (fun _ => False) wr).alloc (.cells #[.int .i64 q.fn, .int .i64 q.pc, .int .i64 q.base, .int .i64 q.ret, .slice q.ta 0 q.tc] 100)) (fun _ _ _ _ h => h)
    have hzlt := heap_lt hz
    have hal5 := hal9.alloc (.cells #[.int .i64 q.fn, .int .i64 q.pc, .int .i64 q.base, .int .i64 q.ret, .slice q.ta 0 q.tc] 100)
    clear hz hbw hR hvf hvt hel htn hrf hal9
    have HSP := Lib.hid hsp; clear hsp
    have HAL5 := Lib.hid hal5; clear hal5
    have HZ5 := Lib.hid hz5; clear hz5
    have HB5 := Lib.hid hb5; clear hb5
    have HBR := Lib.hid hbR; clear hbR
    have HVF5 := Lib.hid hvf5; clear hvf5
    have HVT5 := Lib.hid hvt5; clear hvt5
    have HP4 := Lib.hid hp4; clear hp4
    have HRF5 := Lib.hid hrf5; clear hrf5
    go_upto_region 7 with fail
    obtain ⟨w5, hw5⟩ : ∃ w5, w5 = wr.alloc (.cells #[.int .i64 q.fn, .int .i64 q.pc, .int .i64 q.base, .int .i64 q.ret, .slice q.ta 0 q.tc] 100) := ⟨_, rfl⟩
    rw [← hw5] at HZ5 HB5 HBR HVF5 HVT5 HP4 HRF5 HAL5 ⊢
    clear hw5 k0 k1 k2 k3 k4
    have z3 : w5.cell? ⟨z, 3, none⟩ = some (.slice f1 f2 f3) := (row_cell HZ5.out 3).1
    go_region_law (first | (go_simp; go_at_call 63; refine (HSPOT.out _ HB5.out.drew k hlt).mono ?_; rintro e w6 ⟨sv, hspv, rfl, hsS, hsO, hb6⟩; have hz6 := (Fr.of_below hb6 (fun _ => False)).heap (show w5.drew.heap[z]? = _ from HZ5.out) (fun h => h); have z3 : w6.cell? ⟨z, 3, none⟩ = some (.slice f1 f2 f3) := (row_cell hz6 3).1; have zb := heap_lt hz6) | (refine step_append_fresh spotE rfl (.tmp 37) (.tmp 41) rfl (z + 1) fr [⟨sv.x0, sv.x1, sv.x2, sv.b3, sv.b4, sv.x5, sv.b6, sv.a7, sl k, sv.c7, sv.a8, sv.n8, sv.c8⟩] _ rfl ((HVF5.out.drew.below hb6).alloc _) w6.heap.size 0 1 rfl (CellsAt.new _ _ _ _) (by show fr.length + 1 ≤ 100000000; omega) (by simp; omega) ?_; intro v7 w7 ho7 hg7 hf7; obtain ⟨y1, y2, y3, rfl⟩ := ho7.slice; have hz7 := (hg7.block z (by simp; omega) (fun e => by have := (HVF5.out.lt e.symm).1; omega)).trans ((Below.heap_alloc w6 _ z zb).trans hz6); have fz : w7.frozen? ⟨z, 3, none⟩ = false := (row_cell hz7 3).2; have z3 : w7.cell? ⟨z, 3, none⟩ = some (.slice f1 f2 f3) := (row_cell hz7 3).1))
    all_goals
     have hg8 : (w6.alloc (.cells #[.int .i64 sv.x0, .int .i64 sv.x1, .int .i64 sv.x2, .bool sv.b3, .bool sv.b4, .int .i64 sv.x5, .bool sv.b6, .slice sv.a7 (sl k) sv.c7, .slice sv.a8 sv.n8 sv.c8] 51)).grownBy w7 (Value.slice f1 f2 f3).ownBlock := hg7
     have hfr7 := (((Fr.refl (fun q => (Value.slice f1 f2 f3).ownBlock = some q) w5).drew.trans (Fr.of_below hb6 _) (fun _ _ h => h)).alloc (.cells #[.int .i64 sv.x0, .int .i64 sv.x1, .int .i64 sv.x2, .bool sv.b3, .bool sv.b4, .int .i64 sv.x5, .bool sv.b6, .slice sv.a7 (sl k) sv.c7, .slice sv.a8 sv.n8 sv.c8] 51)).grown hg8 (fun k hk _ => hk)
     have hfr8 := (hfr7.mono (G := fun q => (Value.slice f1 f2 f3).ownBlock = some q ∨ q = z) (fun k hk => .inl hk)).setCell (p := ⟨z, 3, none⟩) (fun _ => .inr rfl) (.slice y1 y2 y3)
     have hfr6 := ((((Fr.refl (fun q => (Value.slice f1 f2 f3).ownBlock = some q) w6).alloc (.cells #[.int .i64 sv.x0, .int .i64 sv.x1, .int .i64 sv.x2, .bool sv.b3, .bool sv.b4, .int .i64 sv.x5, .bool sv.b6, .slice sv.a7 (sl k) sv.c7, .slice sv.a8 sv.n8 sv.c8] 51)).grown hg8 (fun k hk _ => hk)).mono (G := fun q => (Value.slice f1 f2 f3).ownBlock = some q ∨ q = z) (fun k hk => .inl hk)).setCell (p := ⟨z, 3, none⟩) (fun _ => .inr rfl) (.slice y1 y2 y3)
     have hlow6 : w.heap.size ≤ w5.drew.heap.size + 1 := Nat.le_succ_of_le HB5.out.drew.size
     have hvf6 := HVF5.out.drew.below hb6
     have hnt6 : ∀ b cs f, w6.heap[b]? = some (.cells cs 3 f) → ¬ ((Value.slice f1 f2 f3).ownBlock = some b ∨ b = z) := fun b cs f hb hg => hg.elim (fun e => by obtain ⟨_, _, c1⟩ := own_row hvf6 e; exact cells_ne c1 hb (by decide) rfl) (fun e => cells_ne hb hz6 (by decide) e)
     have hnt5 : ∀ b cs f, w5.heap[b]? = some (.cells cs 3 f) → ¬ ((Value.slice f1 f2 f3).ownBlock = some b ∨ b = z) := fun b cs f hb hg => hg.elim (fun e => by obtain ⟨_, _, c1⟩ := own_row HVF5.out e; exact cells_ne c1 hb (by decide) rfl) (fun e => cells_ne hb HZ5.out (by decide) e)
     have hsS8 := (own_keep hsS hfr6 hnt6).base (B' := w.heap.size) (fun k hk => Nat.le_trans hlow6 (hsS.lt hk).1)
     have hsO8 := (own_keep hsO hfr6 hnt6).base (B' := w.heap.size) (fun k hk => Nat.le_trans hlow6 (hsO.lt hk).1)
     have hrf8 := (HRF5.out.fr hfr8 hnt5).snoc ⟨sv.x0, sv.x1, sv.x2, sv.b3, sv.b4, sv.x5, sv.b6, sv.a7, sl k, sv.c7, sv.a8, sv.n8, sv.c8⟩ (by rw [hfl]; exact hsS8) (by rw [hfl]; exact hsO8)
     clear hfr6 hlow6 hvf6 hnt6 hnt5 hsS8 hsO8 hsS hsO
     have hfz := (Fr.refl (fun q => q = z) w7).setCell (p := ⟨z, 3, none⟩) (fun _ => rfl) (.slice y1 y2 y3)
     have hz8 := row_set hz7 3 (.slice y1 y2 y3)
     have ho8 := ho7.fr hfz (fun q hq e => by have := (ho7.lt hq).1; omega)
     have hv8 := HVT5.out.fr hfr8 (fun q hq e => e.elim (fun e => by obtain ⟨_, _, c1⟩ := own_row HVF5.out e; obtain ⟨_, _, c2⟩ := own_row HVT5.out hq; exact cells_ne c1 c2 (by decide) rfl) (fun e => by have := (HVT5.out.lt hq).1; omega))
     have hp8 := hfr8.heap HP4.out (fun e => e.elim (fun e => by obtain ⟨_, _, c1⟩ := own_row HVF5.out e; exact cells_ne c1 HP4.out (by decide) rfl) (fun e => by omega))
     have hb8 := HBR.out.trans (hfr8.below HBR.out.size (fun q hq => hq.elim (fun e => by have := (HVF5.out.lt e).1; omega) (fun e => by omega)))
     have hal8 := HAL5.out.fr hfr8 (fun q hq e => by obtain ⟨_, _, c2⟩ := own_row HAL5.out hq; exact e.elim (fun e => by obtain ⟨_, _, c1⟩ := own_row HVF5.out e; exact cells_ne c1 c2 (by decide) rfl) (fun e => cells_ne c2 HZ5.out (by decide) e))
     clear hg7 hg8 hf7 ho7 hfr7 hfr8 hfz hz7 fz z3 hb6 hz6 zb
     have HAL8 := Lib.hid hal8; clear hal8
     have HSPV := Lib.hid hspv; clear hspv
     have HZ8 := Lib.hid hz8; clear hz8
     have HO8 := Lib.hid ho8; clear ho8
     have HV8 := Lib.hid hv8; clear hv8
     have HP8 := Lib.hid hp8; clear hp8
     have HB8 := Lib.hid hb8; clear hb8
     have HRF8 := Lib.hid hrf8; clear hrf8
     go_upto_region 9 with fail
     obtain ⟨w8, hw8⟩ : ∃ w8, w8 = w7.setCell ⟨z, 3, none⟩ (.slice y1 y2 y3) := ⟨_, rfl⟩
     rw [← hw8] at HZ8 HO8 HV8 HP8 HB8 HRF8 HAL8 ⊢
     clear hw8
     have p4 : w8.cell? ⟨wr.heap.size, 4, none⟩ = some (.slice q.ta 0 q.tc) := (row_cell HP8.out 4).1
     generalize wr.heap.size = pb at *
     go_wp2_with fail
     go_loopw [6, 47] (fun l i wq => l = .slice none 0 0 ∧ i = .int .i64 0 ∧ wq = w8) (fun _ _ _ => 0)
     case atStart => exact ⟨rfl, rfl, by first | rfl | trivial⟩
     case round =>
      obtain ⟨rfl, rfl, rfl⟩ := hrel
      clear p4
      have z4 : wr.cell? ⟨z, 4, none⟩ = some (.slice g1 g2 g3) := (row_cell HZ8.out 4).1
      have zl := heap_lt HZ8.out
      go_wp2_with (at_builtin; refine append_fresh thsE rfl (.tmp 62) (.tmp 64) rfl (z + 1) ts [(none, 0, 0)] _ rfl (HV8.out.alloc _) wr.heap.size 0 1 rfl (CellsAt.new _ _ _ _) ?c1 ?c2 ?_)
      case c1 => first | omega | (show ts.length + 1 ≤ 100000000; omega)
      case c2 => simp; omega
      intro v9 w9 ho9 hg9 hf9
      obtain ⟨x1, x2, x3, rfl⟩ := ho9.slice
      have hfr9 := ((Fr.refl (fun k => (Value.slice g1 g2 g3).ownBlock = some k) wr).alloc (.cells #[.slice none 0 0] 98)).grown hg9 (fun k hk _ => hk)
      have hz9 := hfr9.heap HZ8.out (fun e => by have := (HV8.out.lt e).1; omega)
      have fz : w9.frozen? ⟨z, 4, none⟩ = false := (row_cell hz9 4).2
      have z4 : w9.cell? ⟨z, 4, none⟩ = some (.slice g1 g2 g3) := (row_cell hz9 4).1
      have hfr10 := (hfr9.mono (G := fun k => (Value.slice g1 g2 g3).ownBlock = some k ∨ k = z) (fun k hk => .inl hk)).setCell (p := ⟨z, 4, none⟩) (fun _ => .inr rfl) (.slice x1 x2 x3)
      have hfz := (Fr.refl (fun k => k = z) w9).setCell (p := ⟨z, 4, none⟩) (fun _ => rfl) (.slice x1 x2 x3)
      have hz10 := row_set hz9 4 (.slice x1 x2 x3)
      have ho10 := ho9.fr hfz (fun q hq e => by have := (ho9.lt hq).1; omega)
      have hv10 := HO8.out.fr hfr10 (fun q hq e => e.elim (fun e => by obtain ⟨_, _, c1⟩ := own_row HV8.out e; obtain ⟨_, _, c2⟩ := own_row HO8.out hq; exact cells_ne c1 c2 (by decide) rfl) (fun e => by have := (HO8.out.lt hq).1; omega))
      have hb10 := HB8.out.trans (hfr10.below HB8.out.size (fun q hq => hq.elim (fun e => by have := (HV8.out.lt e).1; omega) (fun e => by omega)))
      have hrf10 := HRF8.out.fr hfr10 (fun b cs f hb hg => hg.elim (fun e => by obtain ⟨_, _, c1⟩ := own_row HV8.out e; exact cells_ne c1 hb (by decide) rfl) (fun e => cells_ne hb HZ8.out (by decide) e))
      have hl1 : (fr ++ [(⟨sv.x0, sv.x1, sv.x2, sv.b3, sv.b4, sv.x5, sv.b6, sv.a7, sl k, sv.c7, sv.a8, sv.n8, sv.c8⟩ : SpotV)]).length = k + 1 := by rw [List.length_append, hfl]; rfl
      have hl2 : (ts ++ [((none, 0, 0) : Option Addr × Nat × Nat)]).length = k + 1 := by rw [List.length_append, htl]; rfl
      have hn8 : ∀ d (hd : d < (fr ++ [(⟨sv.x0, sv.x1, sv.x2, sv.b3, sv.b4, sv.x5, sv.b6, sv.a7, sl k, sv.c7, sv.a8, sv.n8, sv.c8⟩ : SpotV)]).length), (fr ++ [(⟨sv.x0, sv.x1, sv.x2, sv.b3, sv.b4, sv.x5, sv.b6, sv.a7, sl k, sv.c7, sv.a8, sv.n8, sv.c8⟩ : SpotV)])[d].n7 = sl d := spot_snoc (SP := fun d s => s.n7 = sl d) hn7 (by rw [hfl])
      have hal10 := HAL8.out.fr hfr10 (fun q hq e => by obtain ⟨_, _, c2⟩ := own_row HAL8.out hq; exact e.elim (fun e => by obtain ⟨_, _, c1⟩ := own_row HV8.out e; exact cells_ne c1 c2 (by decide) rfl) (fun e => cells_ne c2 HZ8.out (by decide) e))
      have hsp2 : ∀ d (hd : d < (fr ++ [(⟨sv.x0, sv.x1, sv.x2, sv.b3, sv.b4, sv.x5, sv.b6, sv.a7, sl k, sv.c7, sv.a8, sv.n8, sv.c8⟩ : SpotV)]).length), SP d (fr ++ [(⟨sv.x0, sv.x1, sv.x2, sv.b3, sv.b4, sv.x5, sv.b6, sv.a7, sl k, sv.c7, sv.a8, sv.n8, sv.c8⟩ : SpotV)])[d] := spot_snoc HSP.out (by rw [hfl]; exact HSPV.out)
      clear hg9 hf9 ho9 hfr9 hz9 hfr10 hfz
      have HAL10 := Lib.hid hal10; clear hal10
      have HSP2 := Lib.hid hsp2; clear hsp2
      have HZ10 := Lib.hid hz10; clear hz10
      have HO10 := Lib.hid ho10; clear ho10
      have HV10 := Lib.hid hv10; clear hv10
      have HB10 := Lib.hid hb10; clear hb10
      have HL1 := Lib.hid hl1; clear hl1
      have HL2 := Lib.hid hl2; clear hl2
      have HN8 := Lib.hid hn8; clear hn8
      have HRF10 := Lib.hid hrf10; clear hrf10
      go_wp2_with fail
      go_roundw
      case rel => exact ⟨k + 1, by omega, by go_num, _, _, _, _, HZ10.out, HAL10.out, HSP2.out, HV10.out, HO10.out, HL1.out, HL2.out, HN8.out, HRF10.out, HB10.out⟩
      case measure => simp [intOf]; omega
   ·have hk' : k = T.parts.length := by omega
    subst hk'
    obtain ⟨f1, f2, f3, rfl⟩ := hvf.slice
    obtain ⟨g1, g2, g3, rfl⟩ := hvt.slice
    have z0 := (row_cell hz 0).1
    have z1 := (row_cell hz 1).1
    have z2 := (row_cell hz 2).1
    have z3 := (row_cell hz 3).1
    have z4 := (row_cell hz 4).1
    have z5 := (row_cell hz 5).1
    have z6 := (row_cell hz 6).1
    have hro := (Fr.of_below hR (fun _ => False)).heap HROW.out (fun h => h)
    have j0 := row_cell hro 0
    have j1 := row_cell hro 1
    have j2 := row_cell hro 2
    have j3 := row_cell hro 3
    have j4 := row_cell hro 4
    have j5 := row_cell hro 5
    have j6 := row_cell hro 6
    obtain ⟨j0, f0⟩ : wr.cell? ⟨w.heap.size, 0, none⟩ = some (.int .i64 0) ∧ wr.frozen? ⟨w.heap.size, 0, none⟩ = false := j0
    obtain ⟨j1, f1'⟩ : wr.cell? ⟨w.heap.size, 1, none⟩ = some (.int .i64 0) ∧ wr.frozen? ⟨w.heap.size, 1, none⟩ = false := j1
    obtain ⟨j2, f2'⟩ : wr.cell? ⟨w.heap.size, 2, none⟩ = some (.int .i64 0) ∧ wr.frozen? ⟨w.heap.size, 2, none⟩ = false := j2
    obtain ⟨j3, f3'⟩ : wr.cell? ⟨w.heap.size, 3, none⟩ = some (.slice none 0 0) ∧ wr.frozen? ⟨w.heap.size, 3, none⟩ = false := j3
    obtain ⟨j4, f4⟩ : wr.cell? ⟨w.heap.size, 4, none⟩ = some (.slice none 0 0) ∧ wr.frozen? ⟨w.heap.size, 4, none⟩ = false := j4
    obtain ⟨j5, f5⟩ : wr.cell? ⟨w.heap.size, 5, none⟩ = some (.slice none 0 0) ∧ wr.frozen? ⟨w.heap.size, 5, none⟩ = false := j5
    obtain ⟨j6, f6⟩ : wr.cell? ⟨w.heap.size, 6, none⟩ = some (.bool false) ∧ wr.frozen? ⟨w.heap.size, 6, none⟩ = false := j6
    have hbr := HB1.out.trans (hR.mono HB1.out.size)
    have hf := (((((((Fr.refl (fun q => q = w.heap.size) wr).setCell (p := ⟨w.heap.size, 0, none⟩) (fun _ => rfl) (.int .i64 0)).setCell (p := ⟨w.heap.size, 1, none⟩) (fun _ => rfl) (.int .i64 T.base)).setCell (p := ⟨w.heap.size, 2, none⟩) (fun _ => rfl) (.int .i64 T.words.length)).setCell (p := ⟨w.heap.size, 3, none⟩) (fun _ => rfl) (.slice f1 f2 f3)).setCell (p := ⟨w.heap.size, 4, none⟩) (fun _ => rfl) (.slice g1 g2 g3)).setCell (p := ⟨w.heap.size, 5, none⟩) (fun _ => rfl) (.slice a9 n9 c9)).setCell (p := ⟨w.heap.size, 6, none⟩) (fun _ => rfl) (.bool false)
    have hr7 := row_set (row_set (row_set (row_set (row_set (row_set (row_set hro 0 (.int .i64 0)) 1 (.int .i64 T.base)) 2 (.int .i64 T.words.length)) 3 (.slice f1 f2 f3)) 4 (.slice g1 g2 g3)) 5 (.slice a9 n9 c9)) 6 (.bool false)
    have hoa := (hal9.fr hf (fun q hq e => by have := (hal9.lt hq).1; have := heap_lt HROW.out; omega)).base (B' := w.heap.size) (fun q hq => by have := (hal9.lt hq).1; have := heap_lt HROW.out; omega)
    have hof := (hvf.fr hf (fun q hq e => by have := (hvf.lt hq).1; omega)).base (B' := w.heap.size) (fun q hq => by have := (hvf.lt hq).1; omega)
    have hrff := hrf.fr hf (fun b cs f hb e => cells_ne hb hro (by decide) e)
    have hbf := hbr.trans (hf.below hbr.size (fun q hq => by omega))
    have hP : (fun (e : Ending) (w' : World) => ∃ (fr : List SpotV) (v av : Value) (g1 : Option Addr) (g2 g3 : Nat), e = .returned (.agg #[.int .i64 0, .int .i64 T.base, .int .i64 T.words.length, v, .slice g1 g2 g3, av, .bool false]) ∧ Own alarmE w' w.heap.size av X.al ∧ (∀ d (hd : d < fr.length), SP d fr[d]) ∧ Own spotE w' w.heap.size v fr ∧ fr.length = T.parts.length ∧ (∀ d (hd : d < fr.length), fr[d].n7 = sl d) ∧ RowsG w' w.heap.size sl fr A C ∧ Below w.heap.size w w') (.returned (.agg #[.int .i64 0, .int .i64 T.base, .int .i64 T.words.length, .slice f1 f2 f3, .slice g1 g2 g3, .slice a9 n9 c9, .bool false])) _ := ⟨fr, _, _, _, _, _, rfl, hoa, hsp, hof, hfl, hn7, hrff, hbf⟩
    clear hz hvf hvt hfl htl hn7 hR hro hbr hf hof hbf hrf hrff
    have HP := Lib.hid hP; clear hP
    have HR7 := Lib.hid hr7; clear hr7
    go_wp2_with (with_reducible refine bodyPost_ret ?_ rfl HP.out; have k0 := (row_cell HR7.out 0).1; have k1 := (row_cell HR7.out 1).1; have k2 := (row_cell HR7.out 2).1; have k3 := (row_cell HR7.out 3).1; have k4 := (row_cell HR7.out 4).1; have k5 := (row_cell HR7.out 5).1; have k6 := (row_cell HR7.out 6).1; simp at k0 k1 k2 k3 k4 k5 k6; simp [results, Tryz.results21, go_sem, k0, k1, k2, k3, k4, k5, k6])
end Go.Proofs.YthkhgihjigmkoaaGreat.Tk
