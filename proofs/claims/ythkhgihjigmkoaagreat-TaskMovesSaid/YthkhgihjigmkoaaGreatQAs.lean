/- Walk: Task.Life, with the words of its frames. Walk: the statements' program of two functions. Walk: check.code: the instructions by their places. -/
import Derived.Test.YthkhgihjigmkoaaGreatQAq
import Derived.Test.YthkhgihjigmkoaaGreatQAr
import Derived.Test.YthkhgihjigmkoaaGreatQAm
import Derived.Test.YthkhgihjigmkoaaGreatQAg
import Derived.Test.YthkhgihjigmkoaaGreatQAc
import Derived.BigRegion
set_option linter.unusedVariables false
set_option linter.unusedSimpArgs false
namespace Go.Proofs.YthkhgihjigmkoaaGreat.Tk
open Go.ChangeShapes Go.WideShapes Go.ChangeAt Go.RowKit Go.Maps
theorem own_keep {w1 w2 : World} {B : Nat} {v : Value} {l : List Int} (h : Own intE w1 B v l) {G : Nat → Prop} (hf : Fr G w1 w2) (hG : ∀ b cs f, w1.heap[b]? = some (.cells cs 3 f) → ¬ G b) : Own intE w2 B v l :=
  h.fr hf (fun k hk => by obtain ⟨cur, f, hc⟩ := own_row h hk; exact hG k _ _ hc)
/-- the rows of frames as they are: their slots, their stack objects -/
def RowsF (w : World) (B sl : Nat) (fr : List SpotV) (A C : Nat → List Int) : Prop := ∀ d (hd : d < fr.length), Own intE w B (.slice fr[d].a7 sl fr[d].c7) (A d) ∧ Own intE w B (.slice fr[d].a8 fr[d].n8 fr[d].c8) (C d)
theorem RowsF.fr {w1 w2 : World} {B sl : Nat} {fr : List SpotV} {A C : Nat → List Int} (h : RowsF w1 B sl fr A C) {G : Nat → Prop} (hf : Fr G w1 w2) (hG : ∀ b cs f, w1.heap[b]? = some (.cells cs 3 f) → ¬ G b) : RowsF w2 B sl fr A C :=
  fun d hd => ⟨own_keep (h d hd).1 hf hG, own_keep (h d hd).2 hf hG⟩
theorem RowsF.snoc {w : World} {B sl : Nat} {fr : List SpotV} {A C : Nat → List Int} (h : RowsF w B sl fr A C) (s : SpotV) (h1 : Own intE w B (.slice s.a7 sl s.c7) (A fr.length)) (h2 : Own intE w B (.slice s.a8 s.n8 s.c8) (C fr.length)) : RowsF w B sl (fr ++ [s]) A C := fun d hd => by
  rcases Nat.lt_or_ge d fr.length with h3 | h3
  · rw [List.getElem_append_left h3]
    exact h d h3
  · have h4 : d = fr.length := by simp at hd; omega
    subst h4
    simp
    exact ⟨h1, h2⟩
set_option maxRecDepth 100000 in
set_option maxHeartbeats 3200000 in
theorem life2_any (w : World) (F : Nat → Prop) (tb : Nat) (p : TPrg) (T : Tk) (X : TB) (h : TaskAt w F tb p T X) (hlen : T.parts.length ≤ 1000) (hth : ∀ q ∈ T.parts, q.tn = 0) (sl : Nat) (A C : Nat → List Int)
    (hspot : ∀ wr, Below w.heap.size w wr → ∀ d : Nat, d < T.parts.length → Calls Tryz.prog 63 #[.pointer (some ⟨tb, 0, none⟩), .int .i64 d] wr fun e w' => ∃ s : SpotV, e = .returned (.agg #[.int .i64 s.x0, .int .i64 s.x1, .int .i64 s.x2, .bool s.b3, .bool s.b4, .int .i64 s.x5, .bool s.b6, .slice s.a7 sl s.c7, .slice s.a8 s.n8 s.c8]) ∧ Own intE w' (wr.heap.size + 1) (.slice s.a7 sl s.c7) (A d) ∧ Own intE w' (wr.heap.size + 1) (.slice s.a8 s.n8 s.c8) (C d) ∧ Below wr.heap.size wr w') :
    Calls Tryz.prog 21 #[.pointer (some ⟨tb, 0, none⟩)] w fun e w' => ∃ (fr : List SpotV) (v : Value) (g1 : Option Addr) (g2 g3 : Nat), e = .returned (.agg #[.int .i64 0, .int .i64 T.base, .int .i64 T.words.length, v, .slice g1 g2 g3, .slice none 0 0, .bool false]) ∧ Own spotE w' w.heap.size v fr ∧ fr.length = T.parts.length ∧ (∀ s ∈ fr, s.n7 = sl) ∧ RowsF w' w.heap.size sl fr A C ∧ Below w.heap.size w w' := by
  have bs := fun wr (hw : Below w.heap.size w wr) => base_any wr X.sb X.wb T.base T.words (h.below hw).st
  have cp := fun wr (hw : Below w.heap.size w wr) => cap_any wr F tb p T X (h.below hw)
  have ca := cloneAlarms_nil
  have hb1 := (Below.refl w.heap.size w).alloc (Nat.le_refl _) (.cells #[.int .i64 0, .int .i64 0, .int .i64 0, .slice none 0 0, .slice none 0 0, .slice none 0 0, .bool false] 47)
  have hrow := heap_new w (.cells #[.int .i64 0, .int .i64 0, .int .i64 0, .slice none 0 0, .slice none 0 0, .slice none 0 0, .bool false] 47)
  have hTT : ∀ wr, Below w.heap.size w wr → TaskAt wr F tb p T X := fun wr hw => h.below hw
  have hc := h.below hb1
  obtain ⟨_, _, _, q3, q4, _, q6, _⟩ := hc.cells
  obtain ⟨W, hW⟩ : ∃ W, W = w.alloc (.cells #[.int .i64 0, .int .i64 0, .int .i64 0, .slice none 0 0, .slice none 0 0, .slice none 0 0, .bool false] 47) := ⟨_, rfl⟩
  rw [← hW] at hb1 hrow q3 q4 q6
  have HW := Lib.hid hW
  clear hW hc h
  have BS := Lib.hid bs; clear bs
  have CP := Lib.hid cp; clear cp
  have CA := Lib.hid ca; clear ca
  have HB1 := Lib.hid hb1; clear hb1
  have HROW := Lib.hid hrow; clear hrow
  have HTT := Lib.hid hTT; clear hTT
  have HSPOT := Lib.hid hspot; clear hspot
  go_enter Tryz.func21, Tryz.ntmps21
  go_upto_region 1 with fail
  rw [← HW.out]
  go_upto_region 3 with fail
  have hr0 := HB1.out.drew
  have hr1 := (HB1.out.alloc HB1.out.size (.cells #[.int .i64 0, .int .i64 0, .int .i64 0, .slice none 0 0, .slice none 0 0, .slice none 0 0, .bool false] 47)).drew
  have hw0 := Below.refl W.heap.size W
  have HR0 := Lib.hid hr0; clear hr0
  have HR1 := Lib.hid hr1; clear hr1
  have HW0 := Lib.hid hw0; clear hw0
  go_cut [3] (fun t wx => ∃ z : Nat, t = .pointer (some ⟨z, 0, none⟩) ∧ wx.heap[z]? = some (.cells #[.int .i64 0, .int .i64 T.base, .int .i64 T.words.length, .slice none 0 0, .slice none 0 0, .slice none 0 0, .bool false] 47) ∧ W.heap.size ≤ z ∧ Below W.heap.size W wx)
  case first =>
    have b3 := World.block_lt q3
    dsimp only at b3
    go_region_law (first | (go_simp; go_at_call 61; refine (BS.out _ (by first | exact HR0.out | exact HR1.out)).mono ?_; rintro e wq ⟨rfl, rfl⟩) | (go_simp; go_at_call 37; refine (CP.out _ (by first | exact HR0.out | exact HR1.out)).mono ?_; rintro e wq ⟨rfl, rfl⟩) | (go_simp; go_at_call 62; refine (CA.out _).mono ?_; rintro e wq ⟨rfl, rfl⟩))
    all_goals
      go_wp2_with fail
      go_meet
      case rel => exact ⟨_, rfl, heap_new _ _, Nat.le_refl _, (HW0.out.drew).alloc (HW0.out.size) _⟩
  case rest =>
    obtain ⟨z, rfl, hz, hzW, hR⟩ := hcut
    have q4c := below_cell hR q4
    obtain ⟨ap, cpp, hpv, _⟩ := (HTT.out wc (HB1.out.trans (hR.mono HB1.out.size))).pv
    rw [hpv] at q4c
    have hzl := heap_lt hz
    have hWs := heap_lt HROW.out
    have HPV := Lib.hid hpv
    clear hpv q3 q4 q6
    have HZ := Lib.hid hz; clear hz
    have HR := Lib.hid hR; clear hR
    go_wp2_with fail
    go_loopw [31] (fun i wr => ∃ k : Nat, k ≤ T.parts.length ∧ i = .int .i64 k ∧ ∃ fr ts vf vt, wr.heap[z]? = some (.cells #[.int .i64 0, .int .i64 T.base, .int .i64 T.words.length, vf, vt, .slice none 0 0, .bool false] 47) ∧ Own spotE wr (z + 1) vf fr ∧ Own thsE wr (z + 1) vt ts ∧ fr.length = k ∧ ts.length = k ∧ (∀ s ∈ fr, s.n7 = sl) ∧ RowsF wr w.heap.size sl fr A C ∧ Below W.heap.size W wr) (fun i _ => T.parts.length - (intOf i).toNat)
    case atStart => exact ⟨0, Nat.zero_le _, rfl, [], [], _, _, HZ.out, Own.nil _ _ _, Own.nil _ _ _, rfl, rfl, fun s hs => (by cases hs), fun d hd => absurd hd (Nat.not_lt_zero _), HR.out⟩
    case round =>
      clear q4c
      obtain ⟨k, hk, rfl, fr, ts, vf, vt, hz, hvf, hvt, hfl, htl, hn7, hrf, hR⟩ := hrel
      by_cases hlt : k < T.parts.length
      · have hbw := HB1.out.trans (hR.mono HB1.out.size)
        obtain ⟨a, c, hpv2, hel⟩ := (HTT.out wr hbw).pv
        rw [HPV.out] at hpv2
        injection hpv2 with e1 _ e3
        subst e1 e3
        obtain ⟨b, rfl, _, k0, k1, k2, k3, k4⟩ := hel k hlt
        have htn := hth _ (List.getElem_mem hlt)
        generalize T.parts[k] = q at *
        rw [htn] at k4
        obtain ⟨f1, f2, f3, rfl⟩ := hvf.slice
        obtain ⟨g1, g2, g3, rfl⟩ := hvt.slice
        have hz5 := row_alloc hz (.cells #[.int .i64 q.fn, .int .i64 q.pc, .int .i64 q.base, .int .i64 q.ret, .slice q.ta 0 q.tc] 100)
        have hb5 := hbw.alloc hbw.size (.cells #[.int .i64 q.fn, .int .i64 q.pc, .int .i64 q.base, .int .i64 q.ret, .slice q.ta 0 q.tc] 100)
        have hbR := hR.alloc hR.size (.cells #[.int .i64 q.fn, .int .i64 q.pc, .int .i64 q.base, .int .i64 q.ret, .slice q.ta 0 q.tc] 100)
        have hvf5 := hvf.alloc (.cells #[.int .i64 q.fn, .int .i64 q.pc, .int .i64 q.base, .int .i64 q.ret, .slice q.ta 0 q.tc] 100)
        have hvt5 := hvt.alloc (.cells #[.int .i64 q.fn, .int .i64 q.pc, .int .i64 q.base, .int .i64 q.ret, .slice q.ta 0 q.tc] 100)
        have hp4 := heap_new wr (.cells #[.int .i64 q.fn, .int .i64 q.pc, .int .i64 q.base, .int .i64 q.ret, .slice q.ta 0 q.tc] 100)
        have hrf5 := hrf.fr ((Fr.refl (fun _ => False) wr).alloc (.cells #[.int .i64 q.fn, .int .i64 q.pc, .int .i64 q.base, .int .i64 q.ret, .slice q.ta 0 q.tc] 100)) (fun _ _ _ _ h => h)
        have hzlt := heap_lt hz
        clear hz hbw hR hvf hvt hel htn hrf
        have HZ5 := Lib.hid hz5; clear hz5
        have HB5 := Lib.hid hb5; clear hb5
        have HBR := Lib.hid hbR; clear hbR
        have HVF5 := Lib.hid hvf5; clear hvf5
        have HVT5 := Lib.hid hvt5; clear hvt5
        have HP4 := Lib.hid hp4; clear hp4
        have HRF5 := Lib.hid hrf5; clear hrf5
        go_upto_region 7 with fail
        obtain ⟨w5, hw5⟩ : ∃ w5, w5 = wr.alloc (.cells #[.int .i64 q.fn, .int .i64 q.pc, .int .i64 q.base, .int .i64 q.ret, .slice q.ta 0 q.tc] 100) := ⟨_, rfl⟩
        rw [← hw5] at HZ5 HB5 HBR HVF5 HVT5 HP4 HRF5 ⊢
        clear hw5 k0 k1 k2 k3 k4
        have z3 : w5.cell? ⟨z, 3, none⟩ = some (.slice f1 f2 f3) := (row_cell HZ5.out 3).1
        go_region_law (first | (go_simp; go_at_call 63; refine (HSPOT.out _ HB5.out.drew k hlt).mono ?_; rintro e w6 ⟨sv, rfl, hsS, hsO, hb6⟩; have hz6 := (Fr.of_below hb6 (fun _ => False)).heap (show w5.drew.heap[z]? = _ from HZ5.out) (fun h => h); have z3 : w6.cell? ⟨z, 3, none⟩ = some (.slice f1 f2 f3) := (row_cell hz6 3).1; have zb := heap_lt hz6) | (refine step_append_fresh spotE rfl (.tmp 37) (.tmp 41) rfl (z + 1) fr [⟨sv.x0, sv.x1, sv.x2, sv.b3, sv.b4, sv.x5, sv.b6, sv.a7, sl, sv.c7, sv.a8, sv.n8, sv.c8⟩] _ rfl ((HVF5.out.drew.below hb6).alloc _) w6.heap.size 0 1 rfl (CellsAt.new _ _ _ _) (by show fr.length + 1 ≤ 100000000; omega) (by simp; omega) ?_; intro v7 w7 ho7 hg7 hf7; obtain ⟨y1, y2, y3, rfl⟩ := ho7.slice; have hz7 := (hg7.block z (by simp; omega) (fun e => by have := (HVF5.out.lt e.symm).1; omega)).trans ((Below.heap_alloc w6 _ z zb).trans hz6); have fz : w7.frozen? ⟨z, 3, none⟩ = false := (row_cell hz7 3).2; have z3 : w7.cell? ⟨z, 3, none⟩ = some (.slice f1 f2 f3) := (row_cell hz7 3).1))
        all_goals
          have hg8 : (w6.alloc (.cells #[.int .i64 sv.x0, .int .i64 sv.x1, .int .i64 sv.x2, .bool sv.b3, .bool sv.b4, .int .i64 sv.x5, .bool sv.b6, .slice sv.a7 sl sv.c7, .slice sv.a8 sv.n8 sv.c8] 51)).grownBy w7 (Value.slice f1 f2 f3).ownBlock := hg7
          have hfr7 := (((Fr.refl (fun q => (Value.slice f1 f2 f3).ownBlock = some q) w5).drew.trans (Fr.of_below hb6 _) (fun _ _ h => h)).alloc (.cells #[.int .i64 sv.x0, .int .i64 sv.x1, .int .i64 sv.x2, .bool sv.b3, .bool sv.b4, .int .i64 sv.x5, .bool sv.b6, .slice sv.a7 sl sv.c7, .slice sv.a8 sv.n8 sv.c8] 51)).grown hg8 (fun k hk _ => hk)
          have hfr8 := (hfr7.mono (G := fun q => (Value.slice f1 f2 f3).ownBlock = some q ∨ q = z) (fun k hk => .inl hk)).setCell (p := ⟨z, 3, none⟩) (fun _ => .inr rfl) (.slice y1 y2 y3)
          have hfr6 := ((((Fr.refl (fun q => (Value.slice f1 f2 f3).ownBlock = some q) w6).alloc (.cells #[.int .i64 sv.x0, .int .i64 sv.x1, .int .i64 sv.x2, .bool sv.b3, .bool sv.b4, .int .i64 sv.x5, .bool sv.b6, .slice sv.a7 sl sv.c7, .slice sv.a8 sv.n8 sv.c8] 51)).grown hg8 (fun k hk _ => hk)).mono (G := fun q => (Value.slice f1 f2 f3).ownBlock = some q ∨ q = z) (fun k hk => .inl hk)).setCell (p := ⟨z, 3, none⟩) (fun _ => .inr rfl) (.slice y1 y2 y3)
          have hlow6 : w.heap.size ≤ w5.drew.heap.size + 1 := Nat.le_succ_of_le HB5.out.drew.size
          have hvf6 := HVF5.out.drew.below hb6
          have hnt6 : ∀ b cs f, w6.heap[b]? = some (.cells cs 3 f) → ¬ ((Value.slice f1 f2 f3).ownBlock = some b ∨ b = z) := fun b cs f hb hg => hg.elim (fun e => by obtain ⟨_, _, c1⟩ := own_row hvf6 e; exact cells_ne c1 hb (by decide) rfl) (fun e => cells_ne hb hz6 (by decide) e)
          have hnt5 : ∀ b cs f, w5.heap[b]? = some (.cells cs 3 f) → ¬ ((Value.slice f1 f2 f3).ownBlock = some b ∨ b = z) := fun b cs f hb hg => hg.elim (fun e => by obtain ⟨_, _, c1⟩ := own_row HVF5.out e; exact cells_ne c1 hb (by decide) rfl) (fun e => cells_ne hb HZ5.out (by decide) e)
          have hsS8 := (own_keep hsS hfr6 hnt6).base (B' := w.heap.size) (fun k hk => Nat.le_trans hlow6 (hsS.lt hk).1)
          have hsO8 := (own_keep hsO hfr6 hnt6).base (B' := w.heap.size) (fun k hk => Nat.le_trans hlow6 (hsO.lt hk).1)
          have hrf8 := (HRF5.out.fr hfr8 hnt5).snoc ⟨sv.x0, sv.x1, sv.x2, sv.b3, sv.b4, sv.x5, sv.b6, sv.a7, sl, sv.c7, sv.a8, sv.n8, sv.c8⟩ (by rw [hfl]; exact hsS8) (by rw [hfl]; exact hsO8)
          clear hfr6 hlow6 hvf6 hnt6 hnt5 hsS8 hsO8 hsS hsO
          have hfz := (Fr.refl (fun q => q = z) w7).setCell (p := ⟨z, 3, none⟩) (fun _ => rfl) (.slice y1 y2 y3)
          have hz8 := row_set hz7 3 (.slice y1 y2 y3)
          have ho8 := ho7.fr hfz (fun q hq e => by have := (ho7.lt hq).1; omega)
          have hv8 := HVT5.out.fr hfr8 (fun q hq e => e.elim (fun e => by obtain ⟨_, _, c1⟩ := own_row HVF5.out e; obtain ⟨_, _, c2⟩ := own_row HVT5.out hq; exact cells_ne c1 c2 (by decide) rfl) (fun e => by have := (HVT5.out.lt hq).1; omega))
          have hp8 := hfr8.heap HP4.out (fun e => e.elim (fun e => by obtain ⟨_, _, c1⟩ := own_row HVF5.out e; exact cells_ne c1 HP4.out (by decide) rfl) (fun e => by omega))
          have hb8 := HBR.out.trans (hfr8.below HBR.out.size (fun q hq => hq.elim (fun e => by have := (HVF5.out.lt e).1; omega) (fun e => by omega)))
          clear hg7 hg8 hf7 ho7 hfr7 hfr8 hfz hz7 fz z3 hb6 hz6 zb
          have HZ8 := Lib.hid hz8; clear hz8
          have HO8 := Lib.hid ho8; clear ho8
          have HV8 := Lib.hid hv8; clear hv8
          have HP8 := Lib.hid hp8; clear hp8
          have HB8 := Lib.hid hb8; clear hb8
          have HRF8 := Lib.hid hrf8; clear hrf8
          go_upto_region 9 with fail
          obtain ⟨w8, hw8⟩ : ∃ w8, w8 = w7.setCell ⟨z, 3, none⟩ (.slice y1 y2 y3) := ⟨_, rfl⟩
          rw [← hw8] at HZ8 HO8 HV8 HP8 HB8 HRF8 ⊢
          clear hw8
          have p4 : w8.cell? ⟨wr.heap.size, 4, none⟩ = some (.slice q.ta 0 q.tc) := (row_cell HP8.out 4).1
          generalize wr.heap.size = pb at *
          go_wp2_with fail
          go_loopw [6, 47] (fun l i wq => l = .slice none 0 0 ∧ i = .int .i64 0 ∧ wq = w8) (fun _ _ _ => 0)
          case atStart => exact ⟨rfl, rfl, by first | rfl | trivial⟩
          case round =>
            obtain ⟨rfl, rfl, rfl⟩ := hrel
            clear p4
            have z4 : wr.cell? ⟨z, 4, none⟩ = some (.slice g1 g2 g3) := (row_cell HZ8.out 4).1
            have zl := heap_lt HZ8.out
            go_wp2_with (at_builtin; refine append_fresh thsE rfl (.tmp 62) (.tmp 64) rfl (z + 1) ts [(none, 0, 0)] _ rfl (HV8.out.alloc _) wr.heap.size 0 1 rfl (CellsAt.new _ _ _ _) ?c1 ?c2 ?_)
            case c1 => first | omega | (show ts.length + 1 ≤ 100000000; omega)
            case c2 => simp; omega
            intro v9 w9 ho9 hg9 hf9
            obtain ⟨x1, x2, x3, rfl⟩ := ho9.slice
            have hfr9 := ((Fr.refl (fun k => (Value.slice g1 g2 g3).ownBlock = some k) wr).alloc (.cells #[.slice none 0 0] 98)).grown hg9 (fun k hk _ => hk)
            have hz9 := hfr9.heap HZ8.out (fun e => by have := (HV8.out.lt e).1; omega)
            have fz : w9.frozen? ⟨z, 4, none⟩ = false := (row_cell hz9 4).2
            have z4 : w9.cell? ⟨z, 4, none⟩ = some (.slice g1 g2 g3) := (row_cell hz9 4).1
            have hfr10 := (hfr9.mono (G := fun k => (Value.slice g1 g2 g3).ownBlock = some k ∨ k = z) (fun k hk => .inl hk)).setCell (p := ⟨z, 4, none⟩) (fun _ => .inr rfl) (.slice x1 x2 x3)
            have hfz := (Fr.refl (fun k => k = z) w9).setCell (p := ⟨z, 4, none⟩) (fun _ => rfl) (.slice x1 x2 x3)
            have hz10 := row_set hz9 4 (.slice x1 x2 x3)
            have ho10 := ho9.fr hfz (fun q hq e => by have := (ho9.lt hq).1; omega)
            have hv10 := HO8.out.fr hfr10 (fun q hq e => e.elim (fun e => by obtain ⟨_, _, c1⟩ := own_row HV8.out e; obtain ⟨_, _, c2⟩ := own_row HO8.out hq; exact cells_ne c1 c2 (by decide) rfl) (fun e => by have := (HO8.out.lt hq).1; omega))
            have hb10 := HB8.out.trans (hfr10.below HB8.out.size (fun q hq => hq.elim (fun e => by have := (HV8.out.lt e).1; omega) (fun e => by omega)))
            have hrf10 := HRF8.out.fr hfr10 (fun b cs f hb hg => hg.elim (fun e => by obtain ⟨_, _, c1⟩ := own_row HV8.out e; exact cells_ne c1 hb (by decide) rfl) (fun e => cells_ne hb HZ8.out (by decide) e))
            have hl1 : (fr ++ [(⟨sv.x0, sv.x1, sv.x2, sv.b3, sv.b4, sv.x5, sv.b6, sv.a7, sl, sv.c7, sv.a8, sv.n8, sv.c8⟩ : SpotV)]).length = k + 1 := by rw [List.length_append, hfl]; rfl
            have hl2 : (ts ++ [((none, 0, 0) : Option Addr × Nat × Nat)]).length = k + 1 := by rw [List.length_append, htl]; rfl
            have hn8 : ∀ s ∈ fr ++ [(⟨sv.x0, sv.x1, sv.x2, sv.b3, sv.b4, sv.x5, sv.b6, sv.a7, sl, sv.c7, sv.a8, sv.n8, sv.c8⟩ : SpotV)], s.n7 = sl := fun s hs => by
              rcases List.mem_append.1 hs with h1 | h1
              · exact hn7 s h1
              · simp at h1; rw [h1]
            clear hg9 hf9 ho9 hfr9 hz9 hfr10 hfz
            have HZ10 := Lib.hid hz10; clear hz10
            have HO10 := Lib.hid ho10; clear ho10
            have HV10 := Lib.hid hv10; clear hv10
            have HB10 := Lib.hid hb10; clear hb10
            have HL1 := Lib.hid hl1; clear hl1
            have HL2 := Lib.hid hl2; clear hl2
            have HN8 := Lib.hid hn8; clear hn8
            have HRF10 := Lib.hid hrf10; clear hrf10
            go_wp2_with fail
            go_roundw
            case rel => exact ⟨k + 1, by omega, by go_num, _, _, _, _, HZ10.out, HV10.out, HO10.out, HL1.out, HL2.out, HN8.out, HRF10.out, HB10.out⟩
            case measure => simp [intOf]; omega
      · have hk' : k = T.parts.length := by omega
        subst hk'
        obtain ⟨f1, f2, f3, rfl⟩ := hvf.slice
        obtain ⟨g1, g2, g3, rfl⟩ := hvt.slice
        have z0 := (row_cell hz 0).1
        have z1 := (row_cell hz 1).1
        have z2 := (row_cell hz 2).1
        have z3 := (row_cell hz 3).1
        have z4 := (row_cell hz 4).1
        have z5 := (row_cell hz 5).1
        have z6 := (row_cell hz 6).1
        have hro := (Fr.of_below hR (fun _ => False)).heap HROW.out (fun h => h)
        have j0 := row_cell hro 0
        have j1 := row_cell hro 1
        have j2 := row_cell hro 2
        have j3 := row_cell hro 3
        have j4 := row_cell hro 4
        have j5 := row_cell hro 5
        have j6 := row_cell hro 6
        obtain ⟨j0, f0⟩ : wr.cell? ⟨w.heap.size, 0, none⟩ = some (.int .i64 0) ∧ wr.frozen? ⟨w.heap.size, 0, none⟩ = false := j0
        obtain ⟨j1, f1'⟩ : wr.cell? ⟨w.heap.size, 1, none⟩ = some (.int .i64 0) ∧ wr.frozen? ⟨w.heap.size, 1, none⟩ = false := j1
        obtain ⟨j2, f2'⟩ : wr.cell? ⟨w.heap.size, 2, none⟩ = some (.int .i64 0) ∧ wr.frozen? ⟨w.heap.size, 2, none⟩ = false := j2
        obtain ⟨j3, f3'⟩ : wr.cell? ⟨w.heap.size, 3, none⟩ = some (.slice none 0 0) ∧ wr.frozen? ⟨w.heap.size, 3, none⟩ = false := j3
        obtain ⟨j4, f4⟩ : wr.cell? ⟨w.heap.size, 4, none⟩ = some (.slice none 0 0) ∧ wr.frozen? ⟨w.heap.size, 4, none⟩ = false := j4
        obtain ⟨j5, f5⟩ : wr.cell? ⟨w.heap.size, 5, none⟩ = some (.slice none 0 0) ∧ wr.frozen? ⟨w.heap.size, 5, none⟩ = false := j5
        obtain ⟨j6, f6⟩ : wr.cell? ⟨w.heap.size, 6, none⟩ = some (.bool false) ∧ wr.frozen? ⟨w.heap.size, 6, none⟩ = false := j6
        have hbr := HB1.out.trans (hR.mono HB1.out.size)
        have hf := (((((((Fr.refl (fun q => q = w.heap.size) wr).setCell (p := ⟨w.heap.size, 0, none⟩) (fun _ => rfl) (.int .i64 0)).setCell (p := ⟨w.heap.size, 1, none⟩) (fun _ => rfl) (.int .i64 T.base)).setCell (p := ⟨w.heap.size, 2, none⟩) (fun _ => rfl) (.int .i64 T.words.length)).setCell (p := ⟨w.heap.size, 3, none⟩) (fun _ => rfl) (.slice f1 f2 f3)).setCell (p := ⟨w.heap.size, 4, none⟩) (fun _ => rfl) (.slice g1 g2 g3)).setCell (p := ⟨w.heap.size, 5, none⟩) (fun _ => rfl) (.slice none 0 0)).setCell (p := ⟨w.heap.size, 6, none⟩) (fun _ => rfl) (.bool false)
        have hr7 := row_set (row_set (row_set (row_set (row_set (row_set (row_set hro 0 (.int .i64 0)) 1 (.int .i64 T.base)) 2 (.int .i64 T.words.length)) 3 (.slice f1 f2 f3)) 4 (.slice g1 g2 g3)) 5 (.slice none 0 0)) 6 (.bool false)
        have hof := (hvf.fr hf (fun q hq e => by have := (hvf.lt hq).1; omega)).base (B' := w.heap.size) (fun q hq => by have := (hvf.lt hq).1; omega)
        have hrff := hrf.fr hf (fun b cs f hb e => cells_ne hb hro (by decide) e)
        have hbf := hbr.trans (hf.below hbr.size (fun q hq => by omega))
        have hP : (fun (e : Ending) (w' : World) => ∃ (fr : List SpotV) (v : Value) (g1 : Option Addr) (g2 g3 : Nat), e = .returned (.agg #[.int .i64 0, .int .i64 T.base, .int .i64 T.words.length, v, .slice g1 g2 g3, .slice none 0 0, .bool false]) ∧ Own spotE w' w.heap.size v fr ∧ fr.length = T.parts.length ∧ (∀ s ∈ fr, s.n7 = sl) ∧ RowsF w' w.heap.size sl fr A C ∧ Below w.heap.size w w') (.returned (.agg #[.int .i64 0, .int .i64 T.base, .int .i64 T.words.length, .slice f1 f2 f3, .slice g1 g2 g3, .slice none 0 0, .bool false])) _ := ⟨fr, _, _, _, _, rfl, hof, hfl, hn7, hrff, hbf⟩
        clear hz hvf hvt hfl htl hn7 hR hro hbr hf hof hbf hrf hrff
        have HP := Lib.hid hP; clear hP
        have HR7 := Lib.hid hr7; clear hr7
        go_wp2_with (with_reducible refine bodyPost_ret ?_ rfl HP.out; have k0 := (row_cell HR7.out 0).1; have k1 := (row_cell HR7.out 1).1; have k2 := (row_cell HR7.out 2).1; have k3 := (row_cell HR7.out 3).1; have k4 := (row_cell HR7.out 4).1; have k5 := (row_cell HR7.out 5).1; have k6 := (row_cell HR7.out 6).1; simp at k0 k1 k2 k3 k4 k5 k6; simp [results, Tryz.results21, go_sem, k0, k1, k2, k3, k4, k5, k6])
end Go.Proofs.YthkhgihjigmkoaaGreat.Tk
namespace Go.Proofs.YthkhgihjigmkoaaGreat.Tk
open Go.ChangeShapes Go.WideShapes Go.ChangeAt Go.RowKit Go.Maps
def p1 : TPrg := ⟨[2], [⟨0, 3, [0]⟩, ⟨2, 3, [0]⟩]⟩
theorem p1_small : PSmall p1 := by
  unfold PSmall p1
  simp
end Go.Proofs.YthkhgihjigmkoaaGreat.Tk
namespace Go.Proofs.YthkhgihjigmkoaaGreat
open Go.ChangeShapes Go.WideShapes Go.ChangeAt Go.RowKit Go.Maps
abbrev Pl := { x : Int × Int // i64B x.1 ∧ i64B x.2 }
/-- the first k instructions of C, by their places in function fn -/
def cF (fn : Int) (C : List Ins) (k : Nat) (x : Pl) : Option Ins := if x.1.1 = fn ∧ 0 ≤ x.1.2 ∧ x.1.2 < k then C[x.1.2.toNat]? else none
def codeOf (p : Prg) (fn : Int) : List Ins := if withinB fn p.funcs.length = true then ((p.funcs[fn.toNat]?).map Fun.code).getD [] else []
theorem cF_zero (fn : Int) (C : List Ins) (x : Pl) : (none : Option Ins) = cF fn C 0 x := by
  unfold cF
  rw [if_neg (by omega)]
theorem cF_succ (fn : Int) (C : List Ins) (k : Nat) (hk : k < C.length) (h : i64B fn ∧ i64B (k : Int)) (x : Pl) : upd (cF fn C k) ⟨(fn, (k : Int)), h⟩ (some C[k]) x = cF fn C (k + 1) x := by
  unfold upd
  by_cases he : x = ⟨(fn, (k : Int)), h⟩
  · rw [if_pos he, he]
    unfold cF
    rw [if_pos ⟨rfl, by simp, by show (k : Int) < ((k + 1 : Nat) : Int); omega⟩]
    simp [hk]
  · rw [if_neg he]
    unfold cF
    by_cases h2 : x.1.1 = fn ∧ 0 ≤ x.1.2 ∧ x.1.2 < k
    · rw [if_pos h2, if_pos ⟨h2.1, h2.2.1, by omega⟩]
    · rw [if_neg h2, if_neg]
      rintro ⟨h3, h4, h5⟩
      by_cases h6 : x.1.2 = k
      · apply he
        obtain ⟨⟨x1, x2⟩, hx⟩ := x
        simp at h3 h6
        subst h3 h6
        rfl
      · exact h2 ⟨h3, h4, by omega⟩
def insVal (i : Ins) : Value := .agg #[.int .i64 i.op, .int .i64 i.a, .int .i64 i.b, .int .i64 i.c]
def CodeMap (w : World) (b m : Nat) (f : Pl → Option Ins) : Prop := MapIs plK insVal w b m f
def CodePost (p : Prg) (fn : Int) (w : World) (e : Ending) (w' : World) : Prop :=
  ∃ b m, e = .returned (.map (some b)) ∧ CodeMap w' b m (cF fn (codeOf p fn) (codeOf p fn).length) ∧ w.heap.size ≤ b ∧ Below w.heap.size w w'
set_option maxRecDepth 100000 in
set_option maxHeartbeats 1600000 in
theorem code_any (w : World) (D : Nat → Prop) (p : Prg) (c0 c1 c2 : Value) (fn : Int) (hD : ∀ k, D k → k < w.heap.size) (hv : PrgVal w D p c0 c1 c2) (hfn : i64B fn) (hln : (codeOf p fn).length ≤ 3000) :
    Calls Tryz.prog 131 #[.agg #[c0, c1, c2], .int .i64 fn] w (CodePost p fn w) := by
  obtain ⟨⟨a0, m0, rfl, _⟩, ⟨a1, m1, rfl, _⟩, a2, m2, rfl, hfs⟩ := hv
  have hb0 := ((Below.refl w.heap.size w).alloc (Nat.le_refl _) (.cells #[.slice a0 p.globals.length m0, .slice a1 p.shapes.length m1, .slice a2 p.funcs.length m2] 27))
  have hmk : CodeMap ((w.alloc (.cells #[.slice a0 p.globals.length m0, .slice a1 p.shapes.length m1, .slice a2 p.funcs.length m2] 27)).alloc (.map #[] 0)) (w.alloc (.cells #[.slice a0 p.globals.length m0, .slice a1 p.shapes.length m1, .slice a2 p.funcs.length m2] 27)).heap.size 0 (fun _ => none) := MapIs.made plK _ _
  have hz1 : (w.alloc (.cells #[.slice a0 p.globals.length m0, .slice a1 p.shapes.length m1, .slice a2 p.funcs.length m2] 27)).heap.size = w.heap.size + 1 := by simp
  rw [hz1] at hmk
  have hb1 := hb0.alloc (by simp) (.map #[] 0)
  have hmake : ∀ w, (Instr.makeMap 178 none).run Tryz.prog w = .ok (.map (some w.heap.size)) (w.alloc (.map #[] 0)) := fun w => run_makeMap _ w
  have ht : Tryz.prog.underlying 178 = some (.map plK.k 59) := Tryz.underlying178
  have q2 : ((w.alloc (.cells #[.slice a0 p.globals.length m0, .slice a1 p.shapes.length m1, .slice a2 p.funcs.length m2] 27)).alloc (.map #[] 0)).cell? ⟨w.heap.size, 2, none⟩ = some (.slice a2 p.funcs.length m2) := by
    rw [cell_under _ _ (by simp), cell_new]; rfl
  obtain ⟨W, hW⟩ : ∃ W, W = (w.alloc (.cells #[.slice a0 p.globals.length m0, .slice a1 p.shapes.length m1, .slice a2 p.funcs.length m2] 27)).alloc (.map #[] 0) := ⟨_, rfl⟩
  rw [← hW] at hmk hb1 q2
  have hfs := hfs.fr (Fr.of_below hb1 (fun _ => False)) (fun _ _ h => h)
  have hm0 : CodeMap W (w.heap.size + 1) 0 (cF fn (codeOf p fn) 0) := hmk.congr (fun a _ => cF_zero fn (codeOf p fn) a)
  have HW := Lib.hid hW
  clear hW hb0 hz1 hmk
  by_cases hin : withinB fn p.funcs.length = true
  case neg =>
    have hc : codeOf p fn = [] := by unfold codeOf; rw [if_neg hin]
    have hP : CodePost p fn w (.returned (.map (some (w.heap.size + 1)))) W := by
      refine ⟨_, 0, rfl, ?_, by omega, hb1⟩
      rw [hc] at hm0 ⊢
      exact hm0
    clear hm0 hc hfs hb1
    have HP := Lib.hid hP; clear hP
    by_cases h0 : 0 ≤ fn
    · have h1 : ¬ fn < p.funcs.length := fun h => hin (by simp [withinB]; omega)
      clear hin
      go_enter Tryz.func131, Tryz.ntmps131
      go_upto_region 2 with fail
      rw [← HW.out]
      go_wp2_with fail
      go_ret
      exact HP.out
    · clear hin
      go_enter Tryz.func131, Tryz.ntmps131
      go_upto_region 2 with fail
      rw [← HW.out]
      go_wp2_with fail
      go_ret
      exact HP.out
  obtain ⟨j, rfl, hj⟩ : ∃ j : Nat, fn = j ∧ j < p.funcs.length := by
    simp [withinB] at hin
    exact ⟨fn.toNat, by omega, by omega⟩
  have hc : codeOf p (j : Int) = p.funcs[j].code := by unfold codeOf; rw [if_pos hin]; simp [hj]
  obtain ⟨b, o, rfl, _, y0, y1, y2, y3, y4, g0, g1, g2, g3, g4, hfv⟩ := hfs j hj
  obtain ⟨_, _, _, _, e0, e1, rfl, hsc⟩ := hfv
  rw [hc] at hln hm0
  unfold CodePost
  rw [hc]
  clear hc hfs hin g0 g1 g2 g3
  generalize p.funcs[j].code = C at *
  have hj1 : (j : Int) < p.funcs.length := by omega
  have HM0 := Lib.hid hm0; clear hm0
  have HSC := Lib.hid hsc; clear hsc
  have HT := Lib.hid ht; clear ht
  have HB1 := Lib.hid hb1; clear hb1
  have HD := Lib.hid hD; clear hD
  go_enter Tryz.func131, Tryz.ntmps131
  go_upto_region 2 with fail
  rw [← HW.out]
  go_wp2_with fail
  go_loopw [25] (fun i wr => ∃ k m : Nat, k ≤ C.length ∧ i = .int .i64 k ∧ CodeMap wr (w.heap.size + 1) m (cF j C k) ∧ m ≤ k ∧ Fr (fun q => q = w.heap.size + 1) W wr) (fun i _ => C.length - (intOf i).toNat)
  case atStart => exact ⟨0, 0, Nat.zero_le _, rfl, HM0.out, Nat.le_refl _, Fr.refl _ _⟩
  case round =>
    obtain ⟨k, m, hk, rfl, hm, hmk, hf⟩ := hrel
    by_cases hlt : k < C.length
    · obtain ⟨b', o', rfl, _, x0, x1, x2, x3⟩ := (HSC.out.fr hf (fun q hq e => by have := HD.out q hq; omega)) k hlt
      have hcs := fun h => cF_succ j C k hlt h
      have hk64 : i64B (k : Int) := ⟨by omega, by omega⟩
      generalize C[k] = x at *
      have hbs := (Below.refl wr.heap.size wr).alloc (Nat.le_refl _) (.cells #[.int .i64 x.op, .int .i64 x.a, .int .i64 x.b, .int .i64 x.c] 59)
      have hly := heap_new wr (.cells #[.int .i64 x.op, .int .i64 x.a, .int .i64 x.b, .int .i64 x.c] 59)
      have hmS := hm.below hbs
      obtain ⟨y, hy⟩ : ∃ y, y = wr.heap.size := ⟨_, rfl⟩
      obtain ⟨wS, hwS⟩ : ∃ wS, wS = wr.alloc (.cells #[.int .i64 x.op, .int .i64 x.a, .int .i64 x.b, .int .i64 x.c] 59) := ⟨_, rfl⟩
      rw [← hwS] at hbs hmS
      rw [← hwS, ← hy] at hly
      have z0 := (row_cell hly 0).1
      have z1 := (row_cell hly 1).1
      have z2 := (row_cell hly 2).1
      have z3 := (row_cell hly 3).1
      have z0 : wS.cell? ⟨y, 0, none⟩ = some (.int .i64 x.op) := z0
      have z1 : wS.cell? ⟨y, 1, none⟩ = some (.int .i64 x.a) := z1
      have z2 : wS.cell? ⟨y, 2, none⟩ = some (.int .i64 x.b) := z2
      have z3 : wS.cell? ⟨y, 3, none⟩ = some (.int .i64 x.c) := z3
      have hfS := hf.trans (Fr.of_below hbs (fun q => q = w.heap.size + 1)) (fun _ _ h => h)
      have HWS := Lib.hid hwS
      have HY := Lib.hid hy
      clear hwS hy hly hm hf hbs
      have HMS := Lib.hid hmS; clear hmS
      have HFS := Lib.hid hfS; clear hfS
      have HCS := Lib.hid hcs; clear hcs
      go_upto_region 6 with fail
      rw [← HWS.out, ← HY.out]
      clear x0 x1 x2 x3
      go_wp2_with (refine put_map rfl (.tmp 30) (.tmp 33) (.tmp 34) 178 59 rfl HMS.out HT.out (by unfold maxLen; omega) ⟨((j : Int), (k : Int)), hfn, hk64⟩ trivial x rfl rfl rfl ?_; intro w1 hm1 ht1)
      have hm3 : CodeMap w1 (w.heap.size + 1) _ (cF j C (k + 1)) := hm1.congr (fun a _ => HCS.out ⟨hfn, hk64⟩ a)
      have hn3 : (if (cF j C k ⟨((j : Int), (k : Int)), hfn, hk64⟩).isSome then m else m + 1) ≤ k + 1 := by split <;> omega
      have hf3 := HFS.out.trans (turned_fr ht1) (fun _ _ h => h)
      clear hm1 ht1
      have HM3 := Lib.hid hm3; clear hm3
      have HN3 := Lib.hid hn3; clear hn3
      have HF3 := Lib.hid hf3; clear hf3
      go_wp2_with fail
      go_roundw
      case rel => exact ⟨k + 1, _, by omega, by go_num, HM3.out, HN3.out, HF3.out⟩
      case measure => simp [intOf]; omega
    · have hk' : k = C.length := by omega
      subst hk'
      have hbf : Below w.heap.size w wr := HB1.out.trans (hf.below HB1.out.size (fun q hq => by omega))
      have HM := Lib.hid hm; clear hm
      have HBF := Lib.hid hbf; clear hbf
      clear hf
      go_wp2_with fail
      go_ret
      exact ⟨_, _, rfl, HM.out, by omega, HBF.out⟩
end Go.Proofs.YthkhgihjigmkoaaGreat
