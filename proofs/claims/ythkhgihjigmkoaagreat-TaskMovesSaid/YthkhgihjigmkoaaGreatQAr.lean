/- Walk: a task as it is. -/
import Derived.Test.YthkhgihjigmkoaaGreatQAq
import Derived.Test.YthkhgihjigmkoaaGreatQAl
set_option linter.unusedVariables false
set_option linter.unusedSimpArgs false
namespace Go.Proofs.YthkhgihjigmkoaaGreat.Tk
open Go.ChangeShapes Go.WideShapes Go.ChangeAt Go.RowKit Go.Maps
set_option maxRecDepth 100000 in
set_option maxHeartbeats 3200000 in
theorem life_any (w : World) (F : Nat → Prop) (tb : Nat) (p : TPrg) (T : Tk) (X : TB) (h : TaskAt w F tb p T X) (hlen : T.parts.length ≤ 1000) (hth : ∀ q ∈ T.parts, q.tn = 0) (sl : Nat)
    (hspot : ∀ wr, Below w.heap.size w wr → ∀ d : Nat, d < T.parts.length → Calls Tryz.prog 63 #[.pointer (some ⟨tb, 0, none⟩), .int .i64 d] wr fun e w' => ∃ s : SpotV, e = .returned (.agg #[.int .i64 s.x0, .int .i64 s.x1, .int .i64 s.x2, .bool s.b3, .bool s.b4, .int .i64 s.x5, .bool s.b6, .slice s.a7 sl s.c7, .slice s.a8 s.n8 s.c8]) ∧ Below wr.heap.size wr w') :
    Calls Tryz.prog 21 #[.pointer (some ⟨tb, 0, none⟩)] w fun e w' => ∃ (fr : List SpotV) (v : Value) (g1 : Option Addr) (g2 g3 : Nat), e = .returned (.agg #[.int .i64 0, .int .i64 T.base, .int .i64 T.words.length, v, .slice g1 g2 g3, .slice none 0 0, .bool false]) ∧ Own spotE w' w.heap.size v fr ∧ fr.length = T.parts.length ∧ (∀ s ∈ fr, s.n7 = sl) ∧ Below w.heap.size w w' := by
  have bs := fun wr (hw : Below w.heap.size w wr) => base_any wr X.sb X.wb T.base T.words (h.below hw).st
  have cp := fun wr (hw : Below w.heap.size w wr) => cap_any wr F tb p T X (h.below hw)
  have ca := cloneAlarms_nil
  have hb1 := (Below.refl w.heap.size w).alloc (Nat.le_refl _) (.cells #[.int .i64 0, .int .i64 0, .int .i64 0, .slice none 0 0, .slice none 0 0, .slice none 0 0, .bool false] 47)
  have hrow := heap_new w (.cells #[.int .i64 0, .int .i64 0, .int .i64 0, .slice none 0 0, .slice none 0 0, .slice none 0 0, .bool false] 47)
  have hTT : ∀ wr, Below w.heap.size w wr → TaskAt wr F tb p T X := fun wr hw => h.below hw
  have hc := h.below hb1
  obtain ⟨_, _, _, q3, q4, _, q6, _⟩ := hc.cells
  obtain ⟨W, hW⟩ : ∃ W, W = w.alloc (.cells #[.int .i64 0, .int .i64 0, .int .i64 0, .slice none 0 0, .slice none 0 0, .slice none 0 0, .bool false] 47) := ⟨_, rfl⟩
  rw [← hW] at hb1 hrow q3 q4 q6
  have HW := Lib.hid hW
  clear hW hc h
  have BS := Lib.hid bs; clear bs
  have CP := Lib.hid cp; clear cp
  have CA := Lib.hid ca; clear ca
  have HB1 := Lib.hid hb1; clear hb1
  have HROW := Lib.hid hrow; clear hrow
  have HTT := Lib.hid hTT; clear hTT
  have HSPOT := Lib.hid hspot; clear hspot
  go_enter Tryz.func21, Tryz.ntmps21
  go_upto_region 1 with fail
  rw [← HW.out]
  go_upto_region 3 with fail
  have hr0 := HB1.out.drew
  have hr1 := (HB1.out.alloc HB1.out.size (.cells #[.int .i64 0, .int .i64 0, .int .i64 0, .slice none 0 0, .slice none 0 0, .slice none 0 0, .bool false] 47)).drew
  have hw0 := Below.refl W.heap.size W
  have HR0 := Lib.hid hr0; clear hr0
  have HR1 := Lib.hid hr1; clear hr1
  have HW0 := Lib.hid hw0; clear hw0
  go_cut [3] (fun t wx => ∃ z : Nat, t = .pointer (some ⟨z, 0, none⟩) ∧ wx.heap[z]? = some (.cells #[.int .i64 0, .int .i64 T.base, .int .i64 T.words.length, .slice none 0 0, .slice none 0 0, .slice none 0 0, .bool false] 47) ∧ W.heap.size ≤ z ∧ Below W.heap.size W wx)
  case first =>
    have b3 := World.block_lt q3
    dsimp only at b3
    go_region_law (first | (go_simp; go_at_call 61; refine (BS.out _ (by first | exact HR0.out | exact HR1.out)).mono ?_; rintro e wq ⟨rfl, rfl⟩) | (go_simp; go_at_call 37; refine (CP.out _ (by first | exact HR0.out | exact HR1.out)).mono ?_; rintro e wq ⟨rfl, rfl⟩) | (go_simp; go_at_call 62; refine (CA.out _).mono ?_; rintro e wq ⟨rfl, rfl⟩))
    all_goals
      go_wp2_with fail
      go_meet
      case rel => exact ⟨_, rfl, heap_new _ _, Nat.le_refl _, (HW0.out.drew).alloc (HW0.out.size) _⟩
  case rest =>
    obtain ⟨z, rfl, hz, hzW, hR⟩ := hcut
    have q4c := below_cell hR q4
    obtain ⟨ap, cpp, hpv, _⟩ := (HTT.out wc (HB1.out.trans (hR.mono HB1.out.size))).pv
    rw [hpv] at q4c
    have hzl := heap_lt hz
    have hWs := heap_lt HROW.out
    have HPV := Lib.hid hpv
    clear hpv q3 q4 q6
    have HZ := Lib.hid hz; clear hz
    have HR := Lib.hid hR; clear hR
    go_wp2_with fail
    go_loopw [31] (fun i wr => ∃ k : Nat, k ≤ T.parts.length ∧ i = .int .i64 k ∧ ∃ fr ts vf vt, wr.heap[z]? = some (.cells #[.int .i64 0, .int .i64 T.base, .int .i64 T.words.length, vf, vt, .slice none 0 0, .bool false] 47) ∧ Own spotE wr (z + 1) vf fr ∧ Own thsE wr (z + 1) vt ts ∧ fr.length = k ∧ ts.length = k ∧ (∀ s ∈ fr, s.n7 = sl) ∧ Below W.heap.size W wr) (fun i _ => T.parts.length - (intOf i).toNat)
    case atStart => exact ⟨0, Nat.zero_le _, rfl, [], [], _, _, HZ.out, Own.nil _ _ _, Own.nil _ _ _, rfl, rfl, fun s hs => (by cases hs), HR.out⟩
    case round =>
      clear q4c
      obtain ⟨k, hk, rfl, fr, ts, vf, vt, hz, hvf, hvt, hfl, htl, hn7, hR⟩ := hrel
      by_cases hlt : k < T.parts.length
      · have hbw := HB1.out.trans (hR.mono HB1.out.size)
        obtain ⟨a, c, hpv2, hel⟩ := (HTT.out wr hbw).pv
        rw [HPV.out] at hpv2
        injection hpv2 with e1 _ e3
        subst e1 e3
        obtain ⟨b, rfl, _, k0, k1, k2, k3, k4⟩ := hel k hlt
        have htn := hth _ (List.getElem_mem hlt)
        generalize T.parts[k] = q at *
        rw [htn] at k4
        obtain ⟨f1, f2, f3, rfl⟩ := hvf.slice
        obtain ⟨g1, g2, g3, rfl⟩ := hvt.slice
        have hz5 := row_alloc hz (.cells #[.int .i64 q.fn, .int .i64 q.pc, .int .i64 q.base, .int .i64 q.ret, .slice q.ta 0 q.tc] 100)
        have hb5 := hbw.alloc hbw.size (.cells #[.int .i64 q.fn, .int .i64 q.pc, .int .i64 q.base, .int .i64 q.ret, .slice q.ta 0 q.tc] 100)
        have hbR := hR.alloc hR.size (.cells #[.int .i64 q.fn, .int .i64 q.pc, .int .i64 q.base, .int .i64 q.ret, .slice q.ta 0 q.tc] 100)
        have hvf5 := hvf.alloc (.cells #[.int .i64 q.fn, .int .i64 q.pc, .int .i64 q.base, .int .i64 q.ret, .slice q.ta 0 q.tc] 100)
        have hvt5 := hvt.alloc (.cells #[.int .i64 q.fn, .int .i64 q.pc, .int .i64 q.base, .int .i64 q.ret, .slice q.ta 0 q.tc] 100)
        have hp4 := heap_new wr (.cells #[.int .i64 q.fn, .int .i64 q.pc, .int .i64 q.base, .int .i64 q.ret, .slice q.ta 0 q.tc] 100)
        have hzlt := heap_lt hz
        clear hz hbw hR hvf hvt hel htn
        have HZ5 := Lib.hid hz5; clear hz5
        have HB5 := Lib.hid hb5; clear hb5
        have HBR := Lib.hid hbR; clear hbR
        have HVF5 := Lib.hid hvf5; clear hvf5
        have HVT5 := Lib.hid hvt5; clear hvt5
        have HP4 := Lib.hid hp4; clear hp4
        go_upto_region 7 with fail
        obtain ⟨w5, hw5⟩ : ∃ w5, w5 = wr.alloc (.cells #[.int .i64 q.fn, .int .i64 q.pc, .int .i64 q.base, .int .i64 q.ret, .slice q.ta 0 q.tc] 100) := ⟨_, rfl⟩
        rw [← hw5] at HZ5 HB5 HBR HVF5 HVT5 HP4 ⊢
        clear hw5 k0 k1 k2 k3 k4
        have z3 : w5.cell? ⟨z, 3, none⟩ = some (.slice f1 f2 f3) := (row_cell HZ5.out 3).1
        go_region_law (first | (go_simp; go_at_call 63; refine (HSPOT.out _ HB5.out.drew k hlt).mono ?_; rintro e w6 ⟨sv, rfl, hb6⟩; have hz6 := (Fr.of_below hb6 (fun _ => False)).heap (show w5.drew.heap[z]? = _ from HZ5.out) (fun h => h); have z3 : w6.cell? ⟨z, 3, none⟩ = some (.slice f1 f2 f3) := (row_cell hz6 3).1; have zb := heap_lt hz6) | (refine step_append_fresh spotE rfl (.tmp 37) (.tmp 41) rfl (z + 1) fr [⟨sv.x0, sv.x1, sv.x2, sv.b3, sv.b4, sv.x5, sv.b6, sv.a7, sl, sv.c7, sv.a8, sv.n8, sv.c8⟩] _ rfl ((HVF5.out.drew.below hb6).alloc _) w6.heap.size 0 1 rfl (CellsAt.new _ _ _ _) (by show fr.length + 1 ≤ 100000000; omega) (by simp; omega) ?_; intro v7 w7 ho7 hg7 hf7; obtain ⟨y1, y2, y3, rfl⟩ := ho7.slice; have hz7 := (hg7.block z (by simp; omega) (fun e => by have := (HVF5.out.lt e.symm).1; omega)).trans ((Below.heap_alloc w6 _ z zb).trans hz6); have fz : w7.frozen? ⟨z, 3, none⟩ = false := (row_cell hz7 3).2; have z3 : w7.cell? ⟨z, 3, none⟩ = some (.slice f1 f2 f3) := (row_cell hz7 3).1))
        all_goals
          have hg8 : (w6.alloc (.cells #[.int .i64 sv.x0, .int .i64 sv.x1, .int .i64 sv.x2, .bool sv.b3, .bool sv.b4, .int .i64 sv.x5, .bool sv.b6, .slice sv.a7 sl sv.c7, .slice sv.a8 sv.n8 sv.c8] 51)).grownBy w7 (Value.slice f1 f2 f3).ownBlock := hg7
          have hfr7 := (((Fr.refl (fun q => (Value.slice f1 f2 f3).ownBlock = some q) w5).drew.trans (Fr.of_below hb6 _) (fun _ _ h => h)).alloc (.cells #[.int .i64 sv.x0, .int .i64 sv.x1, .int .i64 sv.x2, .bool sv.b3, .bool sv.b4, .int .i64 sv.x5, .bool sv.b6, .slice sv.a7 sl sv.c7, .slice sv.a8 sv.n8 sv.c8] 51)).grown hg8 (fun k hk _ => hk)
          have hfr8 := (hfr7.mono (G := fun q => (Value.slice f1 f2 f3).ownBlock = some q ∨ q = z) (fun k hk => .inl hk)).setCell (p := ⟨z, 3, none⟩) (fun _ => .inr rfl) (.slice y1 y2 y3)
          have hfz := (Fr.refl (fun q => q = z) w7).setCell (p := ⟨z, 3, none⟩) (fun _ => rfl) (.slice y1 y2 y3)
          have hz8 := row_set hz7 3 (.slice y1 y2 y3)
          have ho8 := ho7.fr hfz (fun q hq e => by have := (ho7.lt hq).1; omega)
          have hv8 := HVT5.out.fr hfr8 (fun q hq e => e.elim (fun e => by obtain ⟨_, _, c1⟩ := own_row HVF5.out e; obtain ⟨_, _, c2⟩ := own_row HVT5.out hq; exact cells_ne c1 c2 (by decide) rfl) (fun e => by have := (HVT5.out.lt hq).1; omega))
          have hp8 := hfr8.heap HP4.out (fun e => e.elim (fun e => by obtain ⟨_, _, c1⟩ := own_row HVF5.out e; exact cells_ne c1 HP4.out (by decide) rfl) (fun e => by omega))
          have hb8 := HBR.out.trans (hfr8.below HBR.out.size (fun q hq => hq.elim (fun e => by have := (HVF5.out.lt e).1; omega) (fun e => by omega)))
          clear hg7 hg8 hf7 ho7 hfr7 hfr8 hfz hz7 fz z3 hb6 hz6 zb
          have HZ8 := Lib.hid hz8; clear hz8
          have HO8 := Lib.hid ho8; clear ho8
          have HV8 := Lib.hid hv8; clear hv8
          have HP8 := Lib.hid hp8; clear hp8
          have HB8 := Lib.hid hb8; clear hb8
          go_upto_region 9 with fail
          obtain ⟨w8, hw8⟩ : ∃ w8, w8 = w7.setCell ⟨z, 3, none⟩ (.slice y1 y2 y3) := ⟨_, rfl⟩
          rw [← hw8] at HZ8 HO8 HV8 HP8 HB8 ⊢
          clear hw8
          have p4 : w8.cell? ⟨wr.heap.size, 4, none⟩ = some (.slice q.ta 0 q.tc) := (row_cell HP8.out 4).1
          generalize wr.heap.size = pb at *
          go_wp2_with fail
          go_loopw [6, 47] (fun l i wq => l = .slice none 0 0 ∧ i = .int .i64 0 ∧ wq = w8) (fun _ _ _ => 0)
          case atStart => exact ⟨rfl, rfl, by first | rfl | trivial⟩
          case round =>
            obtain ⟨rfl, rfl, rfl⟩ := hrel
            clear p4
            have z4 : wr.cell? ⟨z, 4, none⟩ = some (.slice g1 g2 g3) := (row_cell HZ8.out 4).1
            have zl := heap_lt HZ8.out
            go_wp2_with (at_builtin; refine append_fresh thsE rfl (.tmp 62) (.tmp 64) rfl (z + 1) ts [(none, 0, 0)] _ rfl (HV8.out.alloc _) wr.heap.size 0 1 rfl (CellsAt.new _ _ _ _) ?c1 ?c2 ?_)
            case c1 => first | omega | (show ts.length + 1 ≤ 100000000; omega)
            case c2 => simp; omega
            intro v9 w9 ho9 hg9 hf9
            obtain ⟨x1, x2, x3, rfl⟩ := ho9.slice
            have hfr9 := ((Fr.refl (fun k => (Value.slice g1 g2 g3).ownBlock = some k) wr).alloc (.cells #[.slice none 0 0] 98)).grown hg9 (fun k hk _ => hk)
            have hz9 := hfr9.heap HZ8.out (fun e => by have := (HV8.out.lt e).1; omega)
            have fz : w9.frozen? ⟨z, 4, none⟩ = false := (row_cell hz9 4).2
            have z4 : w9.cell? ⟨z, 4, none⟩ = some (.slice g1 g2 g3) := (row_cell hz9 4).1
            have hfr10 := (hfr9.mono (G := fun k => (Value.slice g1 g2 g3).ownBlock = some k ∨ k = z) (fun k hk => .inl hk)).setCell (p := ⟨z, 4, none⟩) (fun _ => .inr rfl) (.slice x1 x2 x3)
            have hfz := (Fr.refl (fun k => k = z) w9).setCell (p := ⟨z, 4, none⟩) (fun _ => rfl) (.slice x1 x2 x3)
            have hz10 := row_set hz9 4 (.slice x1 x2 x3)
            have ho10 := ho9.fr hfz (fun q hq e => by have := (ho9.lt hq).1; omega)
            have hv10 := HO8.out.fr hfr10 (fun q hq e => e.elim (fun e => by obtain ⟨_, _, c1⟩ := own_row HV8.out e; obtain ⟨_, _, c2⟩ := own_row HO8.out hq; exact cells_ne c1 c2 (by decide) rfl) (fun e => by have := (HO8.out.lt hq).1; omega))
            have hb10 := HB8.out.trans (hfr10.below HB8.out.size (fun q hq => hq.elim (fun e => by have := (HV8.out.lt e).1; omega) (fun e => by omega)))
            have hl1 : (fr ++ [(⟨sv.x0, sv.x1, sv.x2, sv.b3, sv.b4, sv.x5, sv.b6, sv.a7, sl, sv.c7, sv.a8, sv.n8, sv.c8⟩ : SpotV)]).length = k + 1 := by rw [List.length_append, hfl]; rfl
            have hl2 : (ts ++ [((none, 0, 0) : Option Addr × Nat × Nat)]).length = k + 1 := by rw [List.length_append, htl]; rfl
            have hn8 : ∀ s ∈ fr ++ [(⟨sv.x0, sv.x1, sv.x2, sv.b3, sv.b4, sv.x5, sv.b6, sv.a7, sl, sv.c7, sv.a8, sv.n8, sv.c8⟩ : SpotV)], s.n7 = sl := fun s hs => by
              rcases List.mem_append.1 hs with h1 | h1
              · exact hn7 s h1
              · simp at h1; rw [h1]
            clear hg9 hf9 ho9 hfr9 hz9 hfr10 hfz
            have HZ10 := Lib.hid hz10; clear hz10
            have HO10 := Lib.hid ho10; clear ho10
            have HV10 := Lib.hid hv10; clear hv10
            have HB10 := Lib.hid hb10; clear hb10
            have HL1 := Lib.hid hl1; clear hl1
            have HL2 := Lib.hid hl2; clear hl2
            have HN8 := Lib.hid hn8; clear hn8
            go_wp2_with fail
            go_roundw
            case rel => exact ⟨k + 1, by omega, by go_num, _, _, _, _, HZ10.out, HV10.out, HO10.out, HL1.out, HL2.out, HN8.out, HB10.out⟩
            case measure => simp [intOf]; omega
      · have hk' : k = T.parts.length := by omega
        subst hk'
        obtain ⟨f1, f2, f3, rfl⟩ := hvf.slice
        obtain ⟨g1, g2, g3, rfl⟩ := hvt.slice
        have z0 := (row_cell hz 0).1
        have z1 := (row_cell hz 1).1
        have z2 := (row_cell hz 2).1
        have z3 := (row_cell hz 3).1
        have z4 := (row_cell hz 4).1
        have z5 := (row_cell hz 5).1
        have z6 := (row_cell hz 6).1
        have hro := (Fr.of_below hR (fun _ => False)).heap HROW.out (fun h => h)
        have j0 := row_cell hro 0
        have j1 := row_cell hro 1
        have j2 := row_cell hro 2
        have j3 := row_cell hro 3
        have j4 := row_cell hro 4
        have j5 := row_cell hro 5
        have j6 := row_cell hro 6
        obtain ⟨j0, f0⟩ : wr.cell? ⟨w.heap.size, 0, none⟩ = some (.int .i64 0) ∧ wr.frozen? ⟨w.heap.size, 0, none⟩ = false := j0
        obtain ⟨j1, f1'⟩ : wr.cell? ⟨w.heap.size, 1, none⟩ = some (.int .i64 0) ∧ wr.frozen? ⟨w.heap.size, 1, none⟩ = false := j1
        obtain ⟨j2, f2'⟩ : wr.cell? ⟨w.heap.size, 2, none⟩ = some (.int .i64 0) ∧ wr.frozen? ⟨w.heap.size, 2, none⟩ = false := j2
        obtain ⟨j3, f3'⟩ : wr.cell? ⟨w.heap.size, 3, none⟩ = some (.slice none 0 0) ∧ wr.frozen? ⟨w.heap.size, 3, none⟩ = false := j3
        obtain ⟨j4, f4⟩ : wr.cell? ⟨w.heap.size, 4, none⟩ = some (.slice none 0 0) ∧ wr.frozen? ⟨w.heap.size, 4, none⟩ = false := j4
        obtain ⟨j5, f5⟩ : wr.cell? ⟨w.heap.size, 5, none⟩ = some (.slice none 0 0) ∧ wr.frozen? ⟨w.heap.size, 5, none⟩ = false := j5
        obtain ⟨j6, f6⟩ : wr.cell? ⟨w.heap.size, 6, none⟩ = some (.bool false) ∧ wr.frozen? ⟨w.heap.size, 6, none⟩ = false := j6
        have hbr := HB1.out.trans (hR.mono HB1.out.size)
        have hf := (((((((Fr.refl (fun q => q = w.heap.size) wr).setCell (p := ⟨w.heap.size, 0, none⟩) (fun _ => rfl) (.int .i64 0)).setCell (p := ⟨w.heap.size, 1, none⟩) (fun _ => rfl) (.int .i64 T.base)).setCell (p := ⟨w.heap.size, 2, none⟩) (fun _ => rfl) (.int .i64 T.words.length)).setCell (p := ⟨w.heap.size, 3, none⟩) (fun _ => rfl) (.slice f1 f2 f3)).setCell (p := ⟨w.heap.size, 4, none⟩) (fun _ => rfl) (.slice g1 g2 g3)).setCell (p := ⟨w.heap.size, 5, none⟩) (fun _ => rfl) (.slice none 0 0)).setCell (p := ⟨w.heap.size, 6, none⟩) (fun _ => rfl) (.bool false)
        have hr7 := row_set (row_set (row_set (row_set (row_set (row_set (row_set hro 0 (.int .i64 0)) 1 (.int .i64 T.base)) 2 (.int .i64 T.words.length)) 3 (.slice f1 f2 f3)) 4 (.slice g1 g2 g3)) 5 (.slice none 0 0)) 6 (.bool false)
        have hof := (hvf.fr hf (fun q hq e => by have := (hvf.lt hq).1; omega)).base (B' := w.heap.size) (fun q hq => by have := (hvf.lt hq).1; omega)
        have hbf := hbr.trans (hf.below hbr.size (fun q hq => by omega))
        have hP : (fun (e : Ending) (w' : World) => ∃ (fr : List SpotV) (v : Value) (g1 : Option Addr) (g2 g3 : Nat), e = .returned (.agg #[.int .i64 0, .int .i64 T.base, .int .i64 T.words.length, v, .slice g1 g2 g3, .slice none 0 0, .bool false]) ∧ Own spotE w' w.heap.size v fr ∧ fr.length = T.parts.length ∧ (∀ s ∈ fr, s.n7 = sl) ∧ Below w.heap.size w w') (.returned (.agg #[.int .i64 0, .int .i64 T.base, .int .i64 T.words.length, .slice f1 f2 f3, .slice g1 g2 g3, .slice none 0 0, .bool false])) _ := ⟨fr, _, _, _, _, rfl, hof, hfl, hn7, hbf⟩
        clear hz hvf hvt hfl htl hn7 hR hro hbr hf hof hbf
        have HP := Lib.hid hP; clear hP
        have HR7 := Lib.hid hr7; clear hr7
        go_wp2_with (with_reducible refine bodyPost_ret ?_ rfl HP.out; have k0 := (row_cell HR7.out 0).1; have k1 := (row_cell HR7.out 1).1; have k2 := (row_cell HR7.out 2).1; have k3 := (row_cell HR7.out 3).1; have k4 := (row_cell HR7.out 4).1; have k5 := (row_cell HR7.out 5).1; have k6 := (row_cell HR7.out 6).1; simp at k0 k1 k2 k3 k4 k5 k6; simp [results, Tryz.results21, go_sem, k0, k1, k2, k3, k4, k5, k6])
end Go.Proofs.YthkhgihjigmkoaaGreat.Tk
