/- TaskMoves: a stack that is moved has all its words; places go along, wherever they stand; numbers that look like them do not. No condition. -/
import Derived.Test.YthkhgihjigmkoaaGreatQBr
import Derived.Test.YthkhgihjigmkoaaGreatQBs
import Derived.Test.YthkhgihjigmkoaaGreatRows
import Derived.Deep.Upon
set_option linter.unusedVariables false
set_option linter.unusedSimpArgs false
/- TaskMoves: a stack that is moved has all its words; places go along, wherever they stand; numbers that look like them do not. No condition. -/
namespace Go.Proofs.YthkhgihjigmkoaaGreat.taskMoves
open Go.ChangeShapes Go.WideShapes Go.ChangeAt Go.RowKit Go.Maps Tk
theorem nine_fr (X : World) (v0 v1 v2 v3 v4 v5 v6 v7 v8 : Value) (z : Nat) : Fr (fun k => k = z) X (((((((((X.setCell ⟨z, 0, none⟩ v0).setCell ⟨z, 1, none⟩ v1).setCell ⟨z, 2, none⟩ v2).setCell ⟨z, 3, none⟩ v3).setCell ⟨z, 4, none⟩ v4).setCell ⟨z, 5, none⟩ v5).setCell ⟨z, 6, none⟩ v6).setCell ⟨z, 7, none⟩ v7).setCell ⟨z, 8, none⟩ v8) := ((((((((((Fr.refl (fun k => k = z) X).setCell (p := ⟨z, 0, none⟩) (fun _ => rfl) v0).setCell (p := ⟨z, 1, none⟩) (fun _ => rfl) v1).setCell (p := ⟨z, 2, none⟩) (fun _ => rfl) v2).setCell (p := ⟨z, 3, none⟩) (fun _ => rfl) v3).setCell (p := ⟨z, 4, none⟩) (fun _ => rfl) v4).setCell (p := ⟨z, 5, none⟩) (fun _ => rfl) v5).setCell (p := ⟨z, 6, none⟩) (fun _ => rfl) v6).setCell (p := ⟨z, 7, none⟩) (fun _ => rfl) v7).setCell (p := ⟨z, 8, none⟩) (fun _ => rfl) v8)
theorem nine_row {X : World} {z : Nat} {u0 u1 u2 u3 u4 u5 u6 u7 u8 : Value} {t : TypeId} (h : X.heap[z]? = some (.cells #[u0, u1, u2, u3, u4, u5, u6, u7, u8] t)) (v0 v1 v2 v3 v4 v5 v6 v7 v8 : Value) : (((((((((X.setCell ⟨z, 0, none⟩ v0).setCell ⟨z, 1, none⟩ v1).setCell ⟨z, 2, none⟩ v2).setCell ⟨z, 3, none⟩ v3).setCell ⟨z, 4, none⟩ v4).setCell ⟨z, 5, none⟩ v5).setCell ⟨z, 6, none⟩ v6).setCell ⟨z, 7, none⟩ v7).setCell ⟨z, 8, none⟩ v8).heap[z]? = some (.cells #[v0, v1, v2, v3, v4, v5, v6, v7, v8] t) := by
  have := (row_set (row_set (row_set (row_set (row_set (row_set (row_set (row_set (row_set h 0 v0) 1 v1) 2 v2) 3 v3) 4 v4) 5 v5) 6 v6) 7 v7) 8 v8)
  simpa using this
theorem nine_below {w X : World} (h : Below w.heap.size w X) (v0 v1 v2 v3 v4 v5 v6 v7 v8 : Value) {z : Nat} (hz : w.heap.size ≤ z) : Below w.heap.size w (((((((((X.setCell ⟨z, 0, none⟩ v0).setCell ⟨z, 1, none⟩ v1).setCell ⟨z, 2, none⟩ v2).setCell ⟨z, 3, none⟩ v3).setCell ⟨z, 4, none⟩ v4).setCell ⟨z, 5, none⟩ v5).setCell ⟨z, 6, none⟩ v6).setCell ⟨z, 7, none⟩ v7).setCell ⟨z, 8, none⟩ v8) :=
  h.trans ((nine_fr X v0 v1 v2 v3 v4 v5 v6 v7 v8 z).below h.size (fun _ e => e ▸ hz))
theorem below_al {w X : World} (h : Below w.heap.size w X) (o : Obj) : Below w.heap.size w (X.alloc o) := h.alloc h.size o
theorem int_at {w : World} {D : Nat → Prop} {a : Option Addr} {l : List Int} (h : IntSl w D a l) {i : Nat} {x : Int} (hi : l[i]? = some x) : ∃ b o, a = some ⟨b, o, none⟩ ∧ w.cell? ⟨b, o + i, none⟩ = some (.int .i64 x) := by
  obtain ⟨hl, he⟩ := List.getElem?_eq_some_iff.1 hi
  obtain ⟨b, o, h1, _, h2⟩ := h i hl
  rw [he] at h2
  exact ⟨b, o, h1, h2⟩
theorem int_two {w : World} {D : Nat → Prop} {a : Option Addr} {l : List Int} (h : IntSl w D a l) {x y : Int} (h0 : l[0]? = some x) (h2 : l[2]? = some y) : ∃ b o, a = some ⟨b, o, none⟩ ∧ w.cell? ⟨b, o, none⟩ = some (.int .i64 x) ∧ w.cell? ⟨b, o + 2, none⟩ = some (.int .i64 y) := by
  obtain ⟨b, o, e, c0⟩ := int_at h h0
  obtain ⟨b', o', e', c2⟩ := int_at h h2
  rw [e] at e'
  injection e' with e'
  injection e' with e1 e2
  subst e1 e2
  exact ⟨b, o, e, c0, c2⟩
theorem frame_facts {w : World} {B B' : Nat} {fr : List SpotV} {fa : Option Addr} {n fc : Nat} {A C : Nat → List Int} (ho : Own spotE w B (.slice fa n fc) fr) (hr : RowsF w B' 3 fr A C) (hn7 : ∀ s ∈ fr, s.n7 = 3) (d : Nat) (hd : d < fr.length) :
    ∃ (g : Nat) (s : SpotV) (D D' : Nat → Prop), fa = some ⟨g, 0, none⟩ ∧ (∀ r u, (spotE.enc s)[r]? = some u → w.cell? ⟨g, d * 9 + r, none⟩ = some u) ∧ s.n7 = 3 ∧ s.n8 = (C d).length ∧ IntSl w D s.a7 (A d) ∧ IntSl w D' s.a8 (C d) := by
  obtain ⟨a, c, he, hel⟩ := own_elems ho
  injection he with e1 e2 e3
  subst e1
  obtain ⟨g, h1, _, h2⟩ := hel d hd
  obtain ⟨h3, h4⟩ := hr d hd
  obtain ⟨a7, c7, e7, hs7⟩ := own_int h3
  obtain ⟨a8, c8, e8, hs8⟩ := own_int h4
  injection e7 with e7
  injection e8 with e8 e9
  subst e7 e8
  exact ⟨g, fr[d], _, _, h1, h2, hn7 _ (List.getElem_mem hd), e9, hs7, hs8⟩
theorem rowsLow {w1 w2 : World} {B sl : Nat} {fr : List SpotV} {A C : Nat → List Int} (h : RowsF w1 B sl fr A C) {G : Nat → Prop} (hf : Fr G w1 w2) (hG : ∀ q, G q → q < B) : RowsF w2 B sl fr A C :=
  fun d hd => ⟨(h d hd).1.fr hf (fun q hq e => by have := ((h d hd).1.lt hq).1; have := hG q e; omega), (h d hd).2.fr hf (fun q hq e => by have := ((h d hd).2.lt hq).1; have := hG q e; omega)⟩
theorem mapsBelow {w w' : World} {B mb b nm : Nat} {V : Nat → Prop} {C : Pl → Option (List Int)} (h : MapsAt w B mb b nm V C) (hb : Below w.heap.size w w') : MapsAt w' B mb b nm V C := by
  obtain ⟨h1, h2, h3, h4, h5⟩ := h
  exact ⟨(Fr.of_below hb (fun _ => False)).heap h1 (fun h => h), h2.fr (Fr.of_below hb (fun _ => False)) (fun h => h) (fun _ _ h => h), h3, h4, fun q hq => ⟨(h5 q hq).1, Nat.lt_of_lt_of_le (h5 q hq).2 hb.size⟩⟩
set_option maxRecDepth 100000 in
set_option maxHeartbeats 6400000 in
theorem walk (w : World) (n : Int) (w0 : (Lit.int .i64 n).wf = true) (serial : Int) (w1 : (Lit.int .i64 serial).wf = true) (more : Int) (w2 : (Lit.int .i64 more).wf = true) (v : Int) (w3 : (Lit.int .i64 v).wf = true) :
    Calls Tryz.prog 3 #[.int .i64 n, .int .i64 serial, .int .i64 more, .int .i64 v] w fun e w' => e = .returned (.bool true) ∧ Below w.heap.size w w' := by
  have al := Tk.alive16
  by_cases hout : n < 1 ∨ 12 < n ∨ serial < 1 ∨ 1000 < serial ∨ more < 0 ∨ 500 < more
  case pos =>
    clear w0 w1 w2 w3
    have AL := Lib.hid al; clear al
    by_cases c3 : n < 1
    · skip
      go_enter Tryz.func3, Tryz.ntmps3
      go_wp2_with fail
      refine (AL.out _).mono ?_
      rintro e w1 ⟨rfl, hb⟩
      have HB := Lib.hid hb
      clear hb
      go_wp2_with fail
      go_ret
      exact ⟨rfl, HB.out⟩
    by_cases c4 : 12 < n
    · skip
      go_enter Tryz.func3, Tryz.ntmps3
      go_wp2_with fail
      refine (AL.out _).mono ?_
      rintro e w1 ⟨rfl, hb⟩
      have HB := Lib.hid hb
      clear hb
      go_wp2_with fail
      go_ret
      exact ⟨rfl, HB.out⟩
    by_cases c5 : serial < 1
    · skip
      go_enter Tryz.func3, Tryz.ntmps3
      go_wp2_with fail
      refine (AL.out _).mono ?_
      rintro e w1 ⟨rfl, hb⟩
      have HB := Lib.hid hb
      clear hb
      go_wp2_with fail
      go_ret
      exact ⟨rfl, HB.out⟩
    by_cases c6 : 1000 < serial
    · skip
      go_enter Tryz.func3, Tryz.ntmps3
      go_wp2_with fail
      refine (AL.out _).mono ?_
      rintro e w1 ⟨rfl, hb⟩
      have HB := Lib.hid hb
      clear hb
      go_wp2_with fail
      go_ret
      exact ⟨rfl, HB.out⟩
    by_cases c7 : more < 0
    · skip
      go_enter Tryz.func3, Tryz.ntmps3
      go_wp2_with fail
      refine (AL.out _).mono ?_
      rintro e w1 ⟨rfl, hb⟩
      have HB := Lib.hid hb
      clear hb
      go_wp2_with fail
      go_ret
      exact ⟨rfl, HB.out⟩
    by_cases c8 : 500 < more
    · skip
      go_enter Tryz.func3, Tryz.ntmps3
      go_wp2_with fail
      refine (AL.out _).mono ?_
      rintro e w1 ⟨rfl, hb⟩
      have HB := Lib.hid hb
      clear hb
      go_wp2_with fail
      go_ret
      exact ⟨rfl, HB.out⟩
    exact absurd hout (by omega)
  have c3 : ¬ n < 1 := by omega
  have c4 : ¬ 12 < n := by omega
  have c5 : ¬ serial < 1 := by omega
  have c6 : ¬ 1000 < serial := by omega
  have c7 : ¬ more < 0 := by omega
  have c8 : ¬ 500 < more := by omega
  obtain ⟨m, rfl⟩ : ∃ m : Nat, n = m := ⟨n.toNat, by omega⟩
  obtain ⟨sr, rfl⟩ : ∃ sr : Nat, serial = sr := ⟨serial.toNat, by omega⟩
  obtain ⟨mo, rfl⟩ : ∃ mo : Nat, more = mo := ⟨more.toNat, by omega⟩
  clear hout w0 w1 w2 w3
  have on := Tk.one2_any
  have fp := fun wr D c0 c1 c2 hD hv => flowProg_any wr D hD pO c0 c1 c2 hv pO_B.1 pO_B.2
  have nw : ∀ wr D c0 c1 c2, (∀ k, D k → k < wr.heap.size) → PV wr D Tk.p1 c0 c1 c2 → Calls Tryz.prog 13 #[.agg #[c0, c1, c2], .int .i64 0, .slice none 0 0, .int .i64 0, .int .i64 8, .int .i64 2000] wr fun e w' => ∃ tb F X, e = .returned (.tuple #[.pointer (some ⟨tb, 0, none⟩), .int .i64 0]) ∧ TaskAt w' F tb Tk.p1 (enterT ⟨1073741824, List.replicate 8 0, [], []⟩ 0 7 0 (-1) []) X ∧ (∀ k, F k → wr.heap.size ≤ k) ∧ Below wr.heap.size wr w' := fun wr D c0 c1 c2 hD hv => by
    have := new_any wr D hD Tk.p1 c0 c1 c2 hv p1_small 0 (by decide) rfl (by decide) 0 (by omega) 8 2000 8 (by omega) (by omega) (by omega) (by rw [w10]; omega) (fun w => by rw [w10]; exact fit_stay w 8 _ (by omega) (by omega) (by omega))
    rw [w10] at this
    exact this
  have AL := Lib.hid al; clear al
  have ON := Lib.hid on; clear on
  have NW := Lib.hid nw; clear nw
  have FP := Lib.hid fp; clear fp
  go_enter Tryz.func3, Tryz.ntmps3
  go_wp2_with fail
  refine (AL.out _).mono ?_
  rintro e w1 ⟨rfl, hb1⟩
  have HB1 := Lib.hid hb1
  clear hb1
  go_wp2_with fail
  refine (ON.out _).mono ?_
  rintro e w2 ⟨e0, e1, e2, rfl, hv2, hg2, hb2⟩
  obtain ⟨⟨a0, n0, m0, rfl⟩, ⟨a1, m1, rfl, _⟩, a2, m2, rfl, _⟩ := id hv2
  have hb2 := HB1.out.trans (hb2.mono HB1.out.size)
  have hfa := (Fr.refl (fun _ => False) w2).alloc (.cells #[.slice a0 n0 m0, .slice a1 Tk.p1.shapes.length m1, .slice a2 Tk.p1.funcs.length m2] 27)
  have hv3 := hv2.fr hfa (fun _ _ h => h)
  have hg3 := hg2.fr hfa (fun _ _ h => h)
  have hb3 := hb2.alloc hb2.size (.cells #[.slice a0 n0 m0, .slice a1 Tk.p1.shapes.length m1, .slice a2 Tk.p1.funcs.length m2] 27)
  have hD3 : ∀ k, w1.heap.size ≤ k ∧ k < w2.heap.size → k < (w2.alloc (.cells #[.slice a0 n0 m0, .slice a1 Tk.p1.shapes.length m1, .slice a2 Tk.p1.funcs.length m2] 27)).heap.size := fun k hk => by simp; omega
  obtain ⟨W, hW⟩ : ∃ W, W = w2.alloc (.cells #[.slice a0 n0 m0, .slice a1 Tk.p1.shapes.length m1, .slice a2 Tk.p1.funcs.length m2] 27) := ⟨_, rfl⟩
  have hr3 := heap_new w2 (.cells #[.slice a0 n0 m0, .slice a1 Tk.p1.shapes.length m1, .slice a2 Tk.p1.funcs.length m2] 27)
  rw [← hW] at hv3 hg3 hb3 hD3 hr3
  have q0 : W.cell? ⟨w2.heap.size, 0, none⟩ = some (.slice a0 n0 m0) := (row_cell hr3 0).1
  have q1 : W.cell? ⟨w2.heap.size, 1, none⟩ = some (.slice a1 Tk.p1.shapes.length m1) := (row_cell hr3 1).1
  have q2 : W.cell? ⟨w2.heap.size, 2, none⟩ = some (.slice a2 Tk.p1.funcs.length m2) := (row_cell hr3 2).1
  have HW := Lib.hid hW
  clear hb2 hW hr3 hfa hv2 hg2
  have HV3 := Lib.hid hv3; clear hv3
  have HB3 := Lib.hid hb3; clear hb3
  have HD3 := Lib.hid hD3; clear hD3
  have HG3 := Lib.hid hg3; clear hg3
  go_upto_region 4 with fail
  rw [← HW.out]
  go_wp2_with fail
  refine (FP.out _ _ _ _ _ HD3.out HG3.out).mono ?_
  intro e w4 hpost
  obtain ⟨hb4, Ms, mb, b, nm, V, hMs, rfl, hmp⟩ := tab_flow (tb := tO) (by rw [pO_S]) pO_tab hpost
  clear hpost
  have hb04 := HB3.out.trans (hb4.mono HB3.out.size)
  have q0 := below_cell hb4 q0
  have q1 := below_cell hb4 q1
  have q2 := below_cell hb4 q2
  have hb5 : Below w4.heap.size w4 (w4.alloc (.cells #[.int .i64 0, .int .i64 0] 32)) := (Below.refl _ _).alloc (Nat.le_refl _) _
  have hv5 := (HV3.out.below hb4).below hb5
  have hD5 : ∀ k, w1.heap.size ≤ k ∧ k < w2.heap.size → k < (w4.alloc (.cells #[.int .i64 0, .int .i64 0] 32)).heap.size := fun k hk => Nat.lt_of_lt_of_le (HD3.out k hk) (Nat.le_trans hb4.size hb5.size)
  have HV4 := Lib.hid (HV3.out.below hb4)
  have HD4 := Lib.hid (fun k (hk : w1.heap.size ≤ k ∧ k < w2.heap.size) => Nat.lt_of_lt_of_le (HD3.out k hk) hb4.size)
  have HQ4 := Lib.hid (And.intro q0 (And.intro q1 q2))
  clear hb4
  obtain ⟨W5, hW5⟩ : ∃ W5, W5 = w4.alloc (.cells #[.int .i64 0, .int .i64 0] 32) := ⟨_, rfl⟩
  rw [← hW5] at hb5 hv5 hD5
  have q0 := below_cell hb5 q0
  have q1 := below_cell hb5 q1
  have q2 := below_cell hb5 q2
  have HW5 := Lib.hid hW5
  clear hW5
  have HB04 := Lib.hid hb04; clear hb04
  have HB5 := Lib.hid hb5; clear hb5
  have HV5 := Lib.hid hv5; clear hv5
  have HD5 := Lib.hid hD5; clear hD5
  have HMS := Lib.hid hMs; clear hMs
  have HMP := Lib.hid hmp; clear hmp
  go_upto_region 5 with fail
  rw [← HW5.out]
  go_wp2_with fail
  refine (NW.out _ _ _ _ _ HD5.out HV5.out).mono ?_
  rintro e w6 ⟨tb, F, X, rfl, hT, hF, hb6⟩
  have q0 := below_cell hb6 q0
  have q1 := below_cell hb6 q1
  have q2 := below_cell hb6 q2
  have hb46 := HB5.out.trans (hb6.mono HB5.out.size)
  have hI := MI.start 8 (by omega) 1073741824 v
  have hF6 : ∀ k, F k → w4.heap.size ≤ k := fun k hk => Nat.le_trans HB5.out.size (hF k hk)
  have hbs : baseOk (enterT ⟨1073741824, List.replicate 8 0, [], []⟩ 0 7 0 (-1) []).base := ⟨by decide, by decide⟩
  generalize enterT ⟨1073741824, List.replicate 8 0, [], []⟩ 0 7 0 (-1) [] = T at *
  clear hF hb6
  have HMB := Lib.hid (fun wr (hw : Below w4.heap.size w4 wr) => mapsBelow HMP.out hw)
  have HT := Lib.hid hT; clear hT
  have HB46 := Lib.hid hb46; clear hb46
  have HI := Lib.hid hI; clear hI
  have HF6 := Lib.hid hF6; clear hF6
  have HBS := Lib.hid hbs; clear hbs
  go_upto_region 8 with fail
  go_wp2_with fail
  go_loopw [15, 16] (fun i _ wr => ∃ k : Nat, k ≤ m ∧ i = .int .i64 k ∧ ∃ F T X wl, TaskAt wr F tb Tk.p1 T X ∧ MI T k wl v 0 ∧ wl ≤ 1000 ∧ baseOk T.base ∧ (∀ q, F q → w4.heap.size ≤ q) ∧ Below w4.heap.size w4 wr) (fun i _ _ => m - (intOf i).toNat)
  case atStart => exact ⟨0, Nat.zero_le _, rfl, F, T, X, 8, HT.out, HI.out, by omega, HBS.out, HF6.out, HB46.out⟩
  case round =>
    clear HT HI HF6 HB46 HBS
    obtain ⟨k, hk, rfl, F1, T1, X1, wl, hT1, hI1, hwl, hbs1, hF1, hB1⟩ := hrel
    by_cases hlt : k < m
    · have nd := fun wr (hw : Below w4.heap.size w4 wr) (h : TaskAt wr F1 tb Tk.p1 T1 X1) => needF h hI1 (by omega) hwl
      have nd := nd wr hB1 hT1
      obtain ⟨k1, hk1⟩ : ∃ k1, k1 = k + 1 := ⟨_, rfl⟩
      obtain ⟨h1, hh1⟩ : ∃ h1, h1 = 100 + k := ⟨_, rfl⟩
      obtain ⟨nw, hnw⟩ : ∃ nw, nw = 7 * (k + 2) := ⟨_, rfl⟩
      have i1 : IntKind.i64.wrap ((k : Int) + 1) = (k1 : Int) := by rw [show ((k : Int) + 1) = (k1 : Int) from by omega]; exact IntWalk.i64_in _ (by omega)
      have i3 : IntKind.i64.wrap (100 + (k : Int)) = (h1 : Int) := by rw [show (100 + (k : Int)) = (h1 : Int) from by omega]; exact IntWalk.i64_in _ (by omega)
      have hk12 : k < 12 := by omega
      have mvf := fun wr (hw : Below w4.heap.size w4 wr) (h : TaskAt wr F1 tb Tk.p1 T1 X1) => moveF h hI1 (by omega) hwl hbs1 HMS.out (fun wq hq => HMB.out wq (hw.trans (hq.mono hw.size))) h1 (by omega) nw (by omega) (by omega)
      rw [← hnw] at nd
      obtain ⟨nb, hnb⟩ : ∃ nb : Int, nb = 1073741824 + (h1 : Int) * 8192 := ⟨_, rfl⟩
      rw [← hnb] at mvf
      have hnb2 : baseOk nb := by unfold baseOk; omega
      have hTT := fun wr (hw : Below wr.heap.size wr wr) => hT1
      have HNW := Lib.hid hnw
      have HKK := Lib.hid hk1
      clear hnb hh1 hnw hk1 hTT
      have ND := Lib.hid nd; clear nd
      have MVF := Lib.hid mvf; clear mvf
      have HB1 := Lib.hid hB1; clear hB1
      have HF1 := Lib.hid hF1; clear hF1
      have HBS1 := Lib.hid hbs1; clear hbs1
      have HT1 := Lib.hid hT1; clear hT1
      go_wp2_with fail
      refine ND.out.mono ?_
      rintro e w7 ⟨rfl, hb7⟩
      have hB7 := HB1.out.trans (hb7.mono HB1.out.size)
      have mvf := MVF.out w7 hB7 (HT1.out.below hb7)
      clear hb7
      have MVF := Lib.hid mvf; clear mvf
      have HB7 := Lib.hid hB7; clear hB7
      go_wp2_with fail
      refine MVF.out.mono ?_
      rintro e w8 ⟨rfl, L, F2, X2, hml, hT2, hF2, hf2⟩
      have hI2 := hI1.move hml (by have := HNW.out; omega)
      have hF2' : ∀ q, F2 q → w4.heap.size ≤ q := fun q hq => (hF2 q hq).elim (HF1.out q) (fun h => Nat.le_trans HB7.out.size h)
      have hB8 := HB7.out.trans (hf2.below HB7.out.size (fun q hq => HF1.out q hq))
      obtain ⟨T2, hE2⟩ : ∃ T2, T2 = (⟨nb, L, T1.parts, T1.marks⟩ : Tk) := ⟨_, rfl⟩
      rw [← hE2] at hT2 hI2
      have hbT2 : T2.base = nb := by rw [hE2]
      have gt := gotoF hT2 hI2 (by omega) 1
      clear hml hF2 hf2 hT2 hE2 MVF ND HT1 HB1 HF1
      have GT := Lib.hid gt; clear gt
      have HB8 := Lib.hid hB8; clear hB8
      have HF2' := Lib.hid hF2'; clear hF2'
      go_wp2_with fail
      refine GT.out.mono ?_
      rintro e w9 ⟨rfl, T3, hT3, hI3, hbT3, _, hf3⟩
      have hB9 := HB8.out.trans (hf3.below HB8.out.size (fun q hq => HF2'.out q hq))
      have hbn3 : T3.base = nb := hbT3.trans hbT2
      have hnwl : nw ≤ 1000 := by have := HNW.out; omega
      have pf := placeF hT3 hI3 (by omega) hnwl (by rw [hbn3]; exact hnb2)
      rw [hbn3] at pf
      obtain ⟨pl, hpl⟩ : ∃ pl, pl = nb + ((7 * k + 5 : Nat) : Int) := ⟨_, rfl⟩
      rw [← hpl] at pf
      obtain ⟨pl1, hpl1⟩ : ∃ pl1, pl1 = pl + 1 := ⟨_, rfl⟩
      have hplb : 0 ≤ pl ∧ pl ≤ 2000000000000 := by obtain ⟨x1, x2⟩ := hnb2; omega
      have i5 : IntKind.i64.wrap (pl + 1) = pl1 := by rw [hpl1]; exact IntWalk.i64_in _ (by omega)
      obtain ⟨x, hx⟩ : ∃ x, IntKind.i64.wrap (v + (k : Int)) = x := ⟨_, rfl⟩
      have HPL := Lib.hid hpl
      have HPL1 := Lib.hid hpl1
      clear hf3 hpl hpl1 GT hbT3 hbT2
      have PF := Lib.hid pf; clear pf
      have HB9 := Lib.hid hB9; clear hB9
      have HT3 := Lib.hid hT3; clear hT3
      go_wp2_with fail
      refine PF.out.mono ?_
      rintro e w10 ⟨rfl, hb10⟩
      have hT3b := HT3.out.below hb10
      have hB10 := HB9.out.trans (hb10.mono HB9.out.size)
      have s2 : Calls Tryz.prog 18 #[.pointer (some ⟨tb, 0, none⟩), .int .i64 2, .int .i64 pl] w10 _ := setM hT3b hI3 (by omega) hnwl 2 (by omega) pl
      have hI4 := hI3.set (7 * k + (2 + 2)) (by omega) pl
      clear hb10 hT3b HT3 PF HB9
      have S2 := Lib.hid s2; clear s2
      have HB10 := Lib.hid hB10; clear hB10
      go_wp2_with fail
      refine S2.out.mono ?_
      rintro e w11 ⟨rfl, hT4, hf4⟩
      have hB11 := HB10.out.trans (hf4.below HB10.out.size (fun q hq => HF2'.out q hq))
      have s0 : Calls Tryz.prog 18 #[.pointer (some ⟨tb, 0, none⟩), .int .i64 0, .int .i64 pl] w11 _ := setM hT4 hI4 (by omega) hnwl 0 (by omega) pl
      have hI5 := hI4.set (7 * k + (2 + 0)) (by omega) pl
      clear hT4 hf4 S2 HB10
      have S0 := Lib.hid s0; clear s0
      have HB11 := Lib.hid hB11; clear hB11
      go_wp2_with fail
      refine S0.out.mono ?_
      rintro e w12 ⟨rfl, hT5, hf5⟩
      have hB12 := HB11.out.trans (hf5.below HB11.out.size (fun q hq => HF2'.out q hq))
      have pu := putF hT5 hI5 (by omega) hnwl (by show baseOk T3.base; rw [hbn3]; exact hnb2) pl1 (by show pl1 = T3.base + _; rw [hbn3, HPL1.out, HPL.out]; omega) x
      have hI6 := hI5.set (7 * k + 6) (by omega) x
      clear hT5 hf5 S0 HB11
      have PU := Lib.hid pu; clear pu
      have HB12 := Lib.hid hB12; clear hB12
      go_wp2_with fail
      refine PU.out.mono ?_
      rintro e w13 ⟨rfl, hT6, hf6⟩
      have hB13 := HB12.out.trans (hf6.below HB12.out.size (fun q hq => HF2'.out q hq))
      have en := enterM hT6 hI6 (by omega) hnwl (by have := HNW.out; omega) (k : Int) pl
      have hwl6 := hI6.wlen
      have hw3l : T3.words.length = nw := hI3.wlen
      have hI7 := hI6.enter (by have := HNW.out; omega) (k : Int) pl (by
        show (((T3.words.set (7 * k + (2 + 2)) pl).set (7 * k + (2 + 0)) pl).set (7 * k + 6) x)[7 * k + 4]? = some (T3.base + _)
        rw [List.getElem?_set_ne (by omega), List.getElem?_set_ne (by omega), List.getElem?_set_self (by have := HNW.out; omega), hbn3, HPL.out]) (by
        show (((T3.words.set (7 * k + (2 + 2)) pl).set (7 * k + (2 + 0)) pl).set (7 * k + 6) x)[7 * k + 6]? = _
        rw [List.getElem?_set_self (by have := HNW.out; simp; omega), hx])
      have hbn7 : (nextM (setT (setT (setT T3 (7 * k + (2 + 2)) pl) (7 * k + (2 + 0)) pl) (7 * k + 6) x) k (k : Int) pl).base = nb := hbn3
      generalize nextM (setT (setT (setT T3 (7 * k + (2 + 2)) pl) (7 * k + (2 + 0)) pl) (7 * k + 6) x) k (k : Int) pl = T7 at *
      clear hT6 hf6 PU HB12 hI3 hI4 hI5 hI6 hwl6 hw3l
      have EN := Lib.hid en; clear en
      have HB13 := Lib.hid hB13; clear hB13
      go_wp2_with fail
      refine EN.out.mono ?_
      rintro e w14 ⟨rfl, F7, X7, hT7, hF7, hf7⟩
      have hF7' : ∀ q, F7 q → w4.heap.size ≤ q := fun q hq => (hF7 q hq).elim (HF2'.out q) (fun h => Nat.le_trans HB13.out.size h)
      have hB14 := HB13.out.trans (hf7.below HB13.out.size (fun q hq => HF2'.out q hq))
      have hbs7 : baseOk T7.base := by rw [hbn7]; exact hnb2
      rw [← HKK.out] at hI7
      have hle1 : k1 ≤ m := by have := HKK.out; omega
      clear hF7 hf7 EN HB13
      have HF7' := Lib.hid hF7'; clear hF7'
      have HB14 := Lib.hid hB14; clear hB14
      have HT7 := Lib.hid hT7; clear hT7
      have HI7 := Lib.hid hI7; clear hI7
      have HBS7 := Lib.hid hbs7; clear hbs7
      go_wp2_with fail
      go_roundw
      case rel => exact ⟨k1, hle1, by go_num, F7, T7, X7, nw, HT7.out, HI7.out, hnwl, HBS7.out, HF7'.out, HB14.out⟩
      case measure => have := HKK.out; simp [intOf]; omega
    · have hk' : k = m := by omega
      subst hk'
      have hbnd : sr ≤ 1000 ∧ mo ≤ 500 := by omega
      clear q0 q1 q2 c3 c5 c6 c7 c8
      have HFLT := Lib.hid hT1.flt
      have lf := lifeF hT1 hI1 (by omega) hwl
      have LF := Lib.hid lf; clear lf
      have HB1 := Lib.hid hB1; clear hB1
      have HF1 := Lib.hid hF1; clear hF1
      have HBS1 := Lib.hid hbs1; clear hbs1
      have HT1 := Lib.hid hT1; clear hT1
      go_upto_region 17 with fail
      go_wp2_with fail
      refine LF.out.mono ?_
      rintro e w7 ⟨fr, vv, g1, g2, g3, rfl, hofr, hfl, hn7, hrf, hb7⟩
      obtain ⟨fa, fc, rfl, _⟩ := own_elems hofr
      have hB7 := HB1.out.trans (hb7.mono HB1.out.size)
      have ha8 : Below w7.heap.size w7 (w7.alloc (.cells #[.int .i64 0, .int .i64 T1.base, .int .i64 wl, .slice fa fr.length fc, .slice g1 g2 g3, .slice none 0 0, .bool false] 47)) := (Below.refl _ _).alloc (Nat.le_refl _) _
      have hr8 := heap_new w7 (.cells #[.int .i64 0, .int .i64 T1.base, .int .i64 wl, .slice fa fr.length fc, .slice g1 g2 g3, .slice none 0 0, .bool false] 47)
      obtain ⟨w8, hw8⟩ : ∃ w8, w8 = w7.alloc (.cells #[.int .i64 0, .int .i64 T1.base, .int .i64 wl, .slice fa fr.length fc, .slice g1 g2 g3, .slice none 0 0, .bool false] 47) := ⟨_, rfl⟩
      rw [← hw8] at ha8 hr8
      have hB8 := hB7.trans (ha8.mono hB7.size)
      have hT8 := (HT1.out.below hb7).below ha8
      have hofr8 := hofr.below ha8
      have hrf8 := hrf.fr (Fr.of_below ha8 (fun _ => False)) (fun _ _ _ _ h => h)
      have us := fun wr (hw : Below w8.heap.size w8 wr) => used_any wr F1 tb Tk.p1 T1 X1 (hT8.below hw) p1_small (hI1.ok (by omega) hwl)
      rw [hI1.used] at us
      obtain ⟨u1, hu1⟩ : ∃ u1, u1 = 7 * (k + 1) := ⟨_, rfl⟩
      rw [← hu1] at us
      obtain ⟨s2, hs2⟩ : ∃ s2, s2 = 2000 + sr := ⟨_, rfl⟩
      obtain ⟨n2, hn2⟩ : ∃ n2, n2 = u1 + mo := ⟨_, rfl⟩
      have i1 : IntKind.i64.wrap (2000 + (sr : Int)) = (s2 : Int) := by rw [show (2000 + (sr : Int)) = (s2 : Int) from by omega]; exact IntWalk.i64_in _ (by omega)
      have i2 : IntKind.i64.wrap ((u1 : Int) + (mo : Int)) = (n2 : Int) := by rw [show ((u1 : Int) + (mo : Int)) = (n2 : Int) from by omega]; exact IntWalk.i64_in _ (by omega)
      obtain ⟨nb, hnb⟩ : ∃ nb : Int, nb = 1073741824 + (s2 : Int) * 8192 := ⟨_, rfl⟩
      have mvf := fun wr (hw : Below w8.heap.size w8 wr) => moveF (hT8.below hw) hI1 (by omega) hwl HBS1.out HMS.out (fun wq hq => HMB.out wq (hB8.trans ((hw.trans (hq.mono hw.size)).mono hB8.size))) s2 (by omega) n2 (by omega) (by omega)
      rw [← hnb] at mvf
      have hnb2 : baseOk nb := by unfold baseOk; omega
      have hbu : 7 ≤ u1 ∧ u1 ≤ 91 ∧ n2 ≤ 591 := by omega
      obtain ⟨z17, hz17⟩ : ∃ z17, z17 = w7.heap.size := ⟨_, rfl⟩
      rw [← hz17] at hr8
      have hw0 := Below.refl w8.heap.size w8
      have HLOW := Lib.hid hb7.size
      have HW8 := Lib.hid hw8
      have HZ17 := Lib.hid hz17
      have HU1 := Lib.hid hu1
      have HS2 := Lib.hid hs2
      have HN2 := Lib.hid hn2
      have HNB := Lib.hid hnb
      clear hofr hrf hb7 hB7 hw8 hz17 ha8 LF HT1 HB1 hu1 hs2 hn2 hnb
      have US := Lib.hid us; clear us
      have MVF := Lib.hid mvf; clear mvf
      have HB8 := Lib.hid hB8; clear hB8
      have HT8 := Lib.hid hT8; clear hT8
      have HOFR8 := Lib.hid hofr8; clear hofr8
      have HRF8 := Lib.hid hrf8; clear hrf8
      have HFL := Lib.hid hfl; clear hfl
      have HN7 := Lib.hid hn7; clear hn7
      have HR8 := Lib.hid hr8; clear hr8
      have HW0 := Lib.hid hw0; clear hw0
      go_upto_region 18 with fail
      rw [← HW8.out, ← HZ17.out]
      go_wp2_with fail
      refine (US.out _ HW0.out).mono ?_
      rintro e w9 ⟨rfl, hb9⟩
      have HB9 := Lib.hid hb9
      clear hb9
      go_wp2_with fail
      refine (MVF.out _ HB9.out).mono ?_
      rintro e w10 ⟨rfl, L, F2, X2, hml, hT2, hF2, hf2⟩
      have hI2 := hI1.move hml (by have := HN2.out; have := HU1.out; omega)
      have hoth := fun o h1 h2 h3 => hI1.other hml o h1 h2 h3
      have hpls := fun j hj => hI1.place hml (by have := HN2.out; have := HU1.out; omega) j hj
      have hB9 := HB8.out.trans (HB9.out.mono HB8.out.size)
      have hF2' : ∀ q, F2 q → w4.heap.size ≤ q := fun q hq => (hF2 q hq).elim (HF1.out q) (fun h => Nat.le_trans hB9.size h)
      have hB10 := hB9.trans (hf2.below hB9.size (fun q hq => HF1.out q hq))
      have hof10 := (HOFR8.out.below HB9.out).fr hf2 (fun q hq e => by have := (HOFR8.out.lt hq).1; have := HFLT.out q e; omega)
      have hrf10 := rowsLow (HRF8.out.fr (Fr.of_below HB9.out (fun _ => False)) (fun _ _ _ _ h => h)) hf2 HFLT.out
      have hr10 := hf2.heap ((Fr.of_below HB9.out (fun _ => False)).heap HR8.out (fun h => h)) (fun e => by have := HFLT.out _ e; have := HZ17.out; have := HLOW.out; omega)
      obtain ⟨T2, hE2⟩ : ∃ T2, T2 = (⟨nb, L, T1.parts, T1.marks⟩ : Tk) := ⟨_, rfl⟩
      rw [← hE2] at hT2 hI2
      have hbT2 : T2.base = nb := by rw [hE2]
      have hwT2 : T2.words = L := by rw [hE2]
      have us2 := used_any w10 F2 tb Tk.p1 T2 X2 hT2 p1_small (hI2.ok (by omega) (by omega))
      rw [hI2.used, ← HU1.out] at us2
      have ml := fun wr (hw : Below w10.heap.size w10 wr) => move_less wr F2 tb Tk.p1 T2 X2 (hT2.below hw) p1_small (hI2.ok (by omega) (by omega)) (.pointer (some ⟨mb, 0, none⟩)) 1 ((u1 : Int) - 1) (by rw [hI2.used, ← HU1.out]; omega)
      have i3 : IntKind.i64.wrap ((u1 : Int) - 1) = (u1 : Int) - 1 := IntWalk.i64_in _ (by omega)
      clear hml hF2 hf2 hE2 MVF US HB9 HT8 HOFR8 HRF8 HR8 hB9
      have US2 := Lib.hid us2; clear us2
      have ML := Lib.hid ml; clear ml
      have HT2 := Lib.hid hT2; clear hT2
      have HB10 := Lib.hid hB10; clear hB10
      have HF2' := Lib.hid hF2'; clear hF2'
      have HOF10 := Lib.hid hof10; clear hof10
      have HRF10 := Lib.hid hrf10; clear hrf10
      have HR10 := Lib.hid hr10; clear hr10
      have HI2 := Lib.hid hI2; clear hI2
      have HOTH := Lib.hid hoth; clear hoth
      have HPLS := Lib.hid hpls; clear hpls
      go_wp2_with fail
      refine US2.out.mono ?_
      rintro e w11 ⟨rfl, hb11⟩
      have HB11 := Lib.hid hb11
      clear hb11
      go_wp2_with fail
      refine (ML.out _ HB11.out).mono ?_
      rintro e w12 ⟨rfl, hb12⟩
      have hb12 := HB11.out.trans (hb12.mono HB11.out.size)
      have lf := lifeF (HT2.out.below hb12) HI2.out (by omega) (by omega)
      have HB12 := Lib.hid hb12
      clear hb12 HB11 US2 ML
      have LF := Lib.hid lf; clear lf
      go_upto_region 20 with fail
      go_wp2_with fail
      refine LF.out.mono ?_
      rintro e w13 ⟨fr2, vv, g4, g5, g6, rfl, hofr2, hfl2, hn72, hrf2, hb13⟩
      obtain ⟨fb, fc2, rfl, _⟩ := own_elems hofr2
      rw [hbT2]
      have hb1013 := HB12.out.trans (hb13.mono HB12.out.size)
      have ha14 : Below w13.heap.size w13 (w13.alloc (.cells #[.int .i64 0, .int .i64 nb, .int .i64 n2, .slice fb fr2.length fc2, .slice g4 g5 g6, .slice none 0 0, .bool false] 47)) := (Below.refl _ _).alloc (Nat.le_refl _) _
      have hr18 := heap_new w13 (.cells #[.int .i64 0, .int .i64 nb, .int .i64 n2, .slice fb fr2.length fc2, .slice g4 g5 g6, .slice none 0 0, .bool false] 47)
      obtain ⟨w14, hw14⟩ : ∃ w14, w14 = w13.alloc (.cells #[.int .i64 0, .int .i64 nb, .int .i64 n2, .slice fb fr2.length fc2, .slice g4 g5 g6, .slice none 0 0, .bool false] 47) := ⟨_, rfl⟩
      rw [← hw14] at ha14 hr18
      have hb1014 := hb1013.trans (ha14.mono hb1013.size)
      have hB14 := HB10.out.trans (hb1014.mono HB10.out.size)
      have hT14 := HT2.out.below hb1014
      have hofA := HOF10.out.below hb1014
      have hrfA := HRF10.out.fr (Fr.of_below hb1014 (fun _ => False)) (fun _ _ _ _ h => h)
      have hr17 := (Fr.of_below hb1014 (fun _ => False)).heap HR10.out (fun h => h)
      have hofB := hofr2.below ha14
      have hrfB := hrf2.fr (Fr.of_below ha14 (fun _ => False)) (fun _ _ _ _ h => h)
      rw [hwT2] at hrfB
      obtain ⟨z18, hz18⟩ : ∃ z18, z18 = w13.heap.size := ⟨_, rfl⟩
      rw [← hz18] at hr18
      rw [hfl2] at hr18
      rw [HFL.out] at hr17
      have hw14' := hw14
      rw [hfl2] at hw14'
      have us3 := fun wr (hw : Below w14.heap.size w14 wr) => used_any wr F2 tb Tk.p1 T2 X2 (hT14.below hw) p1_small (HI2.out.ok (by omega) (by omega))
      rw [HI2.out.used, ← HU1.out] at us3
      have a3 : w14.cell? ⟨z17, 3, none⟩ = some (.slice fa (k + 1 : Nat) fc) := (row_cell hr17 3).1
      have b1 : w14.cell? ⟨z18, 1, none⟩ = some (.int .i64 nb) := (row_cell hr18 1).1
      have b2 : w14.cell? ⟨z18, 2, none⟩ = some (.int .i64 n2) := (row_cell hr18 2).1
      have b3 : w14.cell? ⟨z18, 3, none⟩ = some (.slice fb (k + 1 : Nat) fc2) := (row_cell hr18 3).1
      have hnbv := HNB.out
      have i4 : IntKind.i64.wrap ((s2 : Int) * 8192) = (s2 : Int) * 8192 := IntWalk.i64_in _ (by have := HS2.out; omega)
      have i5 : IntKind.i64.wrap (1073741824 + (s2 : Int) * 8192) = nb := by rw [hnbv]; exact IntWalk.i64_in _ (by have := HS2.out; omega)
      have i6 : IntKind.i64.wrap ((k : Int) + 1) = ((k + 1 : Nat) : Int) := IntWalk.i64_in _ (by omega)
      have HW14 := Lib.hid hw14'
      have HZ18 := Lib.hid hz18
      have HR0 := Lib.hid (Below.refl w14.heap.size w14).drew
      have hSd : w14.drew.cell? ⟨z17, 3, none⟩ = some (.slice fa (k + 1 : Nat) fc) ∧ w14.drew.cell? ⟨z18, 1, none⟩ = some (.int .i64 nb) ∧ w14.drew.cell? ⟨z18, 2, none⟩ = some (.int .i64 n2) ∧ w14.drew.cell? ⟨z18, 3, none⟩ = some (.slice fb (k + 1 : Nat) fc2) := ⟨below_cell HR0.out a3, below_cell HR0.out b1, below_cell HR0.out b2, below_cell HR0.out b3⟩
      clear hb13 hofr2 hrf2 hb1013 ha14 hw14 hw14' hz18 hb1014 hnbv LF HB12 HT2 HOF10 HRF10 HR10 i3
      have US3 := Lib.hid us3; clear us3
      have HB14 := Lib.hid hB14; clear hB14
      have HT14 := Lib.hid hT14; clear hT14
      have HOFA := Lib.hid hofA; clear hofA
      have HRFA := Lib.hid hrfA; clear hrfA
      have HR17 := Lib.hid hr17; clear hr17
      have HOFB := Lib.hid hofB; clear hofB
      have HRFB := Lib.hid hrfB; clear hrfB
      have HR18 := Lib.hid hr18; clear hr18
      have HFL2 := Lib.hid hfl2; clear hfl2
      have HN72 := Lib.hid hn72; clear hn72
      rw [HFL2.out]
      go_upto_region 21 with fail
      rw [← HW14.out, ← HZ18.out]
      go_region_held3 (fun w' => w'.cell? ⟨z17, 3, none⟩ = some (.slice fa (k + 1 : Nat) fc) ∧ w'.cell? ⟨z18, 1, none⟩ = some (.int .i64 nb) ∧ w'.cell? ⟨z18, 2, none⟩ = some (.int .i64 n2) ∧ w'.cell? ⟨z18, 3, none⟩ = some (.slice fb (k + 1 : Nat) fc2)) (first | with_reducible exact hSd | with_reducible exact hS3 | go_keep) (first
        | (go_at_call 22
           refine (US3.out _ HR0.out).mono ?_
           rintro e w15 ⟨rfl, hb15⟩
           have hS3 := And.intro (below_cell hb15 hSd.1) (And.intro (below_cell hb15 hSd.2.1) (And.intro (below_cell hb15 hSd.2.2.1) (below_cell hb15 hSd.2.2.2)))
           have HB15 := Lib.hid (HR0.out.trans (hb15.mono HR0.out.size))
           clear hb15))
      clear a3 b1 b2 b3 i4 i5 US3
      have HS3 := Lib.hid hS3
      clear hS3 hSd
      go_upto_region 23 with fail
      go_wp2_with fail
      go_loopw [19] (fun i wr => ∃ d : Nat, d ≤ k ∧ i = .int .i64 d ∧ Below w14.heap.size w14 wr) (fun i _ => k - (intOf i).toNat)
      case atStart => exact ⟨0, Nat.zero_le _, rfl, HB15.out⟩
      case round =>
        obtain ⟨d, hd, rfl, hbr⟩ := hrel
        have c17 : wr.cell? ⟨z17, 3, none⟩ = some (.slice fa (k + 1 : Nat) fc) := (row_cell ((Fr.of_below hbr (fun _ => False)).heap HR17.out (fun h => h)) 3).1
        have c171 : wr.cell? ⟨z17, 1, none⟩ = some (.int .i64 T1.base) := (row_cell ((Fr.of_below hbr (fun _ => False)).heap HR17.out (fun h => h)) 1).1
        have c18 : wr.cell? ⟨z18, 3, none⟩ = some (.slice fb (k + 1 : Nat) fc2) := (row_cell ((Fr.of_below hbr (fun _ => False)).heap HR18.out (fun h => h)) 3).1
        have c181 : wr.cell? ⟨z18, 1, none⟩ = some (.int .i64 nb) := (row_cell ((Fr.of_below hbr (fun _ => False)).heap HR18.out (fun h => h)) 1).1
        by_cases hlt : d < k
        · obtain ⟨ga, sa, Da, Da', rfl, hca, hna7, hna8, hra7, hra8⟩ := frame_facts (HOFA.out.below hbr) (HRFA.out.fr (Fr.of_below hbr (fun _ => False)) (fun _ _ _ _ h => h)) HN7.out d (by have := HFL.out; omega)
          obtain ⟨gb, sb, Db, Db', rfl, hcb, hnb7, hnb8, hrb7, hrb8⟩ := frame_facts (HOFB.out.below hbr) (HRFB.out.fr (Fr.of_below hbr (fun _ => False)) (fun _ _ _ _ h => h)) HN72.out d (by have := HFL2.out; omega)
          have hd0 : (d : Int) < ((k + 1 : Nat) : Int) := by omega
          have hd1 : (0 : Int) ≤ (d : Int) := by omega
          have p0 : wr.cell? ⟨ga, d * 9, none⟩ = some _ := hca 0 _ rfl
          have p1 : wr.cell? ⟨ga, d * 9 + 1, none⟩ = some _ := hca 1 _ rfl
          have p2 : wr.cell? ⟨ga, d * 9 + 2, none⟩ = some _ := hca 2 _ rfl
          have p3 : wr.cell? ⟨ga, d * 9 + 3, none⟩ = some _ := hca 3 _ rfl
          have p4 : wr.cell? ⟨ga, d * 9 + 4, none⟩ = some _ := hca 4 _ rfl
          have p5 : wr.cell? ⟨ga, d * 9 + 5, none⟩ = some _ := hca 5 _ rfl
          have p6 : wr.cell? ⟨ga, d * 9 + 6, none⟩ = some _ := hca 6 _ rfl
          have p7 : wr.cell? ⟨ga, d * 9 + 7, none⟩ = some _ := hca 7 _ rfl
          have p8 : wr.cell? ⟨ga, d * 9 + 8, none⟩ = some _ := hca 8 _ rfl
          have q0 : wr.cell? ⟨gb, d * 9, none⟩ = some _ := hcb 0 _ rfl
          have q1 : wr.cell? ⟨gb, d * 9 + 1, none⟩ = some _ := hcb 1 _ rfl
          have q2 : wr.cell? ⟨gb, d * 9 + 2, none⟩ = some _ := hcb 2 _ rfl
          have q3 : wr.cell? ⟨gb, d * 9 + 3, none⟩ = some _ := hcb 3 _ rfl
          have q4 : wr.cell? ⟨gb, d * 9 + 4, none⟩ = some _ := hcb 4 _ rfl
          have q5 : wr.cell? ⟨gb, d * 9 + 5, none⟩ = some _ := hcb 5 _ rfl
          have q6 : wr.cell? ⟨gb, d * 9 + 6, none⟩ = some _ := hcb 6 _ rfl
          have q7 : wr.cell? ⟨gb, d * 9 + 7, none⟩ = some _ := hcb 7 _ rfl
          have q8 : wr.cell? ⟨gb, d * 9 + 8, none⟩ = some _ := hcb 8 _ rfl
          rw [hna7] at p7
          rw [hna8] at p8
          rw [hnb7] at q7
          rw [hnb8] at q8
          clear hca hcb
          have hlA : (subW T1.words (7 * d + 5) 2).length = 2 := subW_len _ _ _ (by have := hI1.wlen; have := hI1.big; omega)
          have hlB : (subW L (7 * d + 5) 2).length = 2 := subW_len _ _ _ (by have := HI2.out.wlen; have := HI2.out.big; rw [hwT2] at *; omega)
          rw [hlA] at p8
          rw [hlB] at q8
          obtain ⟨K1, hK1⟩ : ∃ K1, K1 = k + 1 := ⟨_, rfl⟩
          rw [← hK1] at c17 c18 hd0
          clear hK1
          have HSX := Lib.hid (show ∀ wx, Below wr.heap.size wr wx → wx.cell? ⟨z17, 3, none⟩ = some (.slice (some ⟨ga, 0, none⟩) K1 fc) ∧ wx.cell? ⟨z18, 3, none⟩ = some (.slice (some ⟨gb, 0, none⟩) K1 fc2) ∧ wx.cell? ⟨ga, d * 9, none⟩ = some (.int .i64 sa.x0) ∧ wx.cell? ⟨ga, d * 9 + 1, none⟩ = some (.int .i64 sa.x1) ∧ wx.cell? ⟨ga, d * 9 + 2, none⟩ = some (.int .i64 sa.x2) ∧ wx.cell? ⟨ga, d * 9 + 3, none⟩ = some (.bool sa.b3) ∧ wx.cell? ⟨ga, d * 9 + 4, none⟩ = some (.bool sa.b4) ∧ wx.cell? ⟨ga, d * 9 + 5, none⟩ = some (.int .i64 sa.x5) ∧ wx.cell? ⟨ga, d * 9 + 6, none⟩ = some (.bool sa.b6) ∧ wx.cell? ⟨ga, d * 9 + 7, none⟩ = some (.slice sa.a7 3 sa.c7) ∧ wx.cell? ⟨ga, d * 9 + 8, none⟩ = some (.slice sa.a8 2 sa.c8) ∧ wx.cell? ⟨gb, d * 9, none⟩ = some (.int .i64 sb.x0) ∧ wx.cell? ⟨gb, d * 9 + 1, none⟩ = some (.int .i64 sb.x1) ∧ wx.cell? ⟨gb, d * 9 + 2, none⟩ = some (.int .i64 sb.x2) ∧ wx.cell? ⟨gb, d * 9 + 3, none⟩ = some (.bool sb.b3) ∧ wx.cell? ⟨gb, d * 9 + 4, none⟩ = some (.bool sb.b4) ∧ wx.cell? ⟨gb, d * 9 + 5, none⟩ = some (.int .i64 sb.x5) ∧ wx.cell? ⟨gb, d * 9 + 6, none⟩ = some (.bool sb.b6) ∧ wx.cell? ⟨gb, d * 9 + 7, none⟩ = some (.slice sb.a7 3 sb.c7) ∧ wx.cell? ⟨gb, d * 9 + 8, none⟩ = some (.slice sb.a8 2 sb.c8) from fun wx hw => ⟨below_cell hw c17, below_cell hw c18, below_cell hw p0, below_cell hw p1, below_cell hw p2, below_cell hw p3, below_cell hw p4, below_cell hw p5, below_cell hw p6, below_cell hw p7, below_cell hw p8, below_cell hw q0, below_cell hw q1, below_cell hw q2, below_cell hw q3, below_cell hw q4, below_cell hw q5, below_cell hw q6, below_cell hw q7, below_cell hw q8⟩)
          have hSd := HSX.out wr.drew (Below.refl wr.heap.size wr).drew
          have HR0 := Lib.hid (Below.refl wr.heap.size wr).drew
          clear c17 c18 p0 p1 p2 p3 p4 p5 p6 p7 p8 q0 q1 q2 q3 q4 q5 q6 q7 q8
          go_upto_region 26 with fail
          go_cut [20, 21] (fun t u wx => ∃ za zb : Nat, t = .pointer (some ⟨za, 0, none⟩) ∧ u = .pointer (some ⟨zb, 0, none⟩) ∧ wx.heap[za]? = some (.cells #[.int .i64 sa.x0, .int .i64 sa.x1, .int .i64 sa.x2, .bool sa.b3, .bool sa.b4, .int .i64 sa.x5, .bool sa.b6, .slice sa.a7 3 sa.c7, .slice sa.a8 2 sa.c8] 51) ∧ wx.heap[zb]? = some (.cells #[.int .i64 sb.x0, .int .i64 sb.x1, .int .i64 sb.x2, .bool sb.b3, .bool sb.b4, .int .i64 sb.x5, .bool sb.b6, .slice sb.a7 3 sb.c7, .slice sb.a8 2 sb.c8] 51) ∧ Below wr.heap.size wr wx)
          case first =>
            refine wp_region_held_drew (S := fun w' => Below wr.heap.size wr w') (by kernel_rfl) HR0.out (fun hHeld => ?_)
            refine wpAnyH_take (i := 0) (v := ?_) rfl (by kernel_rfl) (by kernel_rfl) (by kernel_rfl) (fun _ _ _ h => h) (Or.inl ⟨by rfl, ?_⟩) (by assumption) ?_
            rotate_left
            · intro w hSw
              obtain ⟨f0, f1, f2, f3, f4, f5, f6, f7, f8, f9, f10, f11, f12, f13, f14, f15, f16, f17, f18, f19⟩ := HSX.out w hSw
              go_simp
              first | done | with_reducible rfl
            show wpAnyH _ _ _ _ _ _ _ (Act.put _ (some 181) _) _
            try simp only [Act.put, List.setIfInBounds_toArray, List.set_cons_zero, List.set_cons_succ]
            refine wpAnyH_take (i := 1) (v := ?_) rfl (by kernel_rfl) (by kernel_rfl) (by kernel_rfl) (fun _ _ _ h => h) (Or.inl ⟨by rfl, ?_⟩) (by assumption) ?_
            rotate_left
            · intro w hSw
              obtain ⟨f0, f1, f2, f3, f4, f5, f6, f7, f8, f9, f10, f11, f12, f13, f14, f15, f16, f17, f18, f19⟩ := HSX.out w hSw
              go_simp
              first | done | with_reducible rfl
            show wpAnyH _ _ _ _ _ _ _ (Act.put _ (some 182) _) _
            try simp only [Act.put, List.setIfInBounds_toArray, List.set_cons_zero, List.set_cons_succ]
            refine wpAnyH_take (i := 2) (v := ?_) rfl (by kernel_rfl) (by kernel_rfl) (by kernel_rfl) (fun _ _ _ h => h) (Or.inl ⟨by rfl, ?_⟩) (by assumption) ?_
            rotate_left
            · intro w hSw
              obtain ⟨f0, f1, f2, f3, f4, f5, f6, f7, f8, f9, f10, f11, f12, f13, f14, f15, f16, f17, f18, f19⟩ := HSX.out w hSw
              go_simp
              first | done | with_reducible rfl
            show wpAnyH _ _ _ _ _ _ _ (Act.put _ (some 183) _) _
            try simp only [Act.put, List.setIfInBounds_toArray, List.set_cons_zero, List.set_cons_succ]
            refine wpAnyH_take (i := 3) (v := ?_) rfl (by kernel_rfl) (by kernel_rfl) (by kernel_rfl) (fun _ _ _ h => h) (Or.inl ⟨by rfl, ?_⟩) (by assumption) ?_
            rotate_left
            · intro w hSw
              obtain ⟨f0, f1, f2, f3, f4, f5, f6, f7, f8, f9, f10, f11, f12, f13, f14, f15, f16, f17, f18, f19⟩ := HSX.out w hSw
              go_simp
              first | done | with_reducible rfl
            show wpAnyH _ _ _ _ _ _ _ (Act.put _ (some 184) _) _
            try simp only [Act.put, List.setIfInBounds_toArray, List.set_cons_zero, List.set_cons_succ]
            refine wpAnyH_take (i := 4) (v := ?_) rfl (by kernel_rfl) (by kernel_rfl) (by kernel_rfl) (fun _ _ _ h => h) (Or.inl ⟨by rfl, ?_⟩) (by assumption) ?_
            rotate_left
            · intro w hSw
              obtain ⟨f0, f1, f2, f3, f4, f5, f6, f7, f8, f9, f10, f11, f12, f13, f14, f15, f16, f17, f18, f19⟩ := HSX.out w hSw
              go_simp
              first | done | with_reducible rfl
            show wpAnyH _ _ _ _ _ _ _ (Act.put _ (some 185) _) _
            try simp only [Act.put, List.setIfInBounds_toArray, List.set_cons_zero, List.set_cons_succ]
            refine wpAnyH_take (i := 5) (v := ?_) rfl (by kernel_rfl) (by kernel_rfl) (by kernel_rfl) (fun _ _ _ h => h) (Or.inl ⟨by rfl, ?_⟩) (by assumption) ?_
            rotate_left
            · intro w hSw
              obtain ⟨f0, f1, f2, f3, f4, f5, f6, f7, f8, f9, f10, f11, f12, f13, f14, f15, f16, f17, f18, f19⟩ := HSX.out w hSw
              go_simp
              first | done | with_reducible rfl
            show wpAnyH _ _ _ _ _ _ _ (Act.put _ (some 186) _) _
            try simp only [Act.put, List.setIfInBounds_toArray, List.set_cons_zero, List.set_cons_succ]
            refine wpAnyH_take (i := 6) (v := ?_) rfl (by kernel_rfl) (by kernel_rfl) (by kernel_rfl) (fun _ _ _ h => h) (Or.inl ⟨by rfl, ?_⟩) (by assumption) ?_
            rotate_left
            · intro w hSw
              obtain ⟨f0, f1, f2, f3, f4, f5, f6, f7, f8, f9, f10, f11, f12, f13, f14, f15, f16, f17, f18, f19⟩ := HSX.out w hSw
              go_simp
              first | done | with_reducible rfl
            show wpAnyH _ _ _ _ _ _ _ (Act.put _ (some 187) _) _
            try simp only [Act.put, List.setIfInBounds_toArray, List.set_cons_zero, List.set_cons_succ]
            refine wpAnyH_take (i := 7) (v := ?_) rfl (by kernel_rfl) (by kernel_rfl) (by kernel_rfl) (fun _ _ _ h => h) (Or.inl ⟨by rfl, ?_⟩) (by assumption) ?_
            rotate_left
            · intro w hSw
              obtain ⟨f0, f1, f2, f3, f4, f5, f6, f7, f8, f9, f10, f11, f12, f13, f14, f15, f16, f17, f18, f19⟩ := HSX.out w hSw
              go_simp
              first | done | with_reducible rfl
            show wpAnyH _ _ _ _ _ _ _ (Act.put _ (some 188) _) _
            try simp only [Act.put, List.setIfInBounds_toArray, List.set_cons_zero, List.set_cons_succ]
            refine wpAnyH_take (i := 8) (v := ?_) rfl (by kernel_rfl) (by kernel_rfl) (by kernel_rfl) (fun _ _ _ h => h) (Or.inl ⟨by rfl, ?_⟩) (by assumption) ?_
            rotate_left
            · intro w hSw
              obtain ⟨f0, f1, f2, f3, f4, f5, f6, f7, f8, f9, f10, f11, f12, f13, f14, f15, f16, f17, f18, f19⟩ := HSX.out w hSw
              go_simp
              first | done | with_reducible rfl
            show wpAnyH _ _ _ _ _ _ _ (Act.put _ (some 189) _) _
            try simp only [Act.put, List.setIfInBounds_toArray, List.set_cons_zero, List.set_cons_succ]
            refine wpAnyH_take (i := 9) (v := ?_) rfl (by kernel_rfl) (by kernel_rfl) (by kernel_rfl) (fun _ _ _ h => h) (Or.inl ⟨by rfl, ?_⟩) (by assumption) ?_
            rotate_left
            · intro w hSw
              obtain ⟨f0, f1, f2, f3, f4, f5, f6, f7, f8, f9, f10, f11, f12, f13, f14, f15, f16, f17, f18, f19⟩ := HSX.out w hSw
              go_simp
              first | done | with_reducible rfl
            show wpAnyH _ _ _ _ _ _ _ (Act.put _ (some 190) _) _
            try simp only [Act.put, List.setIfInBounds_toArray, List.set_cons_zero, List.set_cons_succ]
            refine wpAnyH_ready (rs := [10, 11]) (by kernel_rfl) (by simp) ?_
            refine (AllReadyH.cons rfl (fun K hK => ?_) (AllReadyH.cons rfl (fun K hK => ?_) AllReadyH.nil))
            · go_simp
              refine hK.out _ _ (below_al HR0.out _) (fun hHeld => ?_)
              clear hK K
              try simp only [Act.put, List.setIfInBounds_toArray, List.set_cons_zero, List.set_cons_succ]
              refine wpAnyH_ready (rs := [11]) (by kernel_rfl) (by simp) ?_
              refine (AllReadyH.cons rfl (fun K hK => ?_) AllReadyH.nil)
              go_simp
              refine hK.out _ _ (below_al (below_al HR0.out _) _) (fun hHeld => ?_)
              clear hK K hHeld
              try simp only [Act.put, List.setIfInBounds_toArray, List.set_cons_zero, List.set_cons_succ]
              obtain ⟨X, hX⟩ : ∃ X, X = ((wr.alloc (.cells #[.int .i64 0, .int .i64 0, .int .i64 0, .bool false, .bool false, .int .i64 0, .bool false, .slice none 0 0, .slice none 0 0] 51)).alloc (.cells #[.int .i64 0, .int .i64 0, .int .i64 0, .bool false, .bool false, .int .i64 0, .bool false, .slice none 0 0, .slice none 0 0] 51)).drew := ⟨_, rfl⟩
              have hBX : Below wr.heap.size wr X := by rw [hX]; exact (below_al (below_al (Below.refl _ _) _) _).drew
              have rA : X.heap[wr.heap.size]? = some (.cells #[.int .i64 0, .int .i64 0, .int .i64 0, .bool false, .bool false, .int .i64 0, .bool false, .slice none 0 0, .slice none 0 0] 51) := by rw [hX]; exact row_alloc (heap_new wr _) _
              have rB : X.heap[wr.heap.size + 1]? = some (.cells #[.int .i64 0, .int .i64 0, .int .i64 0, .bool false, .bool false, .int .i64 0, .bool false, .slice none 0 0, .slice none 0 0] 51) := by
                have h5 := heap_new (wr.alloc (.cells #[.int .i64 0, .int .i64 0, .int .i64 0, .bool false, .bool false, .int .i64 0, .bool false, .slice none 0 0, .slice none 0 0] 51)) (.cells #[.int .i64 0, .int .i64 0, .int .i64 0, .bool false, .bool false, .int .i64 0, .bool false, .slice none 0 0, .slice none 0 0] 51)
                rw [show (wr.alloc (.cells #[.int .i64 0, .int .i64 0, .int .i64 0, .bool false, .bool false, .int .i64 0, .bool false, .slice none 0 0, .slice none 0 0] 51)).heap.size = wr.heap.size + 1 from by simp] at h5
                rw [hX]; exact h5
              rw [← hX]
              clear hX
              have hBY := nine_below hBX (.int .i64 sa.x0) (.int .i64 sa.x1) (.int .i64 sa.x2) (.bool sa.b3) (.bool sa.b4) (.int .i64 sa.x5) (.bool sa.b6) (.slice sa.a7 3 sa.c7) (.slice sa.a8 2 sa.c8) (Nat.le_refl _)
              have rY0 := nine_row rA (.int .i64 sa.x0) (.int .i64 sa.x1) (.int .i64 sa.x2) (.bool sa.b3) (.bool sa.b4) (.int .i64 sa.x5) (.bool sa.b6) (.slice sa.a7 3 sa.c7) (.slice sa.a8 2 sa.c8)
              have rY1 := (nine_fr X (.int .i64 sa.x0) (.int .i64 sa.x1) (.int .i64 sa.x2) (.bool sa.b3) (.bool sa.b4) (.int .i64 sa.x5) (.bool sa.b6) (.slice sa.a7 3 sa.c7) (.slice sa.a8 2 sa.c8) wr.heap.size).heap rB (fun e => by have e : (wr.heap.size + 1) = wr.heap.size := e; omega)
              obtain ⟨⟨g0, g1, g2, g3, g4, g5, g6, g7, g8⟩, y0, y1, y2, y3, y4, y5, y6, y7, y8⟩ := nine_cells rA
              refine wpAnyH_ready (rs := [12]) (by kernel_rfl) (by simp) ?_
              refine (AllReadyH.cons rfl (fun K hK => ?_) AllReadyH.nil)
              go_simp
              refine hK.out _ _ hBY (fun hHeld => ?_)
              clear hK K hHeld g0 g1 g2 g3 g4 g5 g6 g7 g8 y0 y1 y2 y3 y4 y5 y6 y7 y8
              try simp only [Act.put, List.setIfInBounds_toArray, List.set_cons_zero, List.set_cons_succ]
              obtain ⟨Y, hY⟩ : ∃ Y, Y = (((((((((X.setCell ⟨wr.heap.size, 0, none⟩ (.int .i64 sa.x0)).setCell ⟨wr.heap.size, 1, none⟩ (.int .i64 sa.x1)).setCell ⟨wr.heap.size, 2, none⟩ (.int .i64 sa.x2)).setCell ⟨wr.heap.size, 3, none⟩ (.bool sa.b3)).setCell ⟨wr.heap.size, 4, none⟩ (.bool sa.b4)).setCell ⟨wr.heap.size, 5, none⟩ (.int .i64 sa.x5)).setCell ⟨wr.heap.size, 6, none⟩ (.bool sa.b6)).setCell ⟨wr.heap.size, 7, none⟩ (.slice sa.a7 3 sa.c7)).setCell ⟨wr.heap.size, 8, none⟩ (.slice sa.a8 2 sa.c8)) := ⟨_, rfl⟩
              rw [← hY] at hBY rY0 rY1 ⊢
              clear hY
              have hBV := nine_below hBY (.int .i64 sb.x0) (.int .i64 sb.x1) (.int .i64 sb.x2) (.bool sb.b3) (.bool sb.b4) (.int .i64 sb.x5) (.bool sb.b6) (.slice sb.a7 3 sb.c7) (.slice sb.a8 2 sb.c8) (Nat.le_succ _)
              have rV1 := nine_row rY1 (.int .i64 sb.x0) (.int .i64 sb.x1) (.int .i64 sb.x2) (.bool sb.b3) (.bool sb.b4) (.int .i64 sb.x5) (.bool sb.b6) (.slice sb.a7 3 sb.c7) (.slice sb.a8 2 sb.c8)
              have rV0 := (nine_fr Y (.int .i64 sb.x0) (.int .i64 sb.x1) (.int .i64 sb.x2) (.bool sb.b3) (.bool sb.b4) (.int .i64 sb.x5) (.bool sb.b6) (.slice sb.a7 3 sb.c7) (.slice sb.a8 2 sb.c8) (wr.heap.size + 1)).heap rY0 (fun e => by have e : wr.heap.size = (wr.heap.size + 1) := e; omega)
              obtain ⟨⟨g0, g1, g2, g3, g4, g5, g6, g7, g8⟩, y0, y1, y2, y3, y4, y5, y6, y7, y8⟩ := nine_cells rY1
              refine wpAnyH_ready (rs := [13]) (by kernel_rfl) (by simp) ?_
              refine (AllReadyH.cons rfl (fun K hK => ?_) AllReadyH.nil)
              go_simp
              refine hK.out _ _ hBV (fun hHeld => ?_)
              clear hK K hHeld g0 g1 g2 g3 g4 g5 g6 g7 g8 y0 y1 y2 y3 y4 y5 y6 y7 y8
              try simp only [Act.put, List.setIfInBounds_toArray, List.set_cons_zero, List.set_cons_succ]
              refine wpAnyH_done (by kernel_rfl) ?_ _
              go_wp2_with fail
              go_meet
              case rel => exact ⟨_, _, rfl, rfl, rV0, rV1, hBV⟩
            · go_simp
              refine hK.out _ _ (below_al HR0.out _) (fun hHeld => ?_)
              clear hK K
              try simp only [Act.put, List.setIfInBounds_toArray, List.set_cons_zero, List.set_cons_succ]
              refine wpAnyH_ready (rs := [10]) (by kernel_rfl) (by simp) ?_
              refine (AllReadyH.cons rfl (fun K hK => ?_) AllReadyH.nil)
              go_simp
              refine hK.out _ _ (below_al (below_al HR0.out _) _) (fun hHeld => ?_)
              clear hK K hHeld
              try simp only [Act.put, List.setIfInBounds_toArray, List.set_cons_zero, List.set_cons_succ]
              obtain ⟨X, hX⟩ : ∃ X, X = ((wr.alloc (.cells #[.int .i64 0, .int .i64 0, .int .i64 0, .bool false, .bool false, .int .i64 0, .bool false, .slice none 0 0, .slice none 0 0] 51)).alloc (.cells #[.int .i64 0, .int .i64 0, .int .i64 0, .bool false, .bool false, .int .i64 0, .bool false, .slice none 0 0, .slice none 0 0] 51)).drew := ⟨_, rfl⟩
              have hBX : Below wr.heap.size wr X := by rw [hX]; exact (below_al (below_al (Below.refl _ _) _) _).drew
              have rA : X.heap[wr.heap.size]? = some (.cells #[.int .i64 0, .int .i64 0, .int .i64 0, .bool false, .bool false, .int .i64 0, .bool false, .slice none 0 0, .slice none 0 0] 51) := by rw [hX]; exact row_alloc (heap_new wr _) _
              have rB : X.heap[wr.heap.size + 1]? = some (.cells #[.int .i64 0, .int .i64 0, .int .i64 0, .bool false, .bool false, .int .i64 0, .bool false, .slice none 0 0, .slice none 0 0] 51) := by
                have h5 := heap_new (wr.alloc (.cells #[.int .i64 0, .int .i64 0, .int .i64 0, .bool false, .bool false, .int .i64 0, .bool false, .slice none 0 0, .slice none 0 0] 51)) (.cells #[.int .i64 0, .int .i64 0, .int .i64 0, .bool false, .bool false, .int .i64 0, .bool false, .slice none 0 0, .slice none 0 0] 51)
                rw [show (wr.alloc (.cells #[.int .i64 0, .int .i64 0, .int .i64 0, .bool false, .bool false, .int .i64 0, .bool false, .slice none 0 0, .slice none 0 0] 51)).heap.size = wr.heap.size + 1 from by simp] at h5
                rw [hX]; exact h5
              rw [← hX]
              clear hX
              have hBY := nine_below hBX (.int .i64 sa.x0) (.int .i64 sa.x1) (.int .i64 sa.x2) (.bool sa.b3) (.bool sa.b4) (.int .i64 sa.x5) (.bool sa.b6) (.slice sa.a7 3 sa.c7) (.slice sa.a8 2 sa.c8) (Nat.le_succ _)
              have rY0 := nine_row rB (.int .i64 sa.x0) (.int .i64 sa.x1) (.int .i64 sa.x2) (.bool sa.b3) (.bool sa.b4) (.int .i64 sa.x5) (.bool sa.b6) (.slice sa.a7 3 sa.c7) (.slice sa.a8 2 sa.c8)
              have rY1 := (nine_fr X (.int .i64 sa.x0) (.int .i64 sa.x1) (.int .i64 sa.x2) (.bool sa.b3) (.bool sa.b4) (.int .i64 sa.x5) (.bool sa.b6) (.slice sa.a7 3 sa.c7) (.slice sa.a8 2 sa.c8) (wr.heap.size + 1)).heap rA (fun e => by have e : wr.heap.size = (wr.heap.size + 1) := e; omega)
              obtain ⟨⟨g0, g1, g2, g3, g4, g5, g6, g7, g8⟩, y0, y1, y2, y3, y4, y5, y6, y7, y8⟩ := nine_cells rB
              refine wpAnyH_ready (rs := [12]) (by kernel_rfl) (by simp) ?_
              refine (AllReadyH.cons rfl (fun K hK => ?_) AllReadyH.nil)
              go_simp
              refine hK.out _ _ hBY (fun hHeld => ?_)
              clear hK K hHeld g0 g1 g2 g3 g4 g5 g6 g7 g8 y0 y1 y2 y3 y4 y5 y6 y7 y8
              try simp only [Act.put, List.setIfInBounds_toArray, List.set_cons_zero, List.set_cons_succ]
              obtain ⟨Y, hY⟩ : ∃ Y, Y = (((((((((X.setCell ⟨(wr.heap.size + 1), 0, none⟩ (.int .i64 sa.x0)).setCell ⟨(wr.heap.size + 1), 1, none⟩ (.int .i64 sa.x1)).setCell ⟨(wr.heap.size + 1), 2, none⟩ (.int .i64 sa.x2)).setCell ⟨(wr.heap.size + 1), 3, none⟩ (.bool sa.b3)).setCell ⟨(wr.heap.size + 1), 4, none⟩ (.bool sa.b4)).setCell ⟨(wr.heap.size + 1), 5, none⟩ (.int .i64 sa.x5)).setCell ⟨(wr.heap.size + 1), 6, none⟩ (.bool sa.b6)).setCell ⟨(wr.heap.size + 1), 7, none⟩ (.slice sa.a7 3 sa.c7)).setCell ⟨(wr.heap.size + 1), 8, none⟩ (.slice sa.a8 2 sa.c8)) := ⟨_, rfl⟩
              rw [← hY] at hBY rY0 rY1 ⊢
              clear hY
              have hBV := nine_below hBY (.int .i64 sb.x0) (.int .i64 sb.x1) (.int .i64 sb.x2) (.bool sb.b3) (.bool sb.b4) (.int .i64 sb.x5) (.bool sb.b6) (.slice sb.a7 3 sb.c7) (.slice sb.a8 2 sb.c8) (Nat.le_refl _)
              have rV1 := nine_row rY1 (.int .i64 sb.x0) (.int .i64 sb.x1) (.int .i64 sb.x2) (.bool sb.b3) (.bool sb.b4) (.int .i64 sb.x5) (.bool sb.b6) (.slice sb.a7 3 sb.c7) (.slice sb.a8 2 sb.c8)
              have rV0 := (nine_fr Y (.int .i64 sb.x0) (.int .i64 sb.x1) (.int .i64 sb.x2) (.bool sb.b3) (.bool sb.b4) (.int .i64 sb.x5) (.bool sb.b6) (.slice sb.a7 3 sb.c7) (.slice sb.a8 2 sb.c8) wr.heap.size).heap rY0 (fun e => by have e : (wr.heap.size + 1) = wr.heap.size := e; omega)
              obtain ⟨⟨g0, g1, g2, g3, g4, g5, g6, g7, g8⟩, y0, y1, y2, y3, y4, y5, y6, y7, y8⟩ := nine_cells rY1
              refine wpAnyH_ready (rs := [13]) (by kernel_rfl) (by simp) ?_
              refine (AllReadyH.cons rfl (fun K hK => ?_) AllReadyH.nil)
              go_simp
              refine hK.out _ _ hBV (fun hHeld => ?_)
              clear hK K hHeld g0 g1 g2 g3 g4 g5 g6 g7 g8 y0 y1 y2 y3 y4 y5 y6 y7 y8
              try simp only [Act.put, List.setIfInBounds_toArray, List.set_cons_zero, List.set_cons_succ]
              refine wpAnyH_done (by kernel_rfl) ?_ _
              go_wp2_with fail
              go_meet
              case rel => exact ⟨_, _, rfl, rfl, rV0, rV1, hBV⟩
          case rest =>
            obtain ⟨za, zb, rfl, rfl, hRA, hRB, hbc⟩ := hcut
            have hwl1 := hI1.wlen
            have hbig1 := hI1.big
            have hwl2 := HI2.out.wlen
            rw [hwT2] at hwl2
            have hbig2 := HI2.out.big
            obtain ⟨x0, hx0⟩ : ∃ x0, T1.words[7 * d + 2]? = some x0 := ⟨_, List.getElem?_eq_getElem (by omega)⟩
            have hoth := fun o (h1 : o = 7 * d + 2 ∨ o = 7 * d + 5 ∨ o = 7 * d + 6) => HOTH.out o (by omega) (by omega) (fun k' _ => by omega)
            obtain ⟨x6, hx6⟩ : ∃ x6, IntKind.i64.wrap (v + (d : Int)) = x6 := ⟨_, rfl⟩
            have hw4 := (hI1.wd d hlt).1
            have hw6 := (hI1.wd d hlt).2
            rw [hx6] at hw6
            have hv4 := HPLS.out d hlt
            obtain ⟨PA, hPA⟩ : ∃ PA, PA = T1.base + ((7 * d + 5 : Nat) : Int) := ⟨_, rfl⟩
            obtain ⟨PB, hPB⟩ : ∃ PB, PB = nb + ((7 * d + 5 : Nat) : Int) := ⟨_, rfl⟩
            rw [← hPA] at hw4
            rw [← hPB] at hv4
            have hbsx := HBS1.out
            obtain ⟨tb1, htb1⟩ : ∃ tb1, tb1 = T1.base := ⟨_, rfl⟩
            have j1 : IntKind.i64.wrap (PB - nb) = ((7 * d + 5 : Nat) : Int) := by rw [show PB - nb = ((7 * d + 5 : Nat) : Int) from by omega]; exact IntWalk.i64_in _ (by omega)
            have j2 : IntKind.i64.wrap (PA - T1.base) = ((7 * d + 5 : Nat) : Int) := by rw [show PA - T1.base = ((7 * d + 5 : Nat) : Int) from by omega]; exact IntWalk.i64_in _ (by omega)
            obtain ⟨PC, hPC⟩ : ∃ PC, PC = PB + 1 := ⟨_, rfl⟩
            have j3 : IntKind.i64.wrap (PB + 1) = PC := by rw [hPC]; exact IntWalk.i64_in _ (by obtain ⟨x1, x2⟩ := hnb2; omega)
            rw [← htb1] at j2 c171
            obtain ⟨j5, hj5⟩ : ∃ j5, j5 = ((7 * d + 5 : Nat) : Int) := ⟨_, rfl⟩
            rw [← hj5] at j1 j2
            have hff := Fr.of_below hbc (fun _ => False)
            obtain ⟨b7a, o7a, ea7, xa0, xa2⟩ := int_two (hra7.fr hff (fun _ _ h => h)) (x := x0) (y := PA) (by rw [subW_get _ _ _ _ (by omega)]; exact hx0) (by rw [subW_get _ _ _ _ (by omega)]; exact hw4)
            obtain ⟨b7b, o7b, eb7, xb0, xb2⟩ := int_two (hrb7.fr hff (fun _ _ h => h)) (x := x0) (y := PB) (by rw [subW_get _ _ _ _ (by omega)]; exact (hoth _ (.inl rfl)).trans hx0) (by rw [subW_get _ _ _ _ (by omega)]; exact hv4)
            obtain ⟨b8b, o8b, eb8, xb1⟩ := int_at (hrb8.fr hff (fun _ _ h => h)) (i := 1) (x := x6) (by rw [subW_get _ _ _ _ (by omega)]; exact (hoth _ (.inr (.inr rfl))).trans hw6)
            have hsame : subW L (7 * d + 5) 2 = subW T1.words (7 * d + 5) 2 := by
              refine List.ext_getElem? fun i => ?_
              rcases Nat.lt_or_ge i 2 with hi | hi
              · rw [subW_get _ _ _ _ hi, subW_get _ _ _ _ hi]
                have hi2 : i = 0 ∨ i = 1 := by omega
                rcases hi2 with rfl | rfl
                · exact hoth _ (.inr (.inl rfl))
                · exact hoth _ (.inr (.inr rfl))
              · rw [List.getElem?_eq_none (by rw [hlB]; exact hi), List.getElem?_eq_none (by rw [hlA]; exact hi)]
            rw [hsame] at hrb8
            have sm := fun n => sameIntsM_any (wc.drewN n) _ _ sa.a8 sb.a8 _ _ sa.c8 sb.c8 ((hra8.fr hff (fun _ _ h => h)).fr (Fr.of_below (below_drewN (Below.refl wc.heap.size wc) n) (fun _ => False)) (fun _ _ h => h)) ((hrb8.fr hff (fun _ _ h => h)).fr (Fr.of_below (below_drewN (Below.refl wc.heap.size wc) n) (fun _ => False)) (fun _ _ h => h)) (by rw [hlA]; omega) (by rw [hlA]; omega)
            rw [hlA, decide_eq_true (rfl)] at sm
            have a7c : wc.cell? ⟨za, 7, none⟩ = some (.slice sa.a7 3 sa.c7) := (row_cell hRA 7).1
            have a8c : wc.cell? ⟨za, 8, none⟩ = some (.slice sa.a8 2 sa.c8) := (row_cell hRA 8).1
            have b7c : wc.cell? ⟨zb, 7, none⟩ = some (.slice sb.a7 3 sb.c7) := (row_cell hRB 7).1
            have b8c : wc.cell? ⟨zb, 8, none⟩ = some (.slice sb.a8 2 sb.c8) := (row_cell hRB 8).1
            have c171 := below_cell hbc c171
            have c181 := below_cell hbc c181
            have hb14c := hbr.trans (hbc.mono hbr.size)
            have wf := fun wx (hw : Below w14.heap.size w14 wx) => wordF (HT14.out.below hw) HI2.out (by omega) (by omega) (by rw [hbT2]; exact hnb2) d hlt PC (by rw [hbT2, hPC, hPB]; omega)
            rw [hx6] at wf
            have i9 : IntKind.i64.wrap ((d : Int) + 1) = ((d + 1 : Nat) : Int) := IntWalk.i64_in _ (by omega)
            rw [ea7] at a7c
            rw [eb7] at b7c
            rw [eb8] at b8c sm
            have HB14C := Lib.hid hb14c
            clear hra7 hra8 hrb7 hrb8 hw4 hw6 hv4 hx0 hoth hPA hPB hPC hff hRA hRB hbc hb14c hsame htb1 hj5 hwl1 hbig1 hwl2 hbig2 ea7 eb7 eb8 hbsx
            have SM := Lib.hid sm; clear sm
            have WF := Lib.hid wf; clear wf
            generalize sa.a8 = a8v at *
            generalize sa.c8 = c8v at *
            generalize sa.c7 = c7v at *
            generalize sb.c7 = d7v at *
            generalize sb.c8 = d8v at *
            go_upto_region 27 with fail
            go_quiet ((go_at_call 23; exact Calls.quiet_of (SM.out _)))
            have hbq := below_drewN (Below.refl wc.heap.size wc) nq
            have b7c := below_cell hbq b7c
            have xb2 := below_cell hbq xb2
            have hb14q := HB14C.out.trans (hbq.mono HB14C.out.size)
            clear hbq a7c a8c b8c xa0 xa2 xb0 xb1 c171 c181
            generalize wc.drewN nq = wq at *
            have WFQ := Lib.hid (WF.out wq hb14q)
            have HB14Q := Lib.hid hb14q; clear hb14q
            go_wp2_with fail
            refine WFQ.out.mono ?_
            rintro e wz ⟨rfl, hbz⟩
            have HBZ := Lib.hid (HB14Q.out.trans (hbz.mono HB14Q.out.size))
            clear hbz b7c xb2
            go_wp2_with fail
            go_roundw
            case rel => exact ⟨d + 1, hlt, by go_num, HBZ.out⟩
            case measure => simp [intOf]; omega
        · have hk' : d = k := by omega
          subst hk'
          have hb := HB14.out.trans (hbr.mono HB14.out.size)
          have t0 := below_cell hb HQ4.out.1
          have t1 := below_cell hb HQ4.out.2.1
          have t2 := below_cell hb HQ4.out.2.2
          have fw := frameWords_any wr _ (fun q hq => Nat.lt_of_lt_of_le (HD4.out q hq) hb.size) Tk.p1 _ _ _ 1 (by decide) (HV4.out.below hb) p1_small 3 rfl (by omega)
          rw [show wordsN Tk.p1 ((1 : Nat) : Int) = 7 from by decide] at fw
          have fw : Calls Tryz.prog 25 #[.agg #[.slice a0 n0 m0, .slice a1 Tk.p1.shapes.length m1, .slice a2 Tk.p1.funcs.length m2], .int .i64 1] wr fun e w' => e = .returned (.int .i64 7) ∧ Below wr.heap.size wr w' := fw
          have HBF := Lib.hid (HB04.out.trans (hb.mono HB04.out.size))
          clear hb c17 c171 c18 c181
          have FW := Lib.hid fw; clear fw
          go_wp2_with fail
          refine FW.out.mono ?_
          rintro e wz ⟨rfl, hbz⟩
          have HBZ := Lib.hid (HBF.out.trans (hbz.mono HBF.out.size))
          clear hbz
          go_wp2_with fail
          go_ret
          exact ⟨rfl, HBZ.out⟩
theorem own : ownKnob Tryz.prog.godebug = none := by kernel_rfl
theorem laidOut : laidOutB Tryz.prog = true := by kernel_rfl
set_option maxRecDepth 100000 in
theorem lifted (os : Os) (started : os.Started) (H : Type) (enc : TypeId × Value → H) :
    ReturnsInHanded {} Tryz.checked os 3 .any (Rows.taskMovesSpec.pre6 enc Tryz.prog Tryz.f3 Rows.taskMovesRow.domain false) (Rows.taskMovesSpec.post enc Tryz.prog Tryz.f3 false true false false) := by
  refine returnsInHanded_of_change (C := Tryz.checked) own started (by kernel_rfl) Tryz.func3
    (ChangeSpec.witness6 (enc := enc) (C := Tryz.checked) false ⟨#[], #[.int .i64 0, .int .i64 0, .int .i64 0, .int .i64 0], []⟩ 8 (by kernel_rfl) (by kernel_rfl) (by kernel_rfl) (by kernel_rfl)) ?_
  intro W base args ds gs before hval0 hW hcnd _
  have hval : ∀ (j : Nat) t v, Tryz.f3.params[j]? = some t → args[j]? = some v → Value.okWide Tryz.prog W .any base t v := hval0
  have hW' := hW
  obtain ⟨p, q, hA0, hV, rfl, hfz, hnd⟩ := hW
  have hA : DataW.TrodAll enc Tryz.prog W 0 (fun _ => true) true Tryz.f3.params.toList args.toList ds p := hA0
  rw [Tryz.params3] at hA hval
  obtain ⟨v0, vs0, d0, ds0, p0, q0, hargs, rfl, rfl, h0, r0⟩ := trodAll_cons hA
  obtain ⟨v1, vs1, d1, ds1, p1, q1, rfl, rfl, rfl, h1, r1⟩ := trodAll_cons r0
  obtain ⟨v2, vs2, d2, ds2, p2, q2, rfl, rfl, rfl, h2, r2⟩ := trodAll_cons r1
  obtain ⟨v3, vs3, d3, ds3, p3, q3, rfl, rfl, rfl, h3, r3⟩ := trodAll_cons r2
  obtain ⟨rfl, rfl, rfl⟩ := trodAll_nil r3
  obtain rfl : args = #[v0, v1, v2, v3] := by cases args; simp_all
  obtain ⟨a0, rfl, rfl, rfl, w0⟩ := open_int Tryz.underlying3 (hval 0 3 v0 rfl rfl) h0
  obtain ⟨a1, rfl, rfl, rfl, w1⟩ := open_int Tryz.underlying3 (hval 1 3 v1 rfl rfl) h1
  obtain ⟨a2, rfl, rfl, rfl, w2⟩ := open_int Tryz.underlying3 (hval 2 3 v2 rfl rfl) h2
  obtain ⟨a3, rfl, rfl, rfl, w3⟩ := open_int Tryz.underlying3 (hval 3 3 v3 rfl rfl) h3
  clear hA0 hval0
  simp only [List.append_nil] at hW'
  refine (walk W a0 w0 a1 w1 a2 w2 a3 w3).mono fun e W' ⟨he, hb⟩ => ?_
  subst he
  exact ⟨_, rfl, law_post laidOut (by kernel_rfl) rfl Tryz.underlying4 hW' rfl (fun ds h => by match ds, h with | [_, _, _, _], _ => rfl) hb⟩
theorem over : Rows.taskMovesRow.holds Tryz.pinned (OpenSpec.ofChange Rows.taskMovesSpec) :=
  OpenClaim.holds_of_wide 3 Tryz.f3 rfl rfl rfl rfl rfl rfl rfl ⟨rfl, rfl, rfl, rfl, rfl⟩ rfl rfl rfl rfl rfl (by kernel_rfl) Tryz.func3 (by kernel_rfl)
    (of_decide_eq_true (by kernel_rfl)) (by unfold Func.isWrapper; first | (rw [if_pos (by decide +kernel)]; kernel_rfl) | (rw [if_neg (by decide +kernel)]; exact ⟨rfl, rfl⟩))
    (fun os started H enc _ => lifted os started H enc)
theorem proved : Rows.TaskMovesSaid := over
#print axioms proved
end Go.Proofs.YthkhgihjigmkoaaGreat.taskMoves
