import Derived.Test.YthkhgihjigmkoaaGreatCAm
import Derived.Laws.IdiomCopy
import Derived.StillTailTactics
set_option linter.unusedVariables false
set_option linter.unusedSimpArgs false
namespace Go.Proofs.YthkhgihjigmkoaaGreat.Tk
open Go.ChangeShapes Go.WideShapes Go.ChangeAt Go.RowKit Go.Maps
theorem nine_cells {w : World} {q : Nat} {x0 x1 x2 x3 x4 x5 x6 x7 x8 : Value} {t : TypeId} (h : w.heap[q]? = some (.cells #[x0, x1, x2, x3, x4, x5, x6, x7, x8] t)) :
  (w.cell? ⟨q, 0, none⟩ = some x0 ∧ w.cell? ⟨q, 1, none⟩ = some x1 ∧ w.cell? ⟨q, 2, none⟩ = some x2 ∧ w.cell? ⟨q, 3, none⟩ = some x3 ∧ w.cell? ⟨q, 4, none⟩ = some x4 ∧ w.cell? ⟨q, 5, none⟩ = some x5 ∧ w.cell? ⟨q, 6, none⟩ = some x6 ∧ w.cell? ⟨q, 7, none⟩ = some x7 ∧ w.cell? ⟨q, 8, none⟩ = some x8) ∧ w.frozen? ⟨q, 0, none⟩ = false ∧ w.frozen? ⟨q, 1, none⟩ = false ∧ w.frozen? ⟨q, 2, none⟩ = false ∧ w.frozen? ⟨q, 3, none⟩ = false ∧ w.frozen? ⟨q, 4, none⟩ = false ∧ w.frozen? ⟨q, 5, none⟩ = false ∧ w.frozen? ⟨q, 6, none⟩ = false ∧ w.frozen? ⟨q, 7, none⟩ = false ∧ w.frozen? ⟨q, 8, none⟩ = false :=
 ⟨⟨(row_cell h 0).1, (row_cell h 1).1, (row_cell h 2).1, (row_cell h 3).1, (row_cell h 4).1, (row_cell h 5).1, (row_cell h 6).1, (row_cell h 7).1, (row_cell h 8).1⟩, (row_cell h 0).2, (row_cell h 1).2, (row_cell h 2).2, (row_cell h 3).2, (row_cell h 4).2, (row_cell h 5).2, (row_cell h 6).2, (row_cell h 7).2, (row_cell h 8).2⟩
def spot0 : Obj := .cells #[.int .i64 0, .int .i64 0, .int .i64 0, .bool false, .bool false, .int .i64 0, .bool false, .slice none 0 0, .slice none 0 0] 51
end Go.Proofs.YthkhgihjigmkoaaGreat.Tk
namespace Go.Proofs.YthkhgihjigmkoaaGreat.Tk
open Go.ChangeShapes Go.WideShapes Go.ChangeAt Go.RowKit Go.Maps
theorem StAt.fr {w w' : World} {sb wb : Nat} {base : Int} {l : List Int} {G : Nat → Prop} (h : StAt w sb wb base l) (hf : Fr G w w') (h1 : ¬ G sb) (h2 : ¬ G wb) : StAt w' sb wb base l := ⟨hf.heap h.1 h1, hf.heap h.2 h2⟩
theorem TaskAt.fresh {w w1 : World} {D : Nat → Prop} {p : TPrg} {c0 c1 c2 : Value} {sb wb kb : Nat} {base : Int} {l : List Int} (hp : PV w D p c0 c1 c2) (hD : ∀ k, D k → k < w.heap.size) (hb : Below w.heap.size w w1) (hst : StAt w1 sb wb base l) (hs : w.heap.size ≤ sb) (hw : w.heap.size ≤ wb) (hk : w.heap.size ≤ kb) (hk2 : kb < w1.heap.size) (g : Nat) (hg : g = w1.heap.size) (hkm : MapIs spK (Value.int .i64) w1 kb 0 (fun _ => none)) :
  TaskAt (w1.alloc (.cells #[c0, c1, c2, .pointer (some ⟨sb, 0, none⟩), .slice none 0 0, .slice none 0 0, .slice none 0 0, .map (some kb)] 97)) (fun k => k = g ∨ k = sb ∨ k = wb ∨ k = kb) g p ⟨base, l, [], []⟩ ⟨D, c0, c1, c2, .slice none 0 0, .slice none 0 0, sb, wb, kb, .slice none 0 0, [], fun _ => none, 0⟩ where
 row := by rw [hg]; exact heap_new _ _
 prg := (hp.below hb).fr ((Fr.refl (fun _ => False) w1).alloc _) (fun _ _ h => h)
 out := fun k hk => ⟨fun h => by have := hD k hk; have := hb.size; rcases h with h | h | h | h <;> omega, by have := hD k hk; have := hb.size; simp; omega⟩
 srow := row_alloc hst.1 _
 wrow := row_alloc hst.2 _
 parts := Own.nil _ _ _
 marks := Own.nil _ _ _
 kb := by simp; omega
 kept := ⟨0, Nat.le_refl _, hkm.fr ((Fr.refl (fun _ => False) w1).alloc _) (fun h => h)⟩
 alarms := Own.nil _ _ _
 ft := .inl rfl
 fs := .inr (.inl rfl)
 fw := .inr (.inr (.inl rfl))
 fk := .inr (.inr (.inr rfl))
 fp := fun k hk => by cases hk
 fm := fun k hk => by cases hk
 fa := fun k hk => by cases hk
 flt := fun k hk => by
  have h1 := heap_lt hst.1
  have h2 := heap_lt hst.2
  simp
  rcases hk with h | h | h | h <;> omega
set_option maxRecDepth 100000 in
set_option maxHeartbeats 3200000 in
theorem new_any (w : World) (D : Nat → Prop) (hD : ∀ k, D k → k < w.heap.size) (p : TPrg) (c0 c1 c2 : Value) (hv : PV w D p c0 c1 c2) (hp : PSmall p) (j : Nat) (hj : j < p.funcs.length) (hna : p.funcs[j].nargs = 0) (hsl0 : 0 ≤ p.funcs[j].slots) (serial : Nat) (hs : serial ≤ 100000) (first limit : Int) (cap : Nat) (h1 : 1 ≤ cap) (h2 : cap ≤ 4096) (hlim : (cap : Int) ≤ limit) (hneed : wordsN p j ≤ cap)
  (hfit : ∀ w, Calls Tryz.prog 45 #[.int .i64 first, .int .i64 (wordsN p j)] w fun e w' => e = .returned (.int .i64 cap) ∧ w = w') :
  Calls Tryz.prog 13 #[.agg #[c0, c1, c2], .int .i64 j, .slice none 0 0, .int .i64 serial, .int .i64 first, .int .i64 limit] w fun e w' => ∃ tb F X, e = .returned (.tuple #[.pointer (some ⟨tb, 0, none⟩), .int .i64 0]) ∧ TaskAt w' F tb p (enterT ⟨1073741824 + (serial : Int) * 8192, List.replicate cap 0, [], []⟩ 0 (wordsN p j) j (-1) []) X ∧ X.New ∧ (∀ k, F k → w.heap.size ≤ k) ∧ Below w.heap.size w w' := by
 have hv0 := hv
 obtain ⟨⟨a0, n0, m0, rfl⟩, ⟨a1, m1, rfl, hsh⟩, a2, m2, rfl, hfn⟩ := hv
 have hbx := fun wr h => box1 w #[.slice a0 n0 m0, .slice a1 p.shapes.length m1, .slice a2 p.funcs.length m2] 27 wr h
 have hz0 : (w.alloc (.cells #[.slice a0 n0 m0, .slice a1 p.shapes.length m1, .slice a2 p.funcs.length m2] 27)).heap.size = w.heap.size + 1 := by simp
 obtain ⟨W, hW⟩ : ∃ W, W = (w.alloc (.cells #[.slice a0 n0 m0, .slice a1 p.shapes.length m1, .slice a2 p.funcs.length m2] 27)) := ⟨_, rfl⟩
 rw [← hW] at hbx hz0
 have hs3 : ∀ wr, Below W.heap.size W wr → wr.cell? ⟨w.heap.size, 0, none⟩ = some (.slice a0 n0 m0) ∧ wr.cell? ⟨w.heap.size, 1, none⟩ = some (.slice a1 p.shapes.length m1) ∧ wr.cell? ⟨w.heap.size, 2, none⟩ = some (.slice a2 p.funcs.length m2) := fun wr h => by
  rw [hz0] at h
  have hb := hbx wr h
  exact ⟨hb.1 0 _ rfl, hb.1 1 _ rfl, hb.1 2 _ rfl⟩
 have hbw : ∀ wr, Below W.heap.size W wr → Below w.heap.size w wr := fun wr h => by rw [hz0] at h; exact (hbx wr h).2.1
 have hw0 := Below.refl W.heap.size W
 have hb0 := hbw W hw0
 have wd := words_any W D (fun k hk => Nat.lt_of_lt_of_le (hD k hk) hb0.size) p _ _ _ j (hv0.below hb0) hp
 have hfn := hfn.fr (Fr.of_below hb0 (fun _ => False)) (fun _ _ h => h)
 obtain ⟨bb, o, rfl, _, y0, y1, y2, y3, y4, g0, g1, g2, g3, g4, hfv⟩ := hfn j hj
 obtain ⟨⟨e0, e1, rfl⟩, _⟩ := hfv
 have hj0 : ¬ (j : Int) < 0 := by omega
 have hj1 : ¬ (p.funcs.length : Int) ≤ (j : Int) := by omega
 have hj2 : (j : Int) < p.funcs.length := by omega
 obtain ⟨k0, k1, k2⟩ := hs3 W hw0
 rw [hna] at g0
 have hnl : ((wordsN p j : Nat) : Int) ≤ limit := by omega
 have hmake : ∀ w, (Instr.makeMap 91 none).run Tryz.prog w = .ok (.map (some w.heap.size)) (w.alloc (.map #[] 0)) := fun w => run_makeMap _ w
 have sn := fun w => stNew_any w serial hs cap h1 h2
 have en := fun wr F tb X (h : TaskAt wr F tb p ⟨1073741824 + (serial : Int) * 8192, List.replicate cap 0, [], []⟩ X) (hxa : X.al.length ≤ 10000) => enter_yes wr F tb p _ X h hp ⟨by simp, by simp, by simp; omega, fun q hq => by cases hq⟩ (by simp) j hj 0 (usedN_nil rfl) (by simp; omega) (fun _ => False) none [] 0 (fun j hj => by cases hj) (fun _ h => h.elim) hna.symm (by simp; exact hsl0) (by simp) hxa (-1)
 have hPV : ∀ wr, Below W.heap.size W wr → PV wr D p (.slice a0 n0 m0) (.slice a1 p.shapes.length m1) (.slice (some ⟨bb, o, none⟩) p.funcs.length m2) := fun wr h => hv0.below (hbw wr h)
 generalize wordsN p j = wn at *
 have HW := Lib.hid hW
 clear hW hbx hz0 hv0 hsh hfn hna hsl0
 have HS3 := Lib.hid hs3; clear hs3
 have HBW := Lib.hid hbw; clear hbw
 have HW0 := Lib.hid hw0; clear hw0
 have HB0 := Lib.hid hb0; clear hb0
 have WD := Lib.hid wd; clear wd
 have SN := Lib.hid sn; clear sn
 have EN := Lib.hid en; clear en
 have HPV := Lib.hid hPV; clear hPV
 have HFIT := Lib.hid hfit; clear hfit
 go_enter Tryz.func13, Tryz.ntmps13
 go_upto_region 1 with fail
 rw [← HW.out]
 go_wp2_with fail
 refine WD.out.mono ?_
 rintro e w1 ⟨rfl, hb1⟩
 have HB1 := Lib.hid hb1
 clear hb1
 go_wp2_with fail
 refine (HFIT.out _).mono ?_
 rintro e w2 ⟨rfl, rfl⟩
 clear k0 k1 k2
 obtain ⟨k0, k1, k2⟩ := HS3.out w1 HB1.out
 clear g0 g1 g2 g3 g4
 go_upto_region 9 with fail
 have hw1 := HBW.out w1 HB1.out
 have HW1 := Lib.hid hw1; clear hw1
 go_cut [16] (fun t wx => ∃ tb F X, t = .pointer (some ⟨tb, 0, none⟩) ∧ TaskAt wx F tb p ⟨1073741824 + (serial : Int) * 8192, List.replicate cap 0, [], []⟩ X ∧ X.New ∧ (∀ k, F k → w1.heap.size ≤ k) ∧ Below w1.heap.size w1 wx)
 case first =>
  have b0 := World.block_lt k0
  dsimp only at b0
  go_region_law (first | (go_simp; go_at_call 46; refine (SN.out _).mono ?_; rintro e w3 ⟨sb, wb, rfl, hst, h1s, h2s, h3s, h4s, hb3⟩; have hbq : Below w1.heap.size w1 w3 := (by first | exact ((Below.refl w1.heap.size w1).drew).trans hb3 | exact (((Below.refl w1.heap.size w1).alloc (Nat.le_refl _) (.map #[] 0)).drew).trans (hb3.mono (by simp))); obtain ⟨z0, z1, z2⟩ := HS3.out w3 (HB1.out.trans (hbq.mono HB1.out.size)); have bz := World.block_lt z0))
  all_goals
   have hz := hbq.size
   have hsb : w1.heap.size ≤ sb := by simp at h1s; omega
   have hwb : w1.heap.size ≤ wb := by simp at h2s; omega
   have hpv := HPV.out w1 HB1.out
   have hD1 : ∀ k, D k → k < w1.heap.size := fun k hk => Nat.lt_of_lt_of_le (hD k hk) HW1.out.size
   clear h1s h2s z0 z1 z2 bz b0
   have HZ := Lib.hid hz; clear hz
   have HSB := Lib.hid hsb; clear hsb
   have HWB := Lib.hid hwb; clear hwb
   have HPV := Lib.hid hpv; clear hpv
   have HD1 := Lib.hid hD1; clear hD1
   have HBQ := Lib.hid hbq; clear hbq
   have HST := Lib.hid hst; clear hst
   have HB3 := Lib.hid hb3; clear hb3
   go_wp2_with fail
   go_meet
   case rel =>
    have h1 := HZ.out
    have h2 := HSB.out
    have h3 := HWB.out
    first
    | (refine ⟨_, _, _, rfl, TaskAt.fresh HPV.out HD1.out (HBQ.out.alloc HBQ.out.size (.map #[] 0)) (HST.out.fr ((Fr.refl (fun _ => False) w3).alloc (.map #[] 0)) (fun h => h) (fun h => h)) HSB.out HWB.out HZ.out (by simp) (w3.heap.size + 1) (by simp) (MapIs.made spK _ w3), ⟨rfl, rfl, rfl⟩, ?_, ?_⟩
       ·intro k hk
        rcases hk with h | h | h | h <;> omega
       ·exact (HBQ.out.alloc HBQ.out.size _).alloc (by simp; omega) _)
    | (refine ⟨_, _, _, rfl, TaskAt.fresh HPV.out HD1.out HBQ.out HST.out HSB.out HWB.out (Nat.le_refl _) ?_ w3.heap.size rfl (((MapIs.made spK _ w1).below ((Below.refl _ _).drew)).below HB3.out), ⟨rfl, rfl, rfl⟩, ?_, ?_⟩
       ·omega
       ·intro k hk
        rcases hk with h | h | h | h <;> omega
       ·exact HBQ.out.alloc HBQ.out.size _)
 case rest =>
  obtain ⟨tb, F, X, rfl, hT, hXn, hF, hbt⟩ := hcut
  have en := EN.out wc F tb X hT (by rw [hXn.1]; simp)
  have hbt2 := HW1.out.trans (hbt.mono HW1.out.size)
  clear k0 k1 k2 hT
  have EN := Lib.hid en; clear en
  have HF := Lib.hid hF; clear hF
  have HBT := Lib.hid hbt; clear hbt
  have HBT2 := Lib.hid hbt2; clear hbt2
  have HXN := Lib.hid hXn; clear hXn
  go_wp2_with fail
  refine EN.out.mono ?_
  rintro e w5 ⟨rfl, F5, X5, hT5, hxq, hF5, hfr5⟩
  have HX5 := Lib.hid (show X5.New from ⟨by rw [hxq.2.1]; exact HXN.out.1, by rw [hxq.2.2.1]; exact HXN.out.2.1, by rw [hxq.2.2.2]; exact HXN.out.2.2⟩)
  clear hxq
  have hz1 := HW1.out.size
  have hz2 := HBT.out.size
  have hlow : ∀ k, F5 k → w.heap.size ≤ k := fun k hk => by
   rcases hF5 k hk with h | h
   ·have := HF.out k h
    omega
   ·omega
  have hbf : Below w.heap.size w w5 := HBT2.out.trans (hfr5.below HBT2.out.size (fun k hk => by have := HF.out k hk; omega))
  clear hF5 hfr5 hz1 hz2
  have HT5 := Lib.hid hT5; clear hT5
  have HLOW := Lib.hid hlow; clear hlow
  have HBF := Lib.hid hbf; clear hbf
  go_wp2_with fail
  go_ret2
  first | exact ⟨_, _, _, rfl, HT5.out, HX5.out, HLOW.out, HBF.out⟩ | exact ⟨tb, rfl, F5, X5, HT5.out, HX5.out, HLOW.out, HBF.out⟩ | exact ⟨tb, F5, X5, rfl, HT5.out, HX5.out, HLOW.out, HBF.out⟩
end Go.Proofs.YthkhgihjigmkoaaGreat.Tk
namespace Go.Proofs.YthkhgihjigmkoaaGreat.Tk
open Go.ChangeShapes Go.WideShapes Go.ChangeAt Go.RowKit Go.Maps
def movedI (b : Int) (n : Nat) (b2 : Int) (n2 : Nat) (v : Int) : Int := if b ≤ v ∧ v < b + n then (if v - b < n2 then b2 + (v - b) else 0) else v
def baseOk (b : Int) : Prop := 0 ≤ b ∧ b ≤ 1000000000000
set_option maxRecDepth 100000 in
theorem stOff_any (w : World) (sb wb : Nat) (base : Int) (l : List Int) (h : StAt w sb wb base l) (hb : baseOk base) (hl : l.length ≤ 100000) (v : Int) :
  Calls Tryz.prog 84 #[.pointer (some ⟨sb, 0, none⟩), .int .i64 v] w fun e w' => e = .returned (.tuple #[.int .i64 (if base ≤ v ∧ v < base + l.length then v - base else 0), .bool (decide (base ≤ v ∧ v < base + l.length))]) ∧ Below w.heap.size w w' := by
 obtain ⟨k0, k1⟩ := h.cells
 obtain ⟨hb1, hb2⟩ := hb
 clear h
 generalize l.length = n at *
 obtain ⟨x, hx⟩ : ∃ x, x = base + (n : Int) := ⟨_, rfl⟩
 have i0 : IntKind.i64.wrap (base + (n : Int)) = x := by rw [← hx]; exact IntWalk.i64_in _ (by omega)
 have hbw := fun nq => below_drewN (Below.refl w.heap.size w) nq
 have HBW := Lib.hid hbw; clear hbw
 by_cases h1 : v < base
 ·have he : ¬ (base ≤ v ∧ v < base + n) := by omega
  rw [if_neg he, decide_eq_false he]
  clear he
  have HX := Lib.hid hx; clear hx
  go_enter Tryz.func84, Tryz.ntmps84
  go_upto_region 1 with fail
  go_quiet (fail)
  go_wp2_with fail
  go_ret2
  first | exact ⟨rfl, HBW.out _⟩ | exact HBW.out _
 ·by_cases h2 : v < x
  ·have he : base ≤ v ∧ v < base + n := by omega
   have h3 : ¬ x ≤ v := by omega
   have i1 : IntKind.i64.wrap (v - base) = v - base := IntWalk.i64_in _ (by omega)
   rw [if_pos he, decide_eq_true he]
   clear he
   have HX := Lib.hid hx; clear hx
   go_enter Tryz.func84, Tryz.ntmps84
   go_upto_region 1 with fail
   go_quiet (fail)
   have k0 := below_cell (HBW.out nq) k0
   have HB := Lib.hid (HBW.out nq)
   generalize w.drewN nq = w1 at *
   go_wp2_with fail
   go_ret2
   first | exact ⟨rfl, HB.out⟩ | exact HB.out
  ·have he : ¬ (base ≤ v ∧ v < base + n) := by omega
   have h3 : x ≤ v := by omega
   rw [if_neg he, decide_eq_false he]
   clear he
   have HX := Lib.hid hx; clear hx
   go_enter Tryz.func84, Tryz.ntmps84
   go_upto_region 1 with fail
   go_quiet (fail)
   go_wp2_with fail
   go_ret2
   first | exact ⟨rfl, HBW.out _⟩ | exact HBW.out _
set_option maxRecDepth 100000 in
theorem stAddr_any (w : World) (sb wb : Nat) (base : Int) (l : List Int) (h : StAt w sb wb base l) (hb : baseOk base) (hl : l.length ≤ 100000) (off : Int) :
  Calls Tryz.prog 56 #[.pointer (some ⟨sb, 0, none⟩), .int .i64 off] w fun e w' => e = .returned (.int .i64 (if 0 ≤ off ∧ off < l.length then base + off else 0)) ∧ w = w' := by
 have th := stThere_any w sb wb base l h off
 obtain ⟨k0, k1⟩ := h.cells
 obtain ⟨hb1, hb2⟩ := hb
 clear h
 by_cases h1 : 0 ≤ off ∧ off < l.length
 ·have hw : withinB off l.length = true := by simp [withinB, h1.1, h1.2]
  rw [hw] at th
  rw [if_pos h1]
  have i1 : IntKind.i64.wrap (base + off) = base + off := IntWalk.i64_in _ (by omega)
  clear hw h1
  have TH := Lib.hid th; clear th
  go_enter Tryz.func56, Tryz.ntmps56
  go_wp2_with fail
  refine TH.out.mono ?_
  rintro e w' ⟨rfl, rfl⟩
  go_wp2_with fail
  go_ret
  exact ⟨rfl, rfl⟩
 ·have hw : withinB off l.length = false := by
   cases h : withinB off l.length
   ·rfl
   ·exact absurd (by simpa [withinB] using h) h1
  rw [hw] at th
  rw [if_neg h1]
  clear hw h1
  have TH := Lib.hid th; clear th
  go_enter Tryz.func56, Tryz.ntmps56
  go_wp2_with fail
  refine TH.out.mono ?_
  rintro e w' ⟨rfl, rfl⟩
  go_wp2_with fail
  go_ret
  exact ⟨rfl, rfl⟩
set_option maxRecDepth 100000 in
theorem stMoved_any (w : World) (sb wb : Nat) (base : Int) (l : List Int) (h : StAt w sb wb base l) (hb : baseOk base) (hl : l.length ≤ 100000) (sb2 wb2 : Nat) (base2 : Int) (l2 : List Int) (h' : StAt w sb2 wb2 base2 l2) (hb' : baseOk base2) (hl' : l2.length ≤ 100000) (v : Int) :
  Calls Tryz.prog 53 #[.pointer (some ⟨sb2, 0, none⟩), .pointer (some ⟨sb, 0, none⟩), .int .i64 v] w fun e w' => e = .returned (.int .i64 (movedI base l.length base2 l2.length v)) ∧ Below w.heap.size w w' := by
 have of := stOff_any w sb wb base l h hb hl v
 by_cases h1 : base ≤ v ∧ v < base + l.length
 ·have ad := fun wr (hw : Below w.heap.size w wr) => stAddr_any wr sb2 wb2 base2 l2 (h'.fr (Fr.of_below hw (fun _ => False)) (fun h => h) (fun h => h)) hb' hl' (v - base)
  have hm : movedI base l.length base2 l2.length v = if 0 ≤ v - base ∧ v - base < l2.length then base2 + (v - base) else 0 := by
   unfold movedI
   rw [if_pos h1]
   by_cases h2 : v - base < (l2.length : Int)
   ·rw [if_pos h2, if_pos ⟨by omega, h2⟩]
   ·rw [if_neg h2, if_neg (fun h => h2 h.2)]
  rw [hm]
  rw [if_pos h1, decide_eq_true h1] at of
  generalize (if 0 ≤ v - base ∧ v - base < (l2.length : Int) then base2 + (v - base) else 0) = y at *
  obtain ⟨x, hx⟩ : ∃ x, x = v - base := ⟨_, rfl⟩
  rw [← hx] at of ad
  clear h h' h1 hm hx
  have OF := Lib.hid of; clear of
  have AD := Lib.hid ad; clear ad
  go_enter Tryz.func53, Tryz.ntmps53
  go_wp2_with fail
  refine OF.out.mono ?_
  rintro e w1 ⟨rfl, hb1⟩
  have HB1 := Lib.hid hb1; clear hb1
  go_wp2_with fail
  refine (AD.out _ HB1.out).mono ?_
  rintro e w2 ⟨rfl, rfl⟩
  go_wp2_with fail
  go_ret
  exact ⟨rfl, HB1.out⟩
 ·have hm : movedI base l.length base2 l2.length v = v := by unfold movedI; rw [if_neg h1]
  rw [hm]
  rw [if_neg h1, decide_eq_false h1] at of
  clear h h' h1 hm
  have OF := Lib.hid of; clear of
  go_enter Tryz.func53, Tryz.ntmps53
  go_wp2_with fail
  refine OF.out.mono ?_
  rintro e w1 ⟨rfl, hb1⟩
  have HB1 := Lib.hid hb1; clear hb1
  go_wp2_with fail
  go_ret
  exact ⟨rfl, HB1.out⟩
theorem rowSets_at {q : Nat} {t : TypeId} : ∀ (vs : List Value) (w : World) (o : Nat) (cs : List Value), w.heap[q]? = some (.cells cs.toArray t) → o + vs.length ≤ cs.length → (w.setCells q o vs).heap[q]? = some (.cells (cs.take o ++ vs ++ cs.drop (o + vs.length)).toArray t)
 | [], w, o, cs, h, _ => by
  simp only [World.setCells, List.length_nil, Nat.add_zero, List.append_nil, List.take_append_drop]
  exact h
 | v :: vs, w, o, cs, h, hl => by
  have hl : o + (vs.length + 1) ≤ cs.length := hl
  have h1 := row_set h o v
  have e1 : cs.toArray.setIfInBounds o v = (cs.set o v).toArray := by simp
  rw [e1] at h1
  have h2 := rowSets_at vs (w.setCell ⟨q, o, none⟩ v) (o + 1) (cs.set o v) h1 (by simp; omega)
  have e2 : (cs.set o v).take (o + 1) = cs.take o ++ [v] := by
   rw [List.take_add_one, List.take_set_of_le (Nat.le_refl _), List.getElem?_set_self (by omega)]
   rfl
  have e3 : (cs.set o v).drop (o + 1 + vs.length) = cs.drop (o + (v :: vs).length) := by
   rw [List.drop_set_of_lt (by omega)]
   congr 1
   simp
   omega
  rw [e2, e3] at h2
  show ((w.setCell ⟨q, o, none⟩ v).setCells q (o + 1) vs).heap[q]? = _
  rw [h2]
  simp
def keepW (l : List Int) (n : Nat) : List Int := l.take n ++ List.replicate (n - l.length) 0
theorem keepW_len (l : List Int) (n : Nat) : (keepW l n).length = n := by simp [keepW]; omega
theorem keepW_get (l : List Int) (n k : Nat) (hk : k < n) : (keepW l n)[k]? = some (l.getD k 0) := by
 unfold keepW
 by_cases h : k < l.length
 ·rw [List.getElem?_append_left (by simp; omega), List.getElem?_take_of_lt hk, List.getElem?_eq_getElem h, List.getD_eq_getElem?_getD, List.getElem?_eq_getElem h]; rfl
 ·have hl : (l.take n).length = l.length := by rw [List.length_take]; omega
  rw [List.getElem?_append_right (by rw [hl]; omega), hl, List.getElem?_replicate, if_pos (by omega), List.getD_eq_getElem?_getD, List.getElem?_eq_none (by omega)]; rfl
set_option maxRecDepth 100000 in
theorem copy_st (w : World) (ty : TypeId) (g n wb : Nat) (l : List Int) (hn : 1 ≤ n) (hl : 1 ≤ l.length) (hg : w.heap[g]? = some (intRow (List.replicate n 0) 3)) (hw : w.heap[wb]? = some (intRow l 3)) :
  ∃ w' c, (Builtin.copy_ #[23, 23] ty #[.slice (some ⟨g, 0, none⟩) n n, .slice (some ⟨wb, 0, none⟩) l.length l.length]).run Tryz.prog w = .ok (goInt c) w' ∧ w'.heap[g]? = some (intRow (keepW l n) 3) ∧ Fr (fun k => k = g) w w' := by
 have hsz : (Tryz.prog.info? 3).map (·.size) = some 1 := by kernel_rfl
 have hlen : ((l.take n).map (Value.int .i64)).length = min l.length n := by simp; omega
 have hr := run_copy_cells (P := Tryz.prog) w 23 23 ty 3 g 0 n n ⟨wb, 0, none⟩ l.length l.length ((l.take n).map (Value.int .i64)) Tryz.underlying23 hsz hlen (fun j v hj => by
  rw [List.getElem?_map] at hj
  have hjl : j < (l.take n).length := by
   rcases Nat.lt_or_ge j (l.take n).length with h | h
   ·exact h
   ·rw [List.getElem?_eq_none h] at hj; cases hj
  have hjl2 : j < l.length := by rw [List.length_take] at hjl; omega
  have hjn : j < n := by rw [List.length_take] at hjl; omega
  rw [List.getElem?_take_of_lt hjn, List.getElem?_eq_getElem hjl2] at hj
  have := (row_cell hw j).1
  have e : w.cell? ((⟨wb, 0, none⟩ : Addr).add j) = w.cell? ⟨wb, j, none⟩ := by
   by_cases hj0 : j = 0
   ·subst hj0; simp [Addr.add]
   ·simp [Addr.add, hj0]
  rw [e, this, ← hj]
  simp [hjl2]) (fun j hj => by
  rw [(row_cell hg _).1]
  rw [hlen] at hj
  simp only [Nat.zero_add]
  rw [Array.getElem?_eq_getElem (by simp; omega)]
  rfl) (fun j hj => (row_cell hg _).2) (fun v hv => by
  obtain ⟨z, _, rfl⟩ := List.mem_map.1 hv
  rfl)
 refine ⟨_, _, hr, ?_, sets_fr _ _ _⟩
 have hs2 := rowSets_at ((l.take n).map (Value.int .i64)) w 0 ((List.replicate n 0).map (Value.int .i64)) hg (by rw [hlen]; simp; omega)
 rw [hs2]
 have e1 : n - (0 + min l.length n) = n - l.length := by omega
 rw [hlen, List.take_zero, List.nil_append, ← List.map_drop, List.drop_replicate, e1, ← List.map_append]
 rfl
set_option maxRecDepth 100000 in
theorem stCopy_any (w : World) (sb wb : Nat) (base : Int) (l : List Int) (h : StAt w sb wb base l) (hl : 1 ≤ l.length) (serial : Nat) (hs : serial ≤ 100000) (n : Nat) (h1 : 1 ≤ n) (h2 : n ≤ 4096) :
  Calls Tryz.prog 47 #[.pointer (some ⟨sb, 0, none⟩), .int .i64 serial, .int .i64 n] w fun e w' => ∃ sb' wb', e = .returned (.pointer (some ⟨sb', 0, none⟩)) ∧ StAt w' sb' wb' (1073741824 + (serial : Int) * 8192) (keepW l n) ∧ w.heap.size ≤ sb' ∧ w.heap.size ≤ wb' ∧ sb' < w'.heap.size ∧ wb' < w'.heap.size ∧ sb' ≠ wb' ∧ Below w.heap.size w w' := by
 have nw := stNew_any w serial hs n h1 h2
 have hsb := heap_lt h.1
 have NW := Lib.hid nw; clear nw
 have HH := Lib.hid h; clear h
 go_enter Tryz.func47, Tryz.ntmps47
 go_wp2_with fail
 refine NW.out.mono ?_
 rintro e w1 ⟨sb', wb', rfl, hst, g1, g2, g3, g4, hb1⟩
 have ho := HH.out.fr (Fr.of_below hb1 (fun _ => False)) (fun h => h) (fun h => h)
 have hne : sb' ≠ wb' := by
  rintro rfl
  have e1 := hst.1
  rw [hst.2] at e1
  unfold intRow at e1
  injection e1 with e1
  injection e1 with e1 e2
  exact absurd e2 (by decide)
 obtain ⟨k0, k1⟩ := ho.cells
 obtain ⟨q0, q1⟩ := hst.cells
 rw [List.length_replicate] at q1
 go_upto_region 4 with fail
 go_still_tail 8, (by kernel_rfl)
 change wpList _ _ _ _ _ w1.drew
 have hbd : Below w1.heap.size w1 w1.drew := (Below.refl w1.heap.size w1).drew
 have ho := ho.fr (Fr.of_below hbd (fun _ => False)) (fun h => h) (fun h => h)
 have hst := hst.fr (Fr.of_below hbd (fun _ => False)) (fun h => h) (fun h => h)
 have hb1 := hb1.trans (hbd.mono hb1.size)
 have g3 := Nat.lt_of_lt_of_le g3 hbd.size
 have g4 := Nat.lt_of_lt_of_le g4 hbd.size
 clear k0 k1 q0 q1 hbd
 generalize w1.drew = wd at *
 obtain ⟨w2, cc, hrun, hrow, hfr⟩ := copy_st wd 3 wb' n wb l h1 hl (by have := hst.2; simpa using this) ho.2
 have hst2 : StAt w2 sb' wb' (1073741824 + (serial : Int) * 8192) (keepW l n) := ⟨by have h5 := hfr.heap hst.1 hne; rw [List.length_replicate] at h5; rw [keepW_len]; exact h5, hrow⟩
 have hb2 := hb1.trans (hfr.below hb1.size (fun k hk => hk ▸ g2))
 have g3' := Nat.lt_of_lt_of_le g3 hfr.size
 have g4' := Nat.lt_of_lt_of_le g4 hfr.size
 clear hst hrow hfr ho hb1
 have HST := Lib.hid hst2; clear hst2
 have HB2 := Lib.hid hb2; clear hb2
 have G := Lib.hid (And.intro g1 (And.intro g2 (And.intro g3' (And.intro g4' hne)))); clear g1 g2 g3 g4 g3' g4' hne
 go_wp2_with fail
 go_ret
 exact ⟨_, _, rfl, HST.out, G.out.1, G.out.2.1, G.out.2.2.1, G.out.2.2.2.1, G.out.2.2.2.2, HB2.out⟩
end Go.Proofs.YthkhgihjigmkoaaGreat.Tk
