import Derived.Test.YthkhgihjigmkoaaGreatRAl
import Derived.Laws.IdiomCopy
import Derived.StillTailTactics
set_option linter.unusedVariables false
set_option linter.unusedSimpArgs false
namespace Go.Proofs.YthkhgihjigmkoaaGreat.Tk
open Go.ChangeShapes Go.WideShapes Go.ChangeAt Go.RowKit Go.Maps
def enterT (T : Tk) (un wn : Nat) (j : Nat) (ret : Int) (al : List Int) : Tk := ⟨T.base, (pushT T un wn j ret al).words, (pushT T un wn j ret al).parts, T.marks ++ [⟨false, false, 0⟩]⟩
set_option maxRecDepth 100000 in
set_option maxHeartbeats 3200000 in
theorem enter_yes (w : World) (F : Nat → Prop) (tb : Nat) (p : TPrg) (T : Tk) (X : TB) (h : TaskAt w F tb p T X) (hp : PSmall p) (ht : TkOk T) (hlen : T.parts.length < 1000) (j : Nat) (hj : j < p.funcs.length) (un : Nat) (hun : usedN p T = un) (hfit : un + wordsN p j ≤ T.words.length)
  (D : Nat → Prop) (a : Option Addr) (al : List Int) (c : Nat) (hal : IntSl w D a al) (hD : ∀ k, D k → ¬ F k ∧ k < w.heap.size) (hna : al.length = p.funcs[j].nargs) (hsl : (al.length : Int) ≤ p.funcs[j].slots) (hal2 : al.length ≤ 3000) (ret : Int) :
  Calls Tryz.prog 20 #[.pointer (some ⟨tb, 0, none⟩), .int .i64 j, .slice a al.length c, .int .i64 ret] w fun e w' => e = .returned (.bool true) ∧ ∃ F' X', TaskAt w' F' tb p (enterT T un (wordsN p j) j ret al) X' ∧ (∀ k, F' k → F k ∨ w.heap.size ≤ k) ∧ Fr F w w' := by
 have hfb : fitsB p T j al.length = true := by
  rw [fitsB_at hj, hna, hun]
  simp
  omega
 have fi := fits_any w F tb p T X h hp ht j a al.length c hal2
 rw [hfb] at fi
 have pu := fun wr (hw : Below w.heap.size w wr) => push_any wr F tb p T X (h.below hw) hp ht hlen j hj un hun hfit D a al c (hal.fr (Fr.of_below hw (fun _ => False)) (fun _ _ h => h)) (fun k hk => ⟨(hD k hk).1, Nat.lt_of_lt_of_le (hD k hk).2 hw.size⟩) hsl hal2 ret
 have hm := ht.2.1
 generalize wordsN p j = wn at *
 clear h hfb hfit hal hD hna hsl
 have FI := Lib.hid fi; clear fi
 have PU := Lib.hid pu; clear pu
 have HUN := Lib.hid hun; clear hun
 go_enter Tryz.func20, Tryz.ntmps20
 go_wp2_with fail
 refine FI.out.mono ?_
 rintro e w1 ⟨rfl, hb⟩
 have HB := Lib.hid hb
 clear hb
 go_wp2_with fail
 refine (PU.out w1 HB.out).mono ?_
 rintro e w2 ⟨rfl, F2, X2, hT2, hF2, hfr2⟩
 have q5 := hT2.cells.2.2.2.2.2.1
 have q6 := hT2.cells.2.2.2.2.2.2.1
 have em := stEnter_any w2 0 X2.mv T.marks hT2.marks (by omega)
 obtain ⟨a5, n5, c5, hmv⟩ := hT2.marks.slice
 rw [hmv] at em q5
 have EM := Lib.hid em; clear em
 have HT2 := Lib.hid hT2; clear hT2
 have HF2 := Lib.hid hF2; clear hF2
 have HFR2 := Lib.hid hfr2; clear hfr2
 have HMV := Lib.hid hmv; clear hmv
 go_wp2_with fail
 refine EM.out.mono ?_
 rintro e w3 ⟨v3, rfl, ho3, hb3⟩
 obtain ⟨a3, n3, c3, rfl⟩ := ho3.slice
 have hT3 := HT2.out.below hb3
 obtain ⟨hT4, hF4⟩ := hT3.mark ho3 (fun k hk => hk.elim (fun h => HT2.out.flt k h) (fun h => (HT2.out.out k h).2))
 have q5 := hT3.cells.2.2.2.2.2.1
 have q6 := hT3.cells.2.2.2.2.2.2.1
 have f5 : w3.frozen? ⟨tb, 5, none⟩ = false := (row_cell hT3.row 5).2
 have f6 : w3.frozen? ⟨tb, 6, none⟩ = false := (row_cell hT3.row 6).2
 have hs2 := HFR2.out.size
 have hfin : ∃ F' X', TaskAt ((w3.setCell ⟨tb, 5, none⟩ (.slice a3 n3 c3)).setCell ⟨tb, 6, none⟩ (.slice none 0 0)) F' tb p (enterT T un wn j ret al) X' ∧ (∀ k, F' k → F k ∨ w.heap.size ≤ k) ∧ Fr F w ((w3.setCell ⟨tb, 5, none⟩ (.slice a3 n3 c3)).setCell ⟨tb, 6, none⟩ (.slice none 0 0)) := by
  have hz1 := HB.out.size
  refine ⟨_, _, hT4, fun k hk => ?_, ?_⟩
  ·rcases hk with h1 | h1
   ·rcases HF2.out k h1 with h2 | h2
    ·exact .inl h2
    ·exact .inr (by omega)
   ·have := (ho3.lt h1).1
    exact .inr (by omega)
  ·have h1 := (Fr.of_below HB.out F).trans HFR2.out (fun k _ hk => hk)
   have h2 := h1.trans (Fr.of_below hb3 F) (fun k _ hk => hk)
   exact h2.trans hF4 (fun k hk1 hk2 => (HF2.out k hk2).elim (fun h => h) (fun h => absurd h (by omega)))
 clear hT3 hT4 hF4 ho3 hb3 hs2
 have HFIN := Lib.hid hfin; clear hfin
 go_wp2_with fail
 go_ret
 exact ⟨rfl, HFIN.out⟩
end Go.Proofs.YthkhgihjigmkoaaGreat.Tk
namespace Go.Proofs.YthkhgihjigmkoaaGreat.Tk
open Go.ChangeShapes Go.WideShapes Go.ChangeAt Go.RowKit Go.Maps
set_option maxRecDepth 100000 in
theorem fit_stay (w : World) (first need : Int) (h1 : 1 ≤ first) (h2 : need ≤ first) (h3 : first ≤ 1000000) :
  Calls Tryz.prog 45 #[.int .i64 first, .int .i64 need] w fun e w' => e = .returned (.int .i64 first) ∧ w = w' := by
 have n1 : ¬ first < 1 := by omega
 have n2 : ¬ first < need := by omega
 have n3 : ¬ 1000000 < first := by omega
 go_enter Tryz.func45, Tryz.ntmps45
 go_wp2_with fail
 go_loopw [0] (fun v wr => v = .int .i64 first ∧ wr = w) (fun _ _ => 0)
 case atStart => exact ⟨rfl, by first | rfl | trivial⟩
 case round =>
  obtain ⟨rfl, rfl⟩ := hrel
  go_wp2_with fail
  go_ret
  exact ⟨rfl, by first | rfl | trivial⟩
set_option maxRecDepth 100000 in
theorem make_ints (w : World) (n : Nat) (hn : n ≤ 100000) : (Instr.makeSlice 23 (.int .i64 n) (.int .i64 n)).run Tryz.prog w = .ok (.slice (some ⟨w.heap.size, 0, none⟩) n n) (w.alloc (intRow (List.replicate n 0) 3)) := by
 obtain ⟨i0, hi, hz0, hz1, hz2⟩ := info_parts intE.info
 have h := run_makeSlice (P := Tryz.prog) (w := w) 23 3 i0 (.int .i64 0) Tryz.underlying23 hi hz0 .i64 .i64 (n : Int) (n : Int) (by omega) (Int.le_refl _) (by rw [hz1]; show (n : Int).toNat * 1 ≤ 16777216; omega) (by rw [hz2]; show (8 : Int) * (n : Int) ≤ 281474976710656; omega) (by omega)
 rw [h]
 simp only [Int.toNat_natCast, hz1]
 have e : madeCells (Value.int .i64 0).cells (n * intE.size) = ((List.replicate n (0 : Int)).map (Value.int .i64)).toArray := by
  show madeCells #[Value.int .i64 0] (n * 1) = _
  unfold madeCells
  apply Array.ext
  ·simp
  ·intro i h1 h2
   simp [Nat.mod_one]
 rw [e]
 rfl
set_option maxRecDepth 100000 in
set_option maxHeartbeats 1600000 in
theorem stNew_any (w : World) (serial : Nat) (hs : serial ≤ 100000) (n : Nat) (h1 : 1 ≤ n) (h2 : n ≤ 4096) :
  Calls Tryz.prog 46 #[.int .i64 serial, .int .i64 n] w fun e w' => ∃ sb wb, e = .returned (.pointer (some ⟨sb, 0, none⟩)) ∧ StAt w' sb wb (1073741824 + (serial : Int) * 8192) (List.replicate n 0) ∧ w.heap.size ≤ sb ∧ w.heap.size ≤ wb ∧ sb < w'.heap.size ∧ wb < w'.heap.size ∧ Below w.heap.size w w' := by
 have mk := fun w => make_ints w n (by omega)
 have n1 : ¬ (serial : Int) < 0 := by omega
 have n2 : ¬ (100000 : Int) < (serial : Int) := by omega
 have n3 : ¬ (n : Int) < 1 := by omega
 have n4 : ¬ (4096 : Int) < (n : Int) := by omega
 have m1 : (0 : Int) ≤ (serial : Int) := by omega
 have m2 : (serial : Int) ≤ 100000 := by omega
 have m3 : (1 : Int) ≤ (n : Int) := by omega
 have m4 : (n : Int) ≤ 4096 := by omega
 go_enter Tryz.func46, Tryz.ntmps46
 go_wp2_with fail
 go_ret
 have hr1 := heap_new (w.alloc (intRow (List.replicate n 0) 3)) (.cells #[.int .i64 (1073741824 + (serial : Int) * 8192), .slice (some ⟨w.heap.size, 0, none⟩) n n] 142)
 rw [show (w.alloc (intRow (List.replicate n 0) 3)).heap.size = w.heap.size + 1 from by simp] at hr1
 have hr2 := row_alloc (heap_new w (intRow (List.replicate n 0) 3)) (.cells #[.int .i64 (1073741824 + (serial : Int) * 8192), .slice (some ⟨w.heap.size, 0, none⟩) n n] 142)
 refine ⟨w.heap.size + 1, rfl, w.heap.size, ⟨?_, hr2⟩, ?_⟩
 ·rw [List.length_replicate]
  exact hr1
 ·refine ⟨by omega, Nat.le_refl _, by simp, by simp; omega, ((Below.refl _ _).alloc (Nat.le_refl _) _).alloc (by simp) _⟩
end Go.Proofs.YthkhgihjigmkoaaGreat.Tk
namespace Go.Proofs.YthkhgihjigmkoaaGreat.Tk
open Go.ChangeShapes Go.WideShapes Go.ChangeAt Go.RowKit Go.Maps
theorem StAt.fr {w w' : World} {sb wb : Nat} {base : Int} {l : List Int} {G : Nat → Prop} (h : StAt w sb wb base l) (hf : Fr G w w') (h1 : ¬ G sb) (h2 : ¬ G wb) : StAt w' sb wb base l := ⟨hf.heap h.1 h1, hf.heap h.2 h2⟩
theorem TaskAt.fresh {w w1 : World} {D : Nat → Prop} {p : TPrg} {c0 c1 c2 : Value} {sb wb kb : Nat} {base : Int} {l : List Int} (hp : PV w D p c0 c1 c2) (hD : ∀ k, D k → k < w.heap.size) (hb : Below w.heap.size w w1) (hst : StAt w1 sb wb base l) (hs : w.heap.size ≤ sb) (hw : w.heap.size ≤ wb) (hk : w.heap.size ≤ kb) (hk2 : kb < w1.heap.size) (g : Nat) (hg : g = w1.heap.size) (hkm : ∃ n, MapIs spK (Value.int .i64) w1 kb n (fun _ => none)) :
  TaskAt (w1.alloc (.cells #[c0, c1, c2, .pointer (some ⟨sb, 0, none⟩), .slice none 0 0, .slice none 0 0, .slice none 0 0, .map (some kb)] 97)) (fun k => k = g ∨ k = sb ∨ k = wb ∨ k = kb) g p ⟨base, l, [], []⟩ ⟨D, c0, c1, c2, .slice none 0 0, .slice none 0 0, sb, wb, kb⟩ where
 row := by rw [hg]; exact heap_new _ _
 prg := (hp.below hb).fr ((Fr.refl (fun _ => False) w1).alloc _) (fun _ _ h => h)
 out := fun k hk => ⟨fun h => by have := hD k hk; have := hb.size; rcases h with h | h | h | h <;> omega, by have := hD k hk; have := hb.size; simp; omega⟩
 srow := row_alloc hst.1 _
 wrow := row_alloc hst.2 _
 parts := Own.nil _ _ _
 marks := Own.nil _ _ _
 kb := by simp; omega
 kept := hkm.imp fun n hm => hm.fr ((Fr.refl (fun _ => False) w1).alloc _) (fun h => h)
 ft := .inl rfl
 fs := .inr (.inl rfl)
 fw := .inr (.inr (.inl rfl))
 fk := .inr (.inr (.inr rfl))
 fp := fun k hk => by cases hk
 fm := fun k hk => by cases hk
 flt := fun k hk => by
  have h1 := heap_lt hst.1
  have h2 := heap_lt hst.2
  simp
  rcases hk with h | h | h | h <;> omega
set_option maxRecDepth 100000 in
set_option maxHeartbeats 3200000 in
theorem new_any (w : World) (D : Nat → Prop) (hD : ∀ k, D k → k < w.heap.size) (p : TPrg) (c0 c1 c2 : Value) (hv : PV w D p c0 c1 c2) (hp : PSmall p) (j : Nat) (hj : j < p.funcs.length) (hna : p.funcs[j].nargs = 0) (hsl0 : 0 ≤ p.funcs[j].slots) (serial : Nat) (hs : serial ≤ 100000) (first limit : Int) (cap : Nat) (h1 : 1 ≤ cap) (h2 : cap ≤ 4096) (hlim : (cap : Int) ≤ limit) (hneed : wordsN p j ≤ cap)
  (hfit : ∀ w, Calls Tryz.prog 45 #[.int .i64 first, .int .i64 (wordsN p j)] w fun e w' => e = .returned (.int .i64 cap) ∧ w = w') :
  Calls Tryz.prog 13 #[.agg #[c0, c1, c2], .int .i64 j, .slice none 0 0, .int .i64 serial, .int .i64 first, .int .i64 limit] w fun e w' => ∃ tb F X, e = .returned (.tuple #[.pointer (some ⟨tb, 0, none⟩), .int .i64 0]) ∧ TaskAt w' F tb p (enterT ⟨1073741824 + (serial : Int) * 8192, List.replicate cap 0, [], []⟩ 0 (wordsN p j) j (-1) []) X ∧ (∀ k, F k → w.heap.size ≤ k) ∧ Below w.heap.size w w' := by
 have hv0 := hv
 obtain ⟨⟨a0, n0, m0, rfl⟩, ⟨a1, m1, rfl, hsh⟩, a2, m2, rfl, hfn⟩ := hv
 have hbx := fun wr h => box1 w #[.slice a0 n0 m0, .slice a1 p.shapes.length m1, .slice a2 p.funcs.length m2] 27 wr h
 have hz0 : (w.alloc (.cells #[.slice a0 n0 m0, .slice a1 p.shapes.length m1, .slice a2 p.funcs.length m2] 27)).heap.size = w.heap.size + 1 := by simp
 obtain ⟨W, hW⟩ : ∃ W, W = (w.alloc (.cells #[.slice a0 n0 m0, .slice a1 p.shapes.length m1, .slice a2 p.funcs.length m2] 27)) := ⟨_, rfl⟩
 rw [← hW] at hbx hz0
 have hs3 : ∀ wr, Below W.heap.size W wr → wr.cell? ⟨w.heap.size, 0, none⟩ = some (.slice a0 n0 m0) ∧ wr.cell? ⟨w.heap.size, 1, none⟩ = some (.slice a1 p.shapes.length m1) ∧ wr.cell? ⟨w.heap.size, 2, none⟩ = some (.slice a2 p.funcs.length m2) := fun wr h => by
  rw [hz0] at h
  have hb := hbx wr h
  exact ⟨hb.1 0 _ rfl, hb.1 1 _ rfl, hb.1 2 _ rfl⟩
 have hbw : ∀ wr, Below W.heap.size W wr → Below w.heap.size w wr := fun wr h => by rw [hz0] at h; exact (hbx wr h).2.1
 have hw0 := Below.refl W.heap.size W
 have hb0 := hbw W hw0
 have wd := words_any W D (fun k hk => Nat.lt_of_lt_of_le (hD k hk) hb0.size) p _ _ _ j (hv0.below hb0) hp
 have hfn := hfn.fr (Fr.of_below hb0 (fun _ => False)) (fun _ _ h => h)
 obtain ⟨bb, o, rfl, _, y0, y1, y2, y3, y4, g0, g1, g2, g3, g4, hfv⟩ := hfn j hj
 obtain ⟨⟨e0, e1, rfl⟩, _⟩ := hfv
 have hj0 : ¬ (j : Int) < 0 := by omega
 have hj1 : ¬ (p.funcs.length : Int) ≤ (j : Int) := by omega
 have hj2 : (j : Int) < p.funcs.length := by omega
 obtain ⟨k0, k1, k2⟩ := hs3 W hw0
 rw [hna] at g0
 have hnl : ((wordsN p j : Nat) : Int) ≤ limit := by omega
 have hmake : ∀ w, (Instr.makeMap 91 none).run Tryz.prog w = .ok (.map (some w.heap.size)) (w.alloc (.map #[] 0)) := fun w => run_makeMap _ w
 have sn := fun w => stNew_any w serial hs cap h1 h2
 have en := fun wr F tb X (h : TaskAt wr F tb p ⟨1073741824 + (serial : Int) * 8192, List.replicate cap 0, [], []⟩ X) => enter_yes wr F tb p _ X h hp ⟨by simp, by simp, by simp; omega, fun q hq => by cases hq⟩ (by simp) j hj 0 (usedN_nil rfl) (by simp; omega) (fun _ => False) none [] 0 (fun j hj => by cases hj) (fun _ h => h.elim) hna.symm (by simp; exact hsl0) (by simp) (-1)
 have hPV : ∀ wr, Below W.heap.size W wr → PV wr D p (.slice a0 n0 m0) (.slice a1 p.shapes.length m1) (.slice (some ⟨bb, o, none⟩) p.funcs.length m2) := fun wr h => hv0.below (hbw wr h)
 generalize wordsN p j = wn at *
 have HW := Lib.hid hW
 clear hW hbx hz0 hv0 hsh hfn hna hsl0
 have HS3 := Lib.hid hs3; clear hs3
 have HBW := Lib.hid hbw; clear hbw
 have HW0 := Lib.hid hw0; clear hw0
 have HB0 := Lib.hid hb0; clear hb0
 have WD := Lib.hid wd; clear wd
 have SN := Lib.hid sn; clear sn
 have EN := Lib.hid en; clear en
 have HPV := Lib.hid hPV; clear hPV
 have HFIT := Lib.hid hfit; clear hfit
 go_enter Tryz.func13, Tryz.ntmps13
 go_upto_region 1 with fail
 rw [← HW.out]
 go_wp2_with fail
 refine WD.out.mono ?_
 rintro e w1 ⟨rfl, hb1⟩
 have HB1 := Lib.hid hb1
 clear hb1
 go_wp2_with fail
 refine (HFIT.out _).mono ?_
 rintro e w2 ⟨rfl, rfl⟩
 clear k0 k1 k2
 obtain ⟨k0, k1, k2⟩ := HS3.out w1 HB1.out
 clear g0 g1 g2 g3 g4
 go_upto_region 9 with fail
 have hw1 := HBW.out w1 HB1.out
 have HW1 := Lib.hid hw1; clear hw1
 go_cut [16] (fun t wx => ∃ tb F X, t = .pointer (some ⟨tb, 0, none⟩) ∧ TaskAt wx F tb p ⟨1073741824 + (serial : Int) * 8192, List.replicate cap 0, [], []⟩ X ∧ (∀ k, F k → w1.heap.size ≤ k) ∧ Below w1.heap.size w1 wx)
 case first =>
  have b0 := World.block_lt k0
  dsimp only at b0
  go_region_law (first | (go_simp; go_at_call 46; refine (SN.out _).mono ?_; rintro e w3 ⟨sb, wb, rfl, hst, h1s, h2s, h3s, h4s, hb3⟩; have hbq : Below w1.heap.size w1 w3 := (by first | exact ((Below.refl w1.heap.size w1).drew).trans hb3 | exact (((Below.refl w1.heap.size w1).alloc (Nat.le_refl _) (.map #[] 0)).drew).trans (hb3.mono (by simp))); obtain ⟨z0, z1, z2⟩ := HS3.out w3 (HB1.out.trans (hbq.mono HB1.out.size)); have bz := World.block_lt z0))
  all_goals
   have hz := hbq.size
   have hsb : w1.heap.size ≤ sb := by simp at h1s; omega
   have hwb : w1.heap.size ≤ wb := by simp at h2s; omega
   have hpv := HPV.out w1 HB1.out
   have hD1 : ∀ k, D k → k < w1.heap.size := fun k hk => Nat.lt_of_lt_of_le (hD k hk) HW1.out.size
   clear h1s h2s z0 z1 z2 bz b0
   have HZ := Lib.hid hz; clear hz
   have HSB := Lib.hid hsb; clear hsb
   have HWB := Lib.hid hwb; clear hwb
   have HPV := Lib.hid hpv; clear hpv
   have HD1 := Lib.hid hD1; clear hD1
   have HBQ := Lib.hid hbq; clear hbq
   have HST := Lib.hid hst; clear hst
   have HB3 := Lib.hid hb3; clear hb3
   go_wp2_with fail
   go_meet
   case rel =>
    have h1 := HZ.out
    have h2 := HSB.out
    have h3 := HWB.out
    first
    | (refine ⟨_, _, _, rfl, TaskAt.fresh HPV.out HD1.out (HBQ.out.alloc HBQ.out.size (.map #[] 0)) (HST.out.fr ((Fr.refl (fun _ => False) w3).alloc (.map #[] 0)) (fun h => h) (fun h => h)) HSB.out HWB.out HZ.out (by simp) (w3.heap.size + 1) (by simp) ⟨0, MapIs.made spK _ w3⟩, ?_, ?_⟩
       ·intro k hk
        rcases hk with h | h | h | h <;> omega
       ·exact (HBQ.out.alloc HBQ.out.size _).alloc (by simp; omega) _)
    | (refine ⟨_, _, _, rfl, TaskAt.fresh HPV.out HD1.out HBQ.out HST.out HSB.out HWB.out (Nat.le_refl _) ?_ w3.heap.size rfl ⟨0, ((MapIs.made spK _ w1).below ((Below.refl _ _).drew)).below HB3.out⟩, ?_, ?_⟩
       ·omega
       ·intro k hk
        rcases hk with h | h | h | h <;> omega
       ·exact HBQ.out.alloc HBQ.out.size _)
 case rest =>
  obtain ⟨tb, F, X, rfl, hT, hF, hbt⟩ := hcut
  have en := EN.out wc F tb X hT
  have hbt2 := HW1.out.trans (hbt.mono HW1.out.size)
  clear k0 k1 k2 hT
  have EN := Lib.hid en; clear en
  have HF := Lib.hid hF; clear hF
  have HBT := Lib.hid hbt; clear hbt
  have HBT2 := Lib.hid hbt2; clear hbt2
  go_wp2_with fail
  refine EN.out.mono ?_
  rintro e w5 ⟨rfl, F5, X5, hT5, hF5, hfr5⟩
  have hz1 := HW1.out.size
  have hz2 := HBT.out.size
  have hlow : ∀ k, F5 k → w.heap.size ≤ k := fun k hk => by
   rcases hF5 k hk with h | h
   ·have := HF.out k h
    omega
   ·omega
  have hbf : Below w.heap.size w w5 := HBT2.out.trans (hfr5.below HBT2.out.size (fun k hk => by have := HF.out k hk; omega))
  clear hF5 hfr5 hz1 hz2
  have HT5 := Lib.hid hT5; clear hT5
  have HLOW := Lib.hid hlow; clear hlow
  have HBF := Lib.hid hbf; clear hbf
  go_wp2_with fail
  go_ret2
  first | exact ⟨_, _, _, rfl, HT5.out, HLOW.out, HBF.out⟩ | exact ⟨tb, rfl, F5, X5, HT5.out, HLOW.out, HBF.out⟩ | exact ⟨tb, F5, X5, rfl, HT5.out, HLOW.out, HBF.out⟩
end Go.Proofs.YthkhgihjigmkoaaGreat.Tk
namespace Go.Proofs.YthkhgihjigmkoaaGreat.Tk
open Go.ChangeShapes Go.WideShapes Go.ChangeAt Go.RowKit Go.Maps
def baseOk (b : Int) : Prop := 0 ≤ b ∧ b ≤ 1000000000000
set_option maxRecDepth 100000 in
theorem stOff_any (w : World) (sb wb : Nat) (base : Int) (l : List Int) (h : StAt w sb wb base l) (hb : baseOk base) (hl : l.length ≤ 100000) (v : Int) :
  Calls Tryz.prog 84 #[.pointer (some ⟨sb, 0, none⟩), .int .i64 v] w fun e w' => e = .returned (.tuple #[.int .i64 (if base ≤ v ∧ v < base + l.length then v - base else 0), .bool (decide (base ≤ v ∧ v < base + l.length))]) ∧ Below w.heap.size w w' := by
 obtain ⟨k0, k1⟩ := h.cells
 obtain ⟨hb1, hb2⟩ := hb
 clear h
 generalize l.length = n at *
 obtain ⟨x, hx⟩ : ∃ x, x = base + (n : Int) := ⟨_, rfl⟩
 have i0 : IntKind.i64.wrap (base + (n : Int)) = x := by rw [← hx]; exact IntWalk.i64_in _ (by omega)
 have hbw := fun nq => below_drewN (Below.refl w.heap.size w) nq
 have HBW := Lib.hid hbw; clear hbw
 by_cases h1 : v < base
 ·have he : ¬ (base ≤ v ∧ v < base + n) := by omega
  rw [if_neg he, decide_eq_false he]
  clear he
  have HX := Lib.hid hx; clear hx
  go_enter Tryz.func84, Tryz.ntmps84
  go_upto_region 1 with fail
  go_quiet (fail)
  go_wp2_with fail
  go_ret2
  first | exact ⟨rfl, HBW.out _⟩ | exact HBW.out _
 ·by_cases h2 : v < x
  ·have he : base ≤ v ∧ v < base + n := by omega
   have h3 : ¬ x ≤ v := by omega
   have i1 : IntKind.i64.wrap (v - base) = v - base := IntWalk.i64_in _ (by omega)
   rw [if_pos he, decide_eq_true he]
   clear he
   have HX := Lib.hid hx; clear hx
   go_enter Tryz.func84, Tryz.ntmps84
   go_upto_region 1 with fail
   go_quiet (fail)
   have k0 := below_cell (HBW.out nq) k0
   have HB := Lib.hid (HBW.out nq)
   generalize w.drewN nq = w1 at *
   go_wp2_with fail
   go_ret2
   first | exact ⟨rfl, HB.out⟩ | exact HB.out
  ·have he : ¬ (base ≤ v ∧ v < base + n) := by omega
   have h3 : x ≤ v := by omega
   rw [if_neg he, decide_eq_false he]
   clear he
   have HX := Lib.hid hx; clear hx
   go_enter Tryz.func84, Tryz.ntmps84
   go_upto_region 1 with fail
   go_quiet (fail)
   go_wp2_with fail
   go_ret2
   first | exact ⟨rfl, HBW.out _⟩ | exact HBW.out _
end Go.Proofs.YthkhgihjigmkoaaGreat.Tk
