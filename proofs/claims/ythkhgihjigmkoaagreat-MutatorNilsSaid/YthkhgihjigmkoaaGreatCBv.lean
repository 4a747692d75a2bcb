import Derived.Test.YthkhgihjigmkoaaGreatCBu
import Derived.Test.YthkhgihjigmkoaaGreatCAz
import Derived.Test.YthkhgihjigmkoaaGreatCAy
set_option linter.unusedVariables false
set_option linter.unusedSimpArgs false
namespace Go.Proofs.YthkhgihjigmkoaaGreat.Tk
open Go.ChangeShapes Go.WideShapes Go.ChangeAt Go.RowKit Go.Maps
set_option maxRecDepth 100000 in
def insE : Elem Tryz.prog Ins where
 e := 59
 t := 70
 size := 4
 bytes := 32
 zero := .agg #[.int .i64 0, .int .i64 0, .int .i64 0, .int .i64 0]
 enc := Ins.cells
 ht := Tryz.underlying70
 info := by kernel_rfl
 hzs := rfl
 hsz := by decide
 hby := by decide
 henc := fun _ => rfl
 hone := fun x u h => by simp [Ins.cells] at h; rcases h with rfl | rfl | rfl | rfl <;> rfl
def pS (slots : Int) (code : List Ins) : Prg := ⟨[1, 16], [[1, 16]], [⟨[], 0, slots, [0], code ++ [⟨27, 0, 0, 0⟩]⟩]⟩
def qS (slots : Int) : TPrg := ⟨[2], [⟨0, slots, [0]⟩]⟩
theorem belowAl {N : Nat} {w X : World} (h : Below N w X) (hN : N ≤ w.heap.size) (o : Obj) : Below N w (X.alloc o) := h.alloc (Nat.le_trans hN h.size) o
theorem newAt {X : World} {n : Nat} (h : X.heap.size = n) (o : Obj) : (X.alloc o).heap[n]? = some o := by rw [← h]; exact heap_new _ _
set_option maxRecDepth 100000 in
set_option maxHeartbeats 3200000 in
theorem single_any (w : World) (slots : Nat) (code : List Ins) (cb co cc : Nat) (hcd : CellsAt w cb co (code.flatMap insE.enc)) (hn : code.length ≤ 1000) :
  Calls Tryz.prog 27 #[.int .i64 slots, .slice (some ⟨cb, co, none⟩) code.length cc] w fun e w' => ∃ c0 c1 c2, e = .returned (.agg #[c0, c1, c2]) ∧ PV w' (fun k => w.heap.size ≤ k ∧ k < w'.heap.size) (qS slots) c0 c1 c2 ∧ PrgVal w' (fun k => w.heap.size ≤ k ∧ k < w'.heap.size) (pS slots code) c0 c1 c2 ∧ Below w.heap.size w w' := by
 have hc : ∀ wx, Below w.heap.size w wx → CellsAt wx cb co (code.flatMap insE.enc) := fun wx hw j u hj => below_cell hw (hcd j u hj)
 have HC := Lib.hid hc
 clear hc hcd
 go_enter Tryz.func27, Tryz.ntmps27
 go_wp2_with (at_builtin; refine append_own insE rfl (.const (.slice none 0 0)) (.tmp 11) rfl w.heap.size [] code _ rfl (Own.nil _ _ _) cb co cc rfl (HC.out _ (by repeat (first | exact Below.refl _ _ | refine belowAl ?_ (Nat.le_refl _) _))) ?c1 ?c2 ?_)
 case c1 => first | omega | (simp; omega)
 case c2 => simp; omega
 intro v1 w1 ho1 hg1
 obtain ⟨X, hX⟩ : ∃ X, X = (((((w.alloc (.cells #[.slice none 0 0, .slice none 0 0, .slice none 0 0] 27)).alloc (.cells #[.int .i64 1, .int .i64 16] 3)).alloc (.cells #[.int .i64 1, .int .i64 16] 3)).alloc (.cells #[.slice (some ⟨w.heap.size + 1 + 1, 0, none⟩) 2 2] 76)).alloc (.cells #[.int .i64 0] 3)) := ⟨_, rfl⟩
 rw [← hX] at hg1
 have hsX : X.heap.size = w.heap.size + 5 := by rw [hX]; simp
 have hbX : Below w.heap.size w X := by rw [hX]; repeat (first | exact Below.refl _ _ | refine belowAl ?_ (Nat.le_refl _) _)
 have r0 : X.heap[w.heap.size]? = some (.cells #[.slice none 0 0, .slice none 0 0, .slice none 0 0] 27) := by rw [hX]; exact (row_alloc (row_alloc (row_alloc (row_alloc (heap_new w _) _) _) _) _)
 have r1 : X.heap[w.heap.size + 1]? = some (.cells #[.int .i64 1, .int .i64 16] 3) := by rw [hX]; exact (row_alloc (row_alloc (row_alloc (newAt (by simp) _) _) _) _)
 have r2 : X.heap[w.heap.size + 2]? = some (.cells #[.int .i64 1, .int .i64 16] 3) := by rw [hX]; exact (row_alloc (row_alloc (newAt (by simp) _) _) _)
 have r3 : X.heap[w.heap.size + 3]? = some (.cells #[.slice (some ⟨w.heap.size + 1 + 1, 0, none⟩) 2 2] 76) := by rw [hX]; exact (row_alloc (newAt (by simp) _) _)
 have r4 : X.heap[w.heap.size + 4]? = some (.cells #[.int .i64 0] 3) := by rw [hX]; exact (newAt (by simp) _)
 have hf1 := (Fr.refl (fun _ => False) X).grown hg1 (fun k hk _ => by cases hk)
 have hb1 : Below w.heap.size w w1 := hbX.trans (hf1.below hbX.size (fun k h => h.elim))
 have r0 := hf1.heap r0 (fun h => h)
 have r1 := hf1.heap r1 (fun h => h)
 have r2 := hf1.heap r2 (fun h => h)
 have r3 := hf1.heap r3 (fun h => h)
 have r4 := hf1.heap r4 (fun h => h)
 have hs1 : w.heap.size + 5 ≤ w1.heap.size := Nat.le_trans (Nat.le_of_eq hsX.symm) hf1.size
 obtain ⟨a1, n1, c1, rfl⟩ := ho1.slice
 have HX := Lib.hid hX
 clear hX hg1 hf1 hbX hsX
 have HO1 := Lib.hid ho1; clear ho1
 have HB1 := Lib.hid hb1; clear hb1
 have HS1 := Lib.hid hs1; clear hs1
 go_wp2_with (at_builtin; refine append_own insE rfl (.tmp 12) (.tmp 14) rfl w.heap.size code [(⟨27, 0, 0, 0⟩ : Ins)] _ rfl (HO1.out.alloc _) w1.heap.size 0 1 rfl (CellsAt.new _ _ _ _) ?d1 ?d2 ?_)
 case d1 => first | omega | (show code.length + 1 ≤ 100000000; omega)
 case d2 => have := HB1.out.size; simp; omega
 intro v2 w2 ho2 hg2
 have hf2 := ((Fr.refl (fun k => (Value.slice a1 n1 c1).ownBlock = some k) w1).alloc (.cells #[.int .i64 27, .int .i64 0, .int .i64 0, .int .i64 0] 59)).grown hg2 (fun k hk _ => hk)
 have hb2 := HB1.out.trans (hf2.below HB1.out.size (fun k e => (HO1.out.lt e).1))
 have r0 := hf2.heap r0 (fun e => by obtain ⟨_, _, c⟩ := own_row HO1.out e; exact cells_ne c r0 (by decide) rfl)
 have r1 := hf2.heap r1 (fun e => by obtain ⟨_, _, c⟩ := own_row HO1.out e; exact cells_ne c r1 (by decide) rfl)
 have r2 := hf2.heap r2 (fun e => by obtain ⟨_, _, c⟩ := own_row HO1.out e; exact cells_ne c r2 (by decide) rfl)
 have r3 := hf2.heap r3 (fun e => by obtain ⟨_, _, c⟩ := own_row HO1.out e; exact cells_ne c r3 (by decide) rfl)
 have r4 := hf2.heap r4 (fun e => by obtain ⟨_, _, c⟩ := own_row HO1.out e; exact cells_ne c r4 (by decide) rfl)
 have hs2 := Nat.le_trans HS1.out hf2.size
 obtain ⟨a2, c2, rfl, _⟩ := own_elems ho2
 have z0 : ∀ o, (w2.alloc o).cell? ⟨w.heap.size, 0, none⟩ = some (.slice none 0 0) := fun o => (row_cell (row_alloc r0 o) 0).1
 have y0 : ∀ o, (w2.alloc o).frozen? ⟨w.heap.size, 0, none⟩ = false := fun o => (row_cell (row_alloc r0 o) 0).2
 have z1 : ∀ o, (w2.alloc o).cell? ⟨w.heap.size, 1, none⟩ = some (.slice none 0 0) := fun o => (row_cell (row_alloc r0 o) 1).1
 have y1 : ∀ o, (w2.alloc o).frozen? ⟨w.heap.size, 1, none⟩ = false := fun o => (row_cell (row_alloc r0 o) 1).2
 have z2 : ∀ o, (w2.alloc o).cell? ⟨w.heap.size, 2, none⟩ = some (.slice none 0 0) := fun o => (row_cell (row_alloc r0 o) 2).1
 have y2 : ∀ o, (w2.alloc o).frozen? ⟨w.heap.size, 2, none⟩ = false := fun o => (row_cell (row_alloc r0 o) 2).2
 have HF2 := Lib.hid hf2
 have HB2 := Lib.hid hb2
 have HS2 := Lib.hid hs2
 have HO2 := Lib.hid ho2
 have R0 := Lib.hid r0
 have RR := Lib.hid (And.intro r1 (And.intro r2 (And.intro r3 r4)))
 clear hf2 hb2 hs2 ho2 r0 r1 r2 r3 r4 hg2
 go_wp2_with fail
 obtain ⟨Y, hY⟩ : ∃ Y, Y = w2.alloc (.cells #[.slice none 0 0, .int .i64 0, .int .i64 slots, .slice (some ⟨w.heap.size + 1 + 1 + 1 + 1, 0, none⟩) 1 1, .slice a2 (code.length + 1) c2] 74) := ⟨_, rfl⟩
 rw [← hY]
 obtain ⟨Z, hZ⟩ : ∃ Z, Z = ((Y.setCell ⟨w.heap.size, 0, none⟩ (.slice (some ⟨w.heap.size + 1, 0, none⟩) 2 2)).setCell ⟨w.heap.size, 1, none⟩ (.slice (some ⟨w.heap.size + 1 + 1 + 1, 0, none⟩) 1 1)).setCell ⟨w.heap.size, 2, none⟩ (.slice (some ⟨w2.heap.size, 0, none⟩) 1 1) := ⟨_, rfl⟩
 rw [← hZ]
 have hbY : Below w2.heap.size w2 Y := by rw [hY]; exact (Below.refl _ _).alloc (Nat.le_refl _) _
 have hrF : Y.heap[w2.heap.size]? = some (.cells #[.slice none 0 0, .int .i64 0, .int .i64 slots, .slice (some ⟨w.heap.size + 1 + 1 + 1 + 1, 0, none⟩) 1 1, .slice a2 (code.length + 1) c2] 74) := by rw [hY]; exact heap_new _ _
 have hfY := Fr.of_below hbY (fun _ => False)
 have hfZ : Fr (fun k => k = w.heap.size) Y Z := by rw [hZ]; exact (((Fr.refl (fun k => k = w.heap.size) Y).setCell (p := ⟨w.heap.size, 0, none⟩) (fun _ => rfl) _).setCell (p := ⟨w.heap.size, 1, none⟩) (fun _ => rfl) _).setCell (p := ⟨w.heap.size, 2, none⟩) (fun _ => rfl) _
 have hrY := hfY.heap R0.out (fun h => h)
 have hrZ : Z.heap[w.heap.size]? = some (.cells #[(.slice (some ⟨w.heap.size + 1, 0, none⟩) 2 2), (.slice (some ⟨w.heap.size + 1 + 1 + 1, 0, none⟩) 1 1), (.slice (some ⟨w2.heap.size, 0, none⟩) 1 1)] 27) := by
  rw [hZ]
  have := row_set (row_set (row_set hrY 0 (.slice (some ⟨w.heap.size + 1, 0, none⟩) 2 2)) 1 (.slice (some ⟨w.heap.size + 1 + 1 + 1, 0, none⟩) 1 1)) 2 (.slice (some ⟨w2.heap.size, 0, none⟩) 1 1)
  simpa using this
 have hs2 := HS2.out
 have q1 := hfZ.heap (hfY.heap RR.out.1 (fun h => h)) (fun e => by have e : w.heap.size + 1 = w.heap.size := e; omega)
 have q2 := hfZ.heap (hfY.heap RR.out.2.1 (fun h => h)) (fun e => by have e : w.heap.size + 2 = w.heap.size := e; omega)
 have q3 := hfZ.heap (hfY.heap RR.out.2.2.1 (fun h => h)) (fun e => by have e : w.heap.size + 3 = w.heap.size := e; omega)
 have q4 := hfZ.heap (hfY.heap RR.out.2.2.2 (fun h => h)) (fun e => by have e : w.heap.size + 4 = w.heap.size := e; omega)
 have qF := hfZ.heap hrF (fun e => by have e : w2.heap.size = w.heap.size := e; omega)
 have hoZ := (HO2.out.below hbY).fr hfZ (fun k hk e => by obtain ⟨_, _, c⟩ := own_row (HO2.out.below hbY) hk; exact cells_ne c hrY (by decide) e)
 have hzs : w2.heap.size < Z.heap.size := heap_lt qF
 have hbZ : Below w.heap.size w Z := (HB2.out.trans (hbY.mono HB2.out.size)).trans (hfZ.below (Nat.le_trans HB2.out.size hbY.size) (fun k e => Nat.le_of_eq e.symm))
 have hPV : PV Z (fun k => w.heap.size ≤ k ∧ k < Z.heap.size) (qS slots) (.slice (some ⟨w.heap.size + 1, 0, none⟩) 2 2) (.slice (some ⟨w.heap.size + 1 + 1 + 1, 0, none⟩) 1 1) (.slice (some ⟨w2.heap.size, 0, none⟩) 1 1) := by
  refine ⟨⟨_, _, _, rfl⟩, ⟨_, 1, rfl, fun j hj => ?_⟩, _, 1, rfl, fun j hj => ?_⟩
  ·obtain rfl : j = 0 := by have : j < 1 := hj; omega
   exact ⟨_, 0, rfl, ⟨by omega, by omega⟩, _, 2, (row_cell q3 0).1⟩
  ·obtain rfl : j = 0 := by have : j < 1 := hj; omega
   refine ⟨_, 0, rfl, ⟨by omega, by omega⟩, _, _, _, _, _, (row_cell qF 0).1, (row_cell qF 1).1, (row_cell qF 2).1, (row_cell qF 3).1, (row_cell qF 4).1, ⟨none, 0, rfl⟩, ⟨0, rfl⟩, rfl, ⟨_, 1, rfl, fun i hi => ?_⟩, _, _, _, rfl⟩
   obtain rfl : i = 0 := by have : i < 1 := hi; omega
   exact ⟨_, 0, rfl, ⟨by omega, by omega⟩, (row_cell q4 0).1⟩
 have hPG : PrgVal Z (fun k => w.heap.size ≤ k ∧ k < Z.heap.size) (pS slots code) (.slice (some ⟨w.heap.size + 1, 0, none⟩) 2 2) (.slice (some ⟨w.heap.size + 1 + 1 + 1, 0, none⟩) 1 1) (.slice (some ⟨w2.heap.size, 0, none⟩) 1 1) := by
  refine ⟨⟨_, 2, rfl, fun j hj => ?_⟩, ⟨_, 1, rfl, fun j hj => ?_⟩, _, 1, rfl, fun j hj => ?_⟩
  ·have hj2 : j = 0 ∨ j = 1 := by have : j < 2 := hj; omega
   rcases hj2 with rfl | rfl
   ·exact ⟨_, 0, rfl, ⟨by omega, by omega⟩, (row_cell q1 0).1⟩
   ·exact ⟨_, 0, rfl, ⟨by omega, by omega⟩, (row_cell q1 1).1⟩
  ·obtain rfl : j = 0 := by have : j < 1 := hj; omega
   refine ⟨_, 0, rfl, ⟨by omega, by omega⟩, _, 2, (row_cell q3 0).1, fun i hi => ?_⟩
   have hi2 : i = 0 ∨ i = 1 := by have : i < 2 := hi; omega
   rcases hi2 with rfl | rfl
   ·exact ⟨_, 0, rfl, ⟨by omega, by omega⟩, (row_cell q2 0).1⟩
   ·exact ⟨_, 0, rfl, ⟨by omega, by omega⟩, (row_cell q2 1).1⟩
  ·obtain rfl : j = 0 := by have : j < 1 := hj; omega
   refine ⟨_, 0, rfl, ⟨by omega, by omega⟩, _, _, _, _, _, (row_cell qF 0).1, (row_cell qF 1).1, (row_cell qF 2).1, (row_cell qF 3).1, (row_cell qF 4).1, rfl, rfl, ⟨none, 0, rfl, fun i hi => by cases hi⟩, ⟨_, 1, rfl, fun i hi => ?_⟩, a2, c2, (by show Value.slice a2 (code.length + 1) c2 = .slice a2 (code ++ [(⟨27, 0, 0, 0⟩ : Ins)]).length c2; rw [List.length_append]; rfl), fun i hi => ?_⟩
   ·obtain rfl : i = 0 := by have : i < 1 := hi; omega
    exact ⟨_, 0, rfl, ⟨by omega, by omega⟩, (row_cell q4 0).1⟩
   ·obtain ⟨a3, c3, he, hel⟩ := own_elems hoZ
    injection he with e1 _ _
    subst e1
    obtain ⟨b, h1, h2, h3⟩ := hel i hi
    obtain ⟨_, _, c⟩ := own_row hoZ h2
    refine ⟨b, 0, h1, ⟨(hoZ.lt h2).1, heap_lt c⟩, ?_⟩
    rw [Nat.zero_add]
    exact ⟨h3 0 _ rfl, h3 1 _ rfl, h3 2 _ rfl, h3 3 _ rfl⟩
 have k0 := (row_cell hrZ 0).1
 have k1 := (row_cell hrZ 1).1
 have k2 := (row_cell hrZ 2).1
 simp at k0 k1 k2
 refine bodyPost_ret ?_ rfl ⟨_, _, _, rfl, hPV, hPG, hbZ⟩
 simp [results, Tryz.results27, go_sem, k0, k1, k2]
end Go.Proofs.YthkhgihjigmkoaaGreat.Tk
namespace Go.Proofs.YthkhgihjigmkoaaGreat.Tk
open Go.ChangeShapes Go.WideShapes Go.ChangeAt Go.RowKit Go.Maps
def SF (pc : Int) (ws : List Int) : Tk := ⟨1073741824, ws, [⟨0, pc, 0, -1, none, 0, 0⟩], [⟨false, false, 0⟩]⟩
theorem SF_ok (pc : Int) (ws : List Int) (h : ws.length = 64) : TkOk (SF pc ws) := ⟨by show 1 ≤ 1000; decide, by show 1 ≤ 1000; decide, by show ws.length ≤ 100000; omega, fun q hq => by
 have h1 : q ∈ ([⟨0, pc, 0, -1, none, 0, 0⟩] : List Part) := hq
 simp at h1
 rw [h1]
 exact ⟨Int.le_refl 0, show (0 : Int) ≤ 100000000 by decide⟩⟩
theorem clear_rep (m o n : Nat) : clearL (List.replicate m 0) o n = List.replicate m 0 := by
 unfold clearL
 induction n with
 | zero => rfl
 | succ n ih => rw [List.range_succ, List.foldl_append, ih]; simp
theorem qS_small (sl : Nat) (h : sl ≤ 10) : PSmall (qS sl) := by
 unfold PSmall qS
 simp
 omega
theorem qS_words (sl : Nat) : wordsN (qS sl) 0 = sl + 4 := by
 have h := wordsN_at (p := qS sl) 0 (by show 0 < 1; decide)
 rw [show ((0 : Nat) : Int) = 0 from rfl] at h
 rw [h]
 show 2 + ((sl : Nat) : Int).toNat + 2 = sl + 4
 simp
 omega
theorem SF_start (sl : Nat) : enterT ⟨1073741824, List.replicate 64 0, [], []⟩ 0 (wordsN (qS sl) 0) 0 (-1) [] = SF 0 (List.replicate 64 0) := by
 rw [qS_words]
 show (⟨1073741824, clearL (List.replicate 64 0) 0 (sl + 4), _, _⟩ : Tk) = _
 rw [clear_rep]
 rfl
theorem slotS {w : World} {F : Nat → Prop} {tb sl : Nat} {X : TB} {pc : Int} {ws : List Int} (h : TaskAt w F tb (qS sl) (SF pc ws) X) (hl : ws.length = 64) (hs : sl ≤ 10) (k : Nat) (hk : k < sl) (x : Int) (hx : ws[2 + k]? = some x) :
  Calls Tryz.prog 33 #[.pointer (some ⟨tb, 0, none⟩), .int .i64 k] w fun e w' => e = .returned (.int .i64 x) ∧ Below w.heap.size w w' := by
 have hin : 0 + (2 + k) < (SF pc ws).words.length := by show 0 + (2 + k) < ws.length; omega
 have := slot_in w F tb (qS sl) (SF pc ws) X h (SF_ok pc ws hl) 0 rfl 0 (by show 0 < 1; decide) rfl 0 rfl k (by show (k : Int) < (sl : Nat); omega) (by omega) hin
 have e : (SF pc ws).words[0 + (2 + k)]'hin = x := by
  have e : (SF pc ws).words[0 + (2 + k)]? = some x := by rw [Nat.zero_add]; exact hx
  rw [List.getElem?_eq_getElem hin] at e
  injection e
 rw [e] at this
 exact this
theorem pcS {w : World} {F : Nat → Prop} {tb sl : Nat} {X : TB} {pc : Int} {ws : List Int} (h : TaskAt w F tb (qS sl) (SF pc ws) X) :
  Calls Tryz.prog 31 #[.pointer (some ⟨tb, 0, none⟩)] w fun e w' => e = .returned (.int .i64 pc) ∧ ∃ m, w' = w.drewN m := pc_some w F tb (qS sl) (SF pc ws) X h (by show 1 ≤ 1000; decide) 0 rfl
theorem PV.three {w : World} {D : Nat → Prop} {sl : Int} {c0 c1 c2 : Value} (h : PV w D (qS sl) c0 c1 c2) : ∃ a0 n0 m0 a1 m1 a2 m2, c0 = .slice a0 n0 m0 ∧ c1 = .slice a1 1 m1 ∧ c2 = .slice a2 1 m2 := by
 obtain ⟨⟨a0, n0, m0, e0⟩, ⟨a1, m1, e1, _⟩, a2, m2, e2, _⟩ := h
 exact ⟨a0, n0, m0, a1, m1, a2, m2, e0, e1, e2⟩
theorem stepS {w : World} {F : Nat → Prop} {tb sl : Nat} {X : TB} {pc : Nat} {ws : List Int} (h : TaskAt w F tb (qS sl) (SF pc ws) X) (hA : X.al = []) (D : Nat → Prop) (hD : ∀ k, D k → ¬ F k ∧ k < w.heap.size) (code : List Ins) (c0 c1 c2 : Value) (ma : Option Addr) (hv : PrgVal w D (pS sl code) c0 c1 c2) (i : Ins) (hi : (code ++ [(⟨27, 0, 0, 0⟩ : Ins)])[pc]? = some i)
  (T' : Tk) (k a f v fn : Int) (b : Bool) (r0 : Option Addr) (r1 r2 : Nat) (RUN : ∀ wr, Below w.heap.size w wr → Calls Tryz.prog 69 #[.agg (stepV c0 c1 c2 (.pointer ma) tb i.op i.a i.b i.c)] wr (RunPost wr F tb (qS sl) X T' (actV k a f v fn b (.slice r0 r1 r2)))) :
  Calls Tryz.prog 30 #[.agg #[c0, c1, c2], .pointer ma, .pointer (some ⟨tb, 0, none⟩)] w (RunPost w F tb (qS sl) X T' (actV k a f v fn b (.slice r0 r1 r2))) := by
 obtain ⟨hl, hi⟩ := List.getElem?_eq_some_iff.1 hi
 exact step_run w F tb (qS sl) (SF pc ws) X h (by show 1 ≤ 1000; decide) (by rw [hA]; rfl) (by show 1 ≤ 10000; decide) (by rw [hA]; exact Nat.zero_le _) [] ⟨0, pc, 0, -1, none, 0, 0⟩ rfl D hD (pS sl code) c0 c1 c2 ma hv 0 (by show 0 < 1; decide) rfl pc rfl hl i hi T' k a f v fn b r0 r1 r2 RUN
theorem runSetS {w : World} {F : Nat → Prop} {tb sl : Nat} {X : TB} {pc : Nat} {ws : List Int} (h : TaskAt w F tb (qS sl) (SF pc ws) X) (hl : ws.length = 64) (hs : sl ≤ 10) (hpc : pc ≤ 1000) (s : Nat) (hk : s < sl) (c0 c1 c2 mp : Value) (b c : Int) :
  Calls Tryz.prog 69 #[.agg (stepV c0 c1 c2 mp tb 1 s b c)] w (RunPost w F tb (qS sl) X (SF ((pc + 1 : Nat) : Int) (ws.set (2 + s) (wrap32 b))) (actV 0 0 0 0 0 false (.slice none 0 0))) := by
 have rs := run_setInt w F tb (qS sl) (SF pc ws) X h (SF_ok pc ws hl) [] ⟨0, pc, 0, -1, none, 0, 0⟩ rfl ⟨by show (0 : Int) ≤ (pc : Int); omega, by show (pc : Int) ≤ 100000; omega⟩ 0 (by show 0 < 1; decide) rfl 0 rfl s (by show (s : Int) < (sl : Nat); omega) (by omega) (by show 0 + (2 + s) < ws.length; omega) c0 c1 c2 mp b c
 rw [Nat.zero_add] at rs
 exact rs
def BegS (w : World) (sl : Nat) (code : List Ins) (tb' : Nat → List (Option (List Int))) (e : Ending) (w' : World) : Prop := ∃ mb tb F X, e = .returned (.tuple #[.pointer (some ⟨mb, 0, none⟩), .pointer (some ⟨tb, 0, none⟩)]) ∧ TaskAt w' F tb (qS sl) (SF 0 (List.replicate 64 0)) X ∧ X.New ∧ (∀ k, F k → w.heap.size ≤ k) ∧
 (∃ w4 B b nm V Ms, (∀ i, i < 1 → Ms i = tblF (tb' i)) ∧ MapsAt w4 B mb b nm V (allM 1 Ms) ∧ (∀ k, F k → w4.heap.size ≤ k) ∧ w.heap.size ≤ w4.heap.size ∧ Below w4.heap.size w4 w') ∧ Below w.heap.size w w'
theorem beginS (w : World) (D : Nat → Prop) (hD : ∀ k, D k → k < w.heap.size) (sl : Nat) (hs : sl ≤ 10) (code : List Ins) (c0 c1 c2 : Value) (hv : PV w D (qS sl) c0 c1 c2) (hg : PrgVal w D (pS sl code) c0 c1 c2) (hB : PrgB (pS sl code) ∧ PrgR (pS sl code)) (h0 : (progS (pS sl code)).1 = 0) (tb' : Nat → List (Option (List Int))) (ht : TabOk (pS sl code) tb') :
  Calls Tryz.prog 29 #[.agg #[c0, c1, c2]] w (BegS w sl code tb') := by
 refine (begin_any w D hD (qS sl) (pS sl code) c0 c1 c2 hv hg (qS_small sl hs) hB h0 tb' ht (by show 0 < 1; decide) rfl (by show (0 : Int) ≤ (sl : Nat); omega) (by rw [qS_words]; omega)).mono ?_
 rintro e w' ⟨mb, tb, F, X, rfl, hT, hnw, ⟨w4, B, b, nm, V, Ms, hMs, hmp, hF, hs4, hb4⟩, hb⟩
 rw [SF_start] at hT
 exact ⟨mb, tb, F, X, rfl, hT, hnw, fun k hk => Nat.le_trans hs4 (hF k hk), ⟨w4, B, b, nm, V, Ms, hMs, hmp, hF, hs4, hb4⟩, hb⟩
end Go.Proofs.YthkhgihjigmkoaaGreat.Tk
namespace Go.Proofs.YthkhgihjigmkoaaGreat.Tk
open Go.ChangeShapes Go.WideShapes Go.ChangeAt Go.RowKit Go.Maps
def pC (x y : Int) : Prg := ⟨[], [], [⟨[], 0, 3, [], [⟨1, 1, x, 0⟩, ⟨1, 2, y, 0⟩, ⟨21, 0, 1, 1⟩, ⟨27, 0, 0, 0⟩]⟩, ⟨[1, 1], 1, 4, [], [⟨4, 3, 0, 1⟩, ⟨22, 3, 0, 0⟩]⟩]⟩
def qC : TPrg := ⟨[], [⟨0, 3, []⟩, ⟨2, 4, []⟩]⟩
def tC (i : Nat) : List (Option (List Int)) := if i = 0 then [some [0, 0, 0], some [0, 1, 0], some [0, 1, 1], some [1, 1, 1]] else [some [1, 1, 0, 0], some [1, 1, 0, 1]]
theorem qC_small : PSmall qC := by
 unfold PSmall qC
 simp
theorem qC_words0 : wordsN qC (0 : Nat) = 5 := by decide
theorem qC_words1 : wordsN qC (1 : Nat) = 6 := by decide
theorem callC_tab (x y : Int) : TabOk (pC x y) tC ∧ (progS (pC x y)).1 = 0 := by
 have hk : (solB (pC x y) (fnAt (pC x y) 0) (tC 0) = true ∧ treeB (pC x y) (fnAt (pC x y) 0) (tC 0) [0, 0, 1, 2] = true) ∧ (solB (pC x y) (fnAt (pC x y) 1) (tC 1) = true ∧ treeB (pC x y) (fnAt (pC x y) 1) (tC 1) [0, 0] = true) ∧ ((flowE (pC x y) (fnAt (pC x y) 0) (tblF (tC 0))).1 = 0 ∧ (flowE (pC x y) (fnAt (pC x y) 1) (tblF (tC 1))).1 = 0) ∧ (progS (pC x y)).1 = 0 := ⟨⟨by kernel_rfl, by kernel_rfl⟩, ⟨by kernel_rfl, by kernel_rfl⟩, ⟨by kernel_rfl, by kernel_rfl⟩, by kernel_rfl⟩
 refine ⟨fun i hi => ?_, hk.2.2.2⟩
 have hi : i < 2 := hi
 obtain rfl | rfl : i = 0 ∨ i = 1 := by omega
 ·refine ⟨isFlow_tbl (par := [0, 0, 1, 2]) (fun j hj => ?_) hk.1.1 hk.1.2, hk.2.2.1.1⟩
  have hj : j ∈ ([⟨1, 1, x, 0⟩, ⟨1, 2, y, 0⟩, ⟨21, 0, 1, 1⟩, ⟨27, 0, 0, 0⟩] : List Ins) := hj
  simp at hj
  rcases hj with rfl | rfl | rfl | rfl
  ·exact insOk_of _ _ _ _ _ (by decide)
  ·exact insOk_of _ _ _ _ _ (by decide)
  ·refine ⟨fun e => absurd (show (21 : Int) = 17 from e) (by decide), fun k hk e => ?_⟩
   have hk : k < 2 := hk
   obtain rfl | rfl : k = 0 ∨ k = 1 := by omega
   ·show (1 : Int) ≠ 0
    decide
   ·show (1 : Int) ≠ 0
    decide
  ·exact insOk_of _ _ _ _ _ (by decide)
 ·refine ⟨isFlow_tbl (par := [0, 0]) (fun j hj => ?_) hk.2.1.1 hk.2.1.2, hk.2.2.1.2⟩
  have hj : j ∈ ([⟨4, 3, 0, 1⟩, ⟨22, 3, 0, 0⟩] : List Ins) := hj
  simp at hj
  rcases hj with rfl | rfl <;> exact insOk_of _ _ _ _ _ (by decide)
theorem callC_B (x y : Int) (hx : i64B x) (hy : i64B y) : PrgB (pC x y) ∧ PrgR (pC x y) := by
 unfold i64B at hx hy
 unfold PrgB PrgR FunB Ins.wf i64B pC
 simp
 omega
end Go.Proofs.YthkhgihjigmkoaaGreat.Tk
namespace Go.Proofs.YthkhgihjigmkoaaGreat.Tk
open Go.ChangeShapes Go.WideShapes Go.ChangeAt Go.RowKit Go.Maps
theorem progC {W : World} {A B C D : Nat} {x y : Int} (T : Nat → Prop) (hA : T A) (hB : T B) (hC : T C) (hD : T D)
  (r1 : W.heap[A]? = some (.cells #[.int .i64 1, .int .i64 1, .int .i64 x, .int .i64 0, .int .i64 1, .int .i64 2, .int .i64 y, .int .i64 0, .int .i64 21, .int .i64 0, .int .i64 1, .int .i64 1, .int .i64 27, .int .i64 0, .int .i64 0, .int .i64 0] 59))
  (r2 : W.heap[B]? = some (.cells #[.int .i64 1, .int .i64 1] 3))
  (r3 : W.heap[C]? = some (.cells #[.int .i64 4, .int .i64 3, .int .i64 0, .int .i64 1, .int .i64 22, .int .i64 3, .int .i64 0, .int .i64 0] 59))
  (r4 : W.heap[D]? = some (.cells #[.slice none 0 0, .int .i64 0, .int .i64 3, .slice none 0 0, .slice (some ⟨A, 0, none⟩) 4 4, .slice (some ⟨B, 0, none⟩) 2 2, .int .i64 1, .int .i64 4, .slice none 0 0, .slice (some ⟨C, 0, none⟩) 2 2] 74)) :
  PV W T qC (.slice none 0 0) (.slice none 0 0) (.slice (some ⟨D, 0, none⟩) 2 2) ∧ PrgVal W T (pC x y) (.slice none 0 0) (.slice none 0 0) (.slice (some ⟨D, 0, none⟩) 2 2) := by
 constructor
 ·refine ⟨⟨none, 0, 0, rfl⟩, ⟨_, 0, rfl, fun j hj => by cases hj⟩, _, 2, rfl, fun j hj => ?_⟩
  have hj2 : j = 0 ∨ j = 1 := by have : j < 2 := hj; omega
  rcases hj2 with rfl | rfl
  ·exact ⟨_, 0, rfl, hD, _, _, _, _, _, (row_cell r4 0).1, (row_cell r4 1).1, (row_cell r4 2).1, (row_cell r4 3).1, (row_cell r4 4).1, ⟨none, 0, rfl⟩, ⟨0, rfl⟩, rfl, ⟨_, 0, rfl, fun i hi => by cases hi⟩, _, _, _, rfl⟩
  ·exact ⟨_, 0, rfl, hD, _, _, _, _, _, (row_cell r4 5).1, (row_cell r4 6).1, (row_cell r4 7).1, (row_cell r4 8).1, (row_cell r4 9).1, ⟨_, _, rfl⟩, ⟨1, rfl⟩, rfl, ⟨_, 0, rfl, fun i hi => by cases hi⟩, _, _, _, rfl⟩
 ·refine ⟨⟨none, 0, rfl, fun j hj => by cases hj⟩, ⟨_, 0, rfl, fun j hj => by cases hj⟩, _, 2, rfl, fun j hj => ?_⟩
  have hj2 : j = 0 ∨ j = 1 := by have : j < 2 := hj; omega
  rcases hj2 with rfl | rfl
  ·refine ⟨_, 0, rfl, hD, _, _, _, _, _, (row_cell r4 0).1, (row_cell r4 1).1, (row_cell r4 2).1, (row_cell r4 3).1, (row_cell r4 4).1, rfl, rfl, ⟨none, 0, rfl, fun i hi => by cases hi⟩, ⟨_, 0, rfl, fun i hi => by cases hi⟩, _, 4, rfl, fun i hi => ?_⟩
   have hi2 : i = 0 ∨ i = 1 ∨ i = 2 ∨ i = 3 := by have : i < 4 := hi; omega
   rcases hi2 with rfl | rfl | rfl | rfl
   ·exact ⟨_, 0, rfl, hA, (row_cell r1 0).1, (row_cell r1 1).1, (row_cell r1 2).1, (row_cell r1 3).1⟩
   ·exact ⟨_, 0, rfl, hA, (row_cell r1 4).1, (row_cell r1 5).1, (row_cell r1 6).1, (row_cell r1 7).1⟩
   ·exact ⟨_, 0, rfl, hA, (row_cell r1 8).1, (row_cell r1 9).1, (row_cell r1 10).1, (row_cell r1 11).1⟩
   ·exact ⟨_, 0, rfl, hA, (row_cell r1 12).1, (row_cell r1 13).1, (row_cell r1 14).1, (row_cell r1 15).1⟩
  ·refine ⟨_, 0, rfl, hD, _, _, _, _, _, (row_cell r4 5).1, (row_cell r4 6).1, (row_cell r4 7).1, (row_cell r4 8).1, (row_cell r4 9).1, rfl, rfl, ⟨_, 2, rfl, fun i hi => ?_⟩, ⟨_, 0, rfl, fun i hi => by cases hi⟩, _, 2, rfl, fun i hi => ?_⟩
   ·have hi2 : i = 0 ∨ i = 1 := by have : i < 2 := hi; omega
    rcases hi2 with rfl | rfl
    ·exact ⟨_, 0, rfl, hB, (row_cell r2 0).1⟩
    ·exact ⟨_, 0, rfl, hB, (row_cell r2 1).1⟩
   ·have hi2 : i = 0 ∨ i = 1 := by have : i < 2 := hi; omega
    rcases hi2 with rfl | rfl
    ·exact ⟨_, 0, rfl, hC, (row_cell r3 0).1, (row_cell r3 1).1, (row_cell r3 2).1, (row_cell r3 3).1⟩
    ·exact ⟨_, 0, rfl, hC, (row_cell r3 4).1, (row_cell r3 5).1, (row_cell r3 6).1, (row_cell r3 7).1⟩
end Go.Proofs.YthkhgihjigmkoaaGreat.Tk
namespace Go.Proofs.YthkhgihjigmkoaaGreat.Tk
open Go.ChangeShapes Go.WideShapes Go.ChangeAt Go.RowKit Go.Maps
theorem SF_okC (pc : Int) (ws : List Int) (h : ws.length ≤ 100) : TkOk (SF pc ws) := ⟨by show 1 ≤ 1000; decide, by show 1 ≤ 1000; decide, by show ws.length ≤ 100000; omega, fun q hq => by
 have h1 : q ∈ ([⟨0, pc, 0, -1, none, 0, 0⟩] : List Part) := hq
 simp at h1
 rw [h1]
 exact ⟨Int.le_refl 0, show (0 : Int) ≤ 100000000 by decide⟩⟩
theorem startC (n : Nat) : enterT ⟨1073741824, List.replicate n 0, [], []⟩ 0 (wordsN qC (0 : Nat)) 0 (-1) [] = SF 0 (List.replicate n 0) := by
 rw [qC_words0]
 show (⟨1073741824, clearL (List.replicate n 0) 0 5, _, _⟩ : Tk) = _
 rw [clear_rep]
 rfl
theorem stepC0 {w : World} {F : Nat → Prop} {tb : Nat} {X : TB} {pc : Nat} {ws : List Int} (h : TaskAt w F tb qC (SF pc ws) X) (hA : X.al = []) (D : Nat → Prop) (hD : ∀ k, D k → ¬ F k ∧ k < w.heap.size) (x y : Int) (c0 c1 c2 : Value) (ma : Option Addr) (hv : PrgVal w D (pC x y) c0 c1 c2) (i : Ins) (hi : ([⟨1, 1, x, 0⟩, ⟨1, 2, y, 0⟩, ⟨21, 0, 1, 1⟩, ⟨27, 0, 0, 0⟩] : List Ins)[pc]? = some i)
  (T' : Tk) (k a f v fn : Int) (b : Bool) (r0 : Option Addr) (r1 r2 : Nat) (RUN : ∀ wr, Below w.heap.size w wr → Calls Tryz.prog 69 #[.agg (stepV c0 c1 c2 (.pointer ma) tb i.op i.a i.b i.c)] wr (RunPost wr F tb qC X T' (actV k a f v fn b (.slice r0 r1 r2)))) :
  Calls Tryz.prog 30 #[.agg #[c0, c1, c2], .pointer ma, .pointer (some ⟨tb, 0, none⟩)] w (RunPost w F tb qC X T' (actV k a f v fn b (.slice r0 r1 r2))) := by
 obtain ⟨hl, hi⟩ := List.getElem?_eq_some_iff.1 hi
 exact step_run w F tb qC (SF pc ws) X h (by show 1 ≤ 1000; decide) (by rw [hA]; rfl) (by show 1 ≤ 10000; decide) (by rw [hA]; exact Nat.zero_le _) [] ⟨0, pc, 0, -1, none, 0, 0⟩ rfl D hD (pC x y) c0 c1 c2 ma hv 0 (by show 0 < 2; decide) rfl pc rfl hl i hi T' k a f v fn b r0 r1 r2 RUN
theorem stepC_set {w : World} {F : Nat → Prop} {tb : Nat} {X : TB} {pc : Nat} {ws : List Int} (h : TaskAt w F tb qC (SF pc ws) X) (hA : X.al = []) (hw : 5 ≤ ws.length ∧ ws.length ≤ 100) (hpc : pc ≤ 3) (D : Nat → Prop) (hD : ∀ k, D k → ¬ F k ∧ k < w.heap.size) (x y : Int) (c0 c1 c2 : Value) (ma : Option Addr) (hv : PrgVal w D (pC x y) c0 c1 c2) (s : Nat) (hs : s < 3) (z : Int) (hi : ([⟨1, 1, x, 0⟩, ⟨1, 2, y, 0⟩, ⟨21, 0, 1, 1⟩, ⟨27, 0, 0, 0⟩] : List Ins)[pc]? = some ⟨1, s, z, 0⟩) :
  Calls Tryz.prog 30 #[.agg #[c0, c1, c2], .pointer ma, .pointer (some ⟨tb, 0, none⟩)] w (RunPost w F tb qC X (SF ((pc + 1 : Nat) : Int) (ws.set (2 + s) (wrap32 z))) (actV 0 0 0 0 0 false (.slice none 0 0))) := by
 refine stepC0 h hA D hD x y c0 c1 c2 ma hv _ hi _ 0 0 0 0 0 false none 0 0 (fun wr hb => ?_)
 have rs := run_setInt wr F tb qC (SF pc ws) X (h.below hb) (SF_okC pc ws hw.2) [] ⟨0, pc, 0, -1, none, 0, 0⟩ rfl ⟨by show (0 : Int) ≤ (pc : Int); omega, by show (pc : Int) ≤ 100000; omega⟩ 0 (by show 0 < 2; decide) rfl 0 rfl s (by show (s : Int) < 3; omega) (by omega) (by show 0 + (2 + s) < ws.length; omega) c0 c1 c2 (.pointer ma) z 0
 rw [Nat.zero_add] at rs
 exact rs
end Go.Proofs.YthkhgihjigmkoaaGreat.Tk
