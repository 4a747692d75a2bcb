/- Walk: a frame as it is, with its words. Walk: a task as it is, of one frame. -/
import Derived.Test.YthkhgihjigmkoaaGreatQAl
import Derived.Test.YthkhgihjigmkoaaGreatQAp
set_option linter.unusedVariables false
set_option linter.unusedSimpArgs false
namespace Go.Proofs.YthkhgihjigmkoaaGreat.Tk
open Go.ChangeShapes Go.WideShapes Go.ChangeAt Go.RowKit Go.Maps
/-- so many words, from one on -/
def subW (l : List Int) (o n : Nat) : List Int := (l.drop o).take n
theorem subW_len (l : List Int) (o n : Nat) (h : o + n ≤ l.length) : (subW l o n).length = n := by simp [subW]; omega
theorem subW_next (l : List Int) (o k : Nat) (h : o + k < l.length) : subW l o k ++ [l[o + k]] = subW l o (k + 1) := by
  unfold subW
  rw [List.take_add_one, List.getElem?_drop, List.getElem?_eq_getElem h]
  rfl
theorem subW_get (l : List Int) (o n k : Nat) (hk : k < n) : (subW l o n)[k]? = l[o + k]? := by
  unfold subW
  rw [List.getElem?_take_of_lt hk, List.getElem?_drop]
set_option maxRecDepth 100000 in
set_option maxHeartbeats 1600000 in
theorem tkwords2_any (w : World) (F : Nat → Prop) (tb : Nat) (p : TPrg) (T : Tk) (X : TB) (h : TaskAt w F tb p T X) (from_ n : Nat) (hn : from_ + n ≤ T.words.length) (hl : T.words.length ≤ 100000) :
    Calls Tryz.prog 88 #[.pointer (some ⟨tb, 0, none⟩), .int .i64 from_, .int .i64 n] w fun e w' => ∃ a c, e = .returned (.slice a n c) ∧ Own intE w' w.heap.size (.slice a n c) (subW T.words from_ n) ∧ Below w.heap.size w w' := by
  have ld := fun wr (hw : Below w.heap.size w wr) (k : Nat) (hk : k < T.words.length) => stLoad_in wr X.sb X.wb T.base T.words (h.below hw).st k hk
  have hc := fun wr (hw : Below w.heap.size w wr) => (h.below hw).cells.2.2.2.1
  clear h
  have LD := Lib.hid ld; clear ld
  have HC := Lib.hid hc; clear hc
  go_enter Tryz.func88, Tryz.ntmps88
  go_wp2_with fail
  go_loopw [7, 12] (fun o i wr => ∃ k : Nat, ∃ l : List Int, k ≤ n ∧ i = .int .i64 k ∧ Own intE wr w.heap.size o l ∧ l = subW T.words from_ k ∧ Below w.heap.size w wr) (fun _ i _ => n - (intOf i).toNat)
  case atStart => exact ⟨0, [], Nat.zero_le _, rfl, Own.nil _ _ _, (by simp [subW]), Below.refl _ _⟩
  case round =>
    obtain ⟨k, l, hk, rfl, ho, hlk', hB⟩ := hrel
    have hlk : l.length = k := by rw [hlk', subW_len _ _ _ (by omega)]
    by_cases hlt : k < n
    · have q3 := HC.out wr hB
      have ld := LD.out wr hB (from_ + k) (by omega)
      obtain ⟨off, hoff⟩ : ∃ off, off = from_ + k := ⟨_, rfl⟩
      have i1 : IntKind.i64.wrap ((from_ : Int) + (k : Int)) = (off : Int) := by rw [show ((from_ : Int) + (k : Int)) = (off : Int) from by omega]; exact IntWalk.i64_in _ (by omega)
      have hnx := subW_next T.words from_ k (by omega)
      rw [← hlk'] at hnx
      generalize T.words[from_ + k] = x at *
      rw [← hoff] at ld
      have hlk2 : l.length ≤ 100000 := by omega
      have LD := Lib.hid ld; clear ld
      have HO := Lib.hid ho; clear ho
      have HB := Lib.hid hB; clear hB
      have HOFF := Lib.hid hoff; clear hoff
      have HLK := Lib.hid hlk; clear hlk
      have HNX := Lib.hid hnx; clear hnx
      clear hlk'
      obtain ⟨a0, n0, c0, rfl⟩ := HO.out.slice
      go_wp2_with fail
      refine LD.out.mono ?_
      rintro e w' ⟨rfl, rfl⟩
      go_wp2_with (at_builtin; refine append_own intE rfl (.tmp 26) (.tmp 28) rfl w.heap.size l [x] _ rfl (HO.out.alloc _) wr.heap.size 0 1 rfl (CellsAt.new _ _ _ _) ?c1 ?c2 ?_)
      case c1 => first | omega | (show l.length + 1 ≤ 100000000; omega)
      case c2 => have := HB.out.size; simp; omega
      intro v5 w5 ho5 hg5
      have hb5 := below_grown (HB.out.alloc HB.out.size _) (HO.out.alloc (.cells #[.int .i64 x] 3)) hg5 (by have := HB.out.size; simp; omega) (Nat.le_refl _)
      obtain ⟨a5, n5, c5, rfl⟩ := ho5.slice
      have hlen := HNX.out
      clear hg5
      have HO5 := Lib.hid ho5; clear ho5
      have HB5 := Lib.hid hb5; clear hb5
      have HLEN := Lib.hid hlen; clear hlen
      go_wp2_with fail
      go_roundw
      case rel => exact ⟨k + 1, _, by omega, by go_num, HO5.out, HLEN.out, HB5.out⟩
      case measure => simp [intOf]; omega
    · have hk' : k = n := by omega
      subst hk'
      obtain ⟨a0, c0, rfl, _⟩ := own_elems ho
      rw [hlk] at ho
      rw [hlk]
      rw [hlk'] at ho
      clear hlk hlk'
      have HB := Lib.hid hB; clear hB
      have HO := Lib.hid ho; clear ho
      go_wp2_with fail
      go_ret
      exact ⟨_, _, rfl, HO.out, HB.out⟩
set_option maxRecDepth 100000 in
set_option maxHeartbeats 3200000 in
theorem spot2_any (w : World) (F : Nat → Prop) (tb : Nat) (p : TPrg) (T : Tk) (X : TB) (h : TaskAt w F tb p T X) (hp : PSmall p) (ht : TkOk T) (d : Nat) (hd : d < T.parts.length) (hdm : d < T.marks.length) (j : Nat) (hj : j < p.funcs.length) (hfj : T.parts[d].fn = j) (sl : Nat) (hsl : p.funcs[j].slots = sl) (bn : Nat) (hbn : T.parts[d].base = bn) (hfit : bn + wordsN p j ≤ T.words.length) :
    Calls Tryz.prog 63 #[.pointer (some ⟨tb, 0, none⟩), .int .i64 d] w fun e w' => ∃ x0 x1 x2 b3 b4 x5 b6 a7 c7 a8 n8 c8, e = .returned (.agg #[.int .i64 x0, .int .i64 x1, .int .i64 x2, .bool b3, .bool b4, .int .i64 x5, .bool b6, .slice a7 sl c7, .slice a8 n8 c8]) ∧ Own intE w' (w.heap.size + 1) (.slice a7 sl c7) (subW T.words (bn + 2) sl) ∧ Own intE w' (w.heap.size + 1) (.slice a8 n8 c8) (subW T.words (bn + (2 + sl)) (wordsN p j - (2 + sl))) ∧ Below w.heap.size w w' := by
  have hwn : 2 + sl ≤ wordsN p j := by rw [wordsN_at j hj]; unfold frameN; omega
  have hwl := ht.2.2.1
  have tw1 := fun wr (hw : Below w.heap.size w wr) => tkwords2_any wr F tb p T X (h.below hw) (bn + 2) sl (by omega) hwl
  have tw2 := fun wr (hw : Below w.heap.size w wr) => tkwords2_any wr F tb p T X (h.below hw) (bn + (2 + sl)) (wordsN p j - (2 + sl)) (by omega) hwl
  have wd := fun wr (hw : Below w.heap.size w wr) => words_any wr X.D (fun k hk => Nat.lt_of_lt_of_le (h.out k hk).2 hw.size) p X.c0 X.c1 X.c2 j (h.prg.below hw) hp
  obtain ⟨⟨a0, n0, m0, e0⟩, ⟨a1, m1, e1, _⟩, a2, m2, e2, hfn⟩ := h.prg
  rw [e0, e1, e2] at wd
  obtain ⟨q0, q1, q2, q3, q4, q5, q6, q7⟩ := h.cells
  rw [e0] at q0
  rw [e1] at q1
  rw [e2] at q2
  obtain ⟨a4, m4, e4, hel⟩ := h.pv
  rw [e4] at q4
  obtain ⟨b, rfl, _, k0, k1, k2, k3, k4⟩ := hel d hd
  obtain ⟨a5, m5, e5, hml⟩ := own_elems h.marks
  rw [e5] at q5
  obtain ⟨mb, rfl, _, hmc⟩ := hml d hdm
  have l0 : w.cell? ⟨mb, d * 3, none⟩ = some (.bool T.marks[d].leaving) := hmc 0 _ rfl
  obtain ⟨bb, o, rfl, _, y0, y1, y2, y3, y4, g0, g1, g2, g3, g4, hfv⟩ := hfn j hj
  obtain ⟨_, _, rfl, _⟩ := hfv
  obtain ⟨kn, hkept⟩ := h.kept
  rw [hsl] at g2
  rw [hfj] at k0
  rw [hbn] at k2
  have hd1 : (d : Int) < T.parts.length := by omega
  have hd2 : (d : Int) < T.marks.length := by omega
  have hd3 : (0 : Int) ≤ (d : Int) := by omega
  have hj0 : (0 : Int) ≤ (j : Int) := by omega
  have hj1 : (j : Int) < p.funcs.length := by omega
  have hdb : i64B (d : Int) := by unfold i64B; have := ht.1; omega
  have hz0 : i64B 0 := by unfold i64B; omega
  obtain ⟨wn, hwn0⟩ : ∃ wn, wn = wordsN p j := ⟨_, rfl⟩
  rw [← hwn0] at tw2 wd hwn hfit
  obtain ⟨f1, hf1⟩ : ∃ f1, f1 = bn + 2 := ⟨_, rfl⟩
  obtain ⟨s7, hs7⟩ : ∃ s7, s7 = 2 + sl := ⟨_, rfl⟩
  obtain ⟨f2, hf2⟩ : ∃ f2, f2 = bn + s7 := ⟨_, rfl⟩
  obtain ⟨n2, hn2⟩ : ∃ n2, n2 = wn - s7 := ⟨_, rfl⟩
  rw [← hf1] at tw1
  rw [← hs7, ← hf2, ← hn2] at tw2
  have i1 : IntKind.i64.wrap ((bn : Int) + 2) = (f1 : Int) := by rw [show ((bn : Int) + 2) = (f1 : Int) from by omega]; exact IntWalk.i64_in _ (by omega)
  have i2 : IntKind.i64.wrap (2 + (sl : Int)) = (s7 : Int) := by rw [show (2 + (sl : Int)) = (s7 : Int) from by omega]; exact IntWalk.i64_in _ (by omega)
  have i3 : IntKind.i64.wrap ((bn : Int) + (s7 : Int)) = (f2 : Int) := by rw [show ((bn : Int) + (s7 : Int)) = (f2 : Int) from by omega]; exact IntWalk.i64_in _ (by omega)
  have i4 : IntKind.i64.wrap ((wn : Int) - (s7 : Int)) = (n2 : Int) := by rw [show ((wn : Int) - (s7 : Int)) = (n2 : Int) from by omega]; exact IntWalk.i64_in _ (by omega)
  have ht2 : Tryz.prog.underlying 91 = some (.map spK.k 3) := Tryz.underlying91
  have b0 := World.block_lt q0
  have b1 := World.block_lt k0
  have b2 := World.block_lt l0
  have b3 := World.block_lt g2
  dsimp only at b0 b1 b2 b3
  have m1' : tb ≠ w.heap.size := by omega
  have m2' : mb ≠ w.heap.size := by omega
  have m3 : w.heap.size + 1 ≠ w.heap.size := by omega
  have hb1 := (Below.refl w.heap.size w).alloc (Nat.le_refl _) spot0
  have hrow := heap_new w spot0
  unfold spot0 at hb1 hrow
  generalize T.parts[d] = q at *
  generalize T.marks[d] = mk at *
  clear h hel hml hmc e0 e1 e2 e4 e5 hfn hfj hbn hsl g0 g1 g3 g4 q3 q6
  rw [← hwn0, ← hs7, ← hf1, ← hf2, ← hn2]
  have tw : ∀ wr, Below w.heap.size w wr → ∀ f n : Nat, ((f = f1 ∧ n = sl) ∨ (f = f2 ∧ n = n2)) → Calls Tryz.prog 88 #[.pointer (some ⟨tb, 0, none⟩), .int .i64 f, .int .i64 n] wr fun e w' => ∃ a c, e = .returned (.slice a n c) ∧ Own intE w' wr.heap.size (.slice a n c) (subW T.words f n) ∧ Below wr.heap.size wr w' := fun wr hw f n h => by
    rcases h with ⟨rfl, rfl⟩ | ⟨rfl, rfl⟩
    · exact tw1 wr hw
    · exact tw2 wr hw
  clear tw1 tw2
  have TW := Lib.hid tw; clear tw
  have WD := Lib.hid wd; clear wd
  have HKEPT := Lib.hid hkept; clear hkept
  have HF1 := Lib.hid hf1; clear hf1
  have HS7 := Lib.hid hs7; clear hs7
  have HF2 := Lib.hid hf2; clear hf2
  have HN2 := Lib.hid hn2; clear hn2
  have HWN0 := Lib.hid hwn0; clear hwn0
  have HT2 := Lib.hid ht2; clear ht2
  have HB1 := Lib.hid hb1; clear hb1
  have HROW := Lib.hid hrow; clear hrow
  go_enter Tryz.func63, Tryz.ntmps63
  go_upto_region 2 with fail
  have hb2 := HB1.out.alloc HB1.out.size (.cells #[.int .i64 j, .int .i64 q.pc, .int .i64 bn, .int .i64 q.ret, .slice q.ta q.tn q.tc] 100)
  have hrow2 := row_alloc HROW.out (.cells #[.int .i64 j, .int .i64 q.pc, .int .i64 bn, .int .i64 q.ret, .slice q.ta q.tn q.tc] 100)
  have hpt := heap_new (w.alloc (.cells #[.int .i64 0, .int .i64 0, .int .i64 0, .bool false, .bool false, .int .i64 0, .bool false, .slice none 0 0, .slice none 0 0] 51)) (.cells #[.int .i64 j, .int .i64 q.pc, .int .i64 bn, .int .i64 q.ret, .slice q.ta q.tn q.tc] 100)
  rw [show (w.alloc (.cells #[.int .i64 0, .int .i64 0, .int .i64 0, .bool false, .bool false, .int .i64 0, .bool false, .slice none 0 0, .slice none 0 0] 51)).heap.size = w.heap.size + 1 from by simp] at hpt
  obtain ⟨W, hW⟩ : ∃ W, W = (w.alloc (.cells #[.int .i64 0, .int .i64 0, .int .i64 0, .bool false, .bool false, .int .i64 0, .bool false, .slice none 0 0, .slice none 0 0] 51)).alloc (.cells #[.int .i64 j, .int .i64 q.pc, .int .i64 bn, .int .i64 q.ret, .slice q.ta q.tn q.tc] 100) := ⟨_, rfl⟩
  rw [← hW] at hb2 hrow2 hpt ⊢
  have q0 := below_cell hb2 q0
  have q1 := below_cell hb2 q1
  have q2 := below_cell hb2 q2
  have q5 := below_cell hb2 q5
  have q7 := below_cell hb2 q7
  have l0 := below_cell hb2 l0
  have g2 := below_cell hb2 g2
  have p0 : W.cell? ⟨w.heap.size + 1, 0, none⟩ = some (.int .i64 j) := (row_cell hpt 0).1
  have p1 : W.cell? ⟨w.heap.size + 1, 1, none⟩ = some (.int .i64 q.pc) := (row_cell hpt 1).1
  have p2 : W.cell? ⟨w.heap.size + 1, 2, none⟩ = some (.int .i64 bn) := (row_cell hpt 2).1
  have p4 : W.cell? ⟨w.heap.size + 1, 4, none⟩ = some (.slice q.ta q.tn q.tc) := (row_cell hpt 4).1
  clear hW hpt HB1 HROW b0 b1 b2 b3 q4 k0 k1 k2 k3 k4
  have HB2 := Lib.hid hb2; clear hb2
  have HROW2 := Lib.hid hrow2; clear hrow2
  go_quiet (fail)
  have hq : Below W.heap.size W (W.drewN nq) := below_drewN (Below.refl _ _) nq
  have q0 := below_cell hq q0
  have q1 := below_cell hq q1
  have q2 := below_cell hq q2
  have q5 := below_cell hq q5
  have q7 := below_cell hq q7
  have l0 := below_cell hq l0
  have p0 := below_cell hq p0
  have p1 := below_cell hq p1
  have p2 := below_cell hq p2
  have p4 := below_cell hq p4
  have hb3 := HB2.out.trans (hq.mono HB2.out.size)
  have hrow3 := (Fr.of_below hq (fun _ => False)).heap HROW2.out (fun h => h)
  clear g2 hq HB2 HROW2
  generalize W.drewN nq = W3 at *
  have HKM := Lib.hid (HKEPT.out.below hb3)
  have HB3 := Lib.hid hb3; clear hb3
  have HROW3 := Lib.hid hrow3; clear hrow3
  go_wp2_with (refine look_none_ok rfl (.tmp 33) (.tmp 35) 91 3 rfl HKM.out HT2.out (zero_int _) ⟨((d : Int), (0 : Int)), hdb, hz0⟩ trivial rfl rfl rfl ?_)
  go_upto_region 5 with fail
  go_cut [] (fun wx => ∃ x0 x1 x2 b3 b4 x5 b6 a7 c7 a8 n8 c8, wx.heap[w.heap.size]? = some (.cells #[.int .i64 x0, .int .i64 x1, .int .i64 x2, .bool b3, .bool b4, .int .i64 x5, .bool b6, .slice a7 sl c7, .slice a8 n8 c8] 51) ∧ Own intE wx (w.heap.size + 1) (.slice a7 sl c7) (subW T.words f1 sl) ∧ Own intE wx (w.heap.size + 1) (.slice a8 n8 c8) (subW T.words f2 n2) ∧ Below w.heap.size w wx)
  case first =>
    have hcur := HB3.out.drew
    have hrow := HROW3.out
    have hlow : w.heap.size + 1 ≤ W3.drew.heap.size := heap_lt HROW3.out
    clear HKM HKEPT
    have hfr9 : ∀ (X : World) (v0 v1 v2 v3 v4 v5 v6 v7 v8 : Value), Fr (fun k => k = w.heap.size) X (((((((((X.setCell ⟨w.heap.size, 0, none⟩ v0).setCell ⟨w.heap.size, 1, none⟩ v1).setCell ⟨w.heap.size, 2, none⟩ v2).setCell ⟨w.heap.size, 3, none⟩ v3).setCell ⟨w.heap.size, 4, none⟩ v4).setCell ⟨w.heap.size, 5, none⟩ v5).setCell ⟨w.heap.size, 6, none⟩ v6).setCell ⟨w.heap.size, 7, none⟩ v7).setCell ⟨w.heap.size, 8, none⟩ v8) := fun X v0 v1 v2 v3 v4 v5 v6 v7 v8 => ((((((((((Fr.refl (fun k => k = w.heap.size) X).setCell (p := ⟨w.heap.size, 0, none⟩) (fun _ => rfl) v0).setCell (p := ⟨w.heap.size, 1, none⟩) (fun _ => rfl) v1).setCell (p := ⟨w.heap.size, 2, none⟩) (fun _ => rfl) v2).setCell (p := ⟨w.heap.size, 3, none⟩) (fun _ => rfl) v3).setCell (p := ⟨w.heap.size, 4, none⟩) (fun _ => rfl) v4).setCell (p := ⟨w.heap.size, 5, none⟩) (fun _ => rfl) v5).setCell (p := ⟨w.heap.size, 6, none⟩) (fun _ => rfl) v6).setCell (p := ⟨w.heap.size, 7, none⟩) (fun _ => rfl) v7).setCell (p := ⟨w.heap.size, 8, none⟩) (fun _ => rfl) v8)
    have hrow9 : ∀ (X : World) (v0 v1 v2 v3 v4 v5 v6 v7 v8 : Value), X.heap[w.heap.size]? = some (.cells #[.int .i64 0, .int .i64 0, .int .i64 0, .bool false, .bool false, .int .i64 0, .bool false, .slice none 0 0, .slice none 0 0] 51) → (((((((((X.setCell ⟨w.heap.size, 0, none⟩ v0).setCell ⟨w.heap.size, 1, none⟩ v1).setCell ⟨w.heap.size, 2, none⟩ v2).setCell ⟨w.heap.size, 3, none⟩ v3).setCell ⟨w.heap.size, 4, none⟩ v4).setCell ⟨w.heap.size, 5, none⟩ v5).setCell ⟨w.heap.size, 6, none⟩ v6).setCell ⟨w.heap.size, 7, none⟩ v7).setCell ⟨w.heap.size, 8, none⟩ v8).heap[w.heap.size]? = some (.cells #[v0, v1, v2, v3, v4, v5, v6, v7, v8] 51) := fun X v0 v1 v2 v3 v4 v5 v6 v7 v8 h => by
      have := (row_set (row_set (row_set (row_set (row_set (row_set (row_set (row_set (row_set h 0 v0) 1 v1) 2 v2) 3 v3) 4 v4) 5 v5) 6 v6) 7 v7) 8 v8)
      simpa using this
    go_region_held3 (fun w' => w'.cell? ⟨w.heap.size + 1, 0, none⟩ = some (.int .i64 j) ∧ w'.cell? ⟨w.heap.size + 1, 1, none⟩ = some (.int .i64 q.pc) ∧ w'.cell? ⟨w.heap.size + 1, 2, none⟩ = some (.int .i64 bn) ∧ w'.cell? ⟨w.heap.size + 1, 4, none⟩ = some (.slice q.ta q.tn q.tc) ∧ w'.cell? ⟨tb, 0, none⟩ = some (.slice a0 n0 m0) ∧ w'.cell? ⟨tb, 1, none⟩ = some (.slice a1 p.shapes.length m1) ∧ w'.cell? ⟨tb, 2, none⟩ = some (.slice (some ⟨bb, o, none⟩) p.funcs.length m2) ∧ w'.cell? ⟨tb, 5, none⟩ = some (.slice (some ⟨mb, 0, none⟩) T.marks.length m5) ∧ w'.cell? ⟨mb, d * 3, none⟩ = some (.bool mk.leaving)) (first | with_reducible exact ⟨p0, p1, p2, p4, q0, q1, q2, q5, l0⟩ | with_reducible exact ⟨(hfr9 _ _ _ _ _ _ _ _ _ _).cell p0 m3, (hfr9 _ _ _ _ _ _ _ _ _ _).cell p1 m3, (hfr9 _ _ _ _ _ _ _ _ _ _).cell p2 m3, (hfr9 _ _ _ _ _ _ _ _ _ _).cell p4 m3, (hfr9 _ _ _ _ _ _ _ _ _ _).cell q0 m1', (hfr9 _ _ _ _ _ _ _ _ _ _).cell q1 m1', (hfr9 _ _ _ _ _ _ _ _ _ _).cell q2 m1', (hfr9 _ _ _ _ _ _ _ _ _ _).cell q5 m1', (hfr9 _ _ _ _ _ _ _ _ _ _).cell l0 m2'⟩ | go_keep) (first | (go_at_call 88; refine (TW.out _ hcur _ _ (by first | exact .inl ⟨rfl, rfl⟩ | exact .inr ⟨rfl, rfl⟩)).mono ?_; rintro e wq ⟨a7, c7, rfl, hoX, hbq⟩; have hoX := hoX.base (B' := w.heap.size + 1) (fun k hk => Nat.le_trans hlow (hoX.lt hk).1); (try have hoS := hoS.below hbq); (try have hoO := hoO.below hbq); (first | (with_reducible have hoS : Own intE wq (w.heap.size + 1) (.slice a7 sl c7) (subW T.words f1 sl) := hoX) | (with_reducible have hoO : Own intE wq (w.heap.size + 1) (.slice a7 n2 c7) (subW T.words f2 n2) := hoX)); clear hoX; have hlow := Nat.le_trans hlow hbq.size; have p0 := below_cell hbq p0; have p1 := below_cell hbq p1; have p2 := below_cell hbq p2; have p4 := below_cell hbq p4; have q0 := below_cell hbq q0; have q1 := below_cell hbq q1; have q2 := below_cell hbq q2; have q5 := below_cell hbq q5; have l0 := below_cell hbq l0; have hcur := hcur.trans (hbq.mono hcur.size); have hrow := (Fr.of_below hbq (fun _ => False)).heap hrow (fun h => h); obtain ⟨⟨z0, z1, z2, z3, z4, z5, z6, z7, z8⟩, f0, f1', f2', f3, f4, f5, f6, f7, f8⟩ := nine_cells hrow) | (go_at_call 44; refine (WD.out _ hcur).mono ?_; rintro e wq ⟨rfl, hbq⟩; (try have hoS := hoS.below hbq); (try have hoO := hoO.below hbq); have hlow := Nat.le_trans hlow hbq.size; have p0 := below_cell hbq p0; have p1 := below_cell hbq p1; have p2 := below_cell hbq p2; have p4 := below_cell hbq p4; have q0 := below_cell hbq q0; have q1 := below_cell hbq q1; have q2 := below_cell hbq q2; have q5 := below_cell hbq q5; have l0 := below_cell hbq l0; have hcur := hcur.trans (hbq.mono hcur.size); have hrow := (Fr.of_below hbq (fun _ => False)).heap hrow (fun h => h); obtain ⟨⟨z0, z1, z2, z3, z4, z5, z6, z7, z8⟩, f0, f1', f2', f3, f4, f5, f6, f7, f8⟩ := nine_cells hrow))
    all_goals
      have hs9 := fun v0 v1 v2 v3 v4 v5 v6 v7 v8 => hoS.fr (hfr9 wq v0 v1 v2 v3 v4 v5 v6 v7 v8) (fun k hk e => by have h1 := (hoS.lt hk).1; have h2 : k = w.heap.size := e; omega)
      have ho9 := fun v0 v1 v2 v3 v4 v5 v6 v7 v8 => hoO.fr (hfr9 wq v0 v1 v2 v3 v4 v5 v6 v7 v8) (fun k hk e => by have h1 := (hoO.lt hk).1; have h2 : k = w.heap.size := e; omega)
      have HS9 := Lib.hid hs9; clear hs9
      have HO9 := Lib.hid ho9; clear ho9
      clear hoS hoO
      have hz := hcur.size
      have hfin := fun v0 v1 v2 v3 v4 v5 v6 v7 v8 => hrow9 wq v0 v1 v2 v3 v4 v5 v6 v7 v8 hrow
      have hbf := fun v0 v1 v2 v3 v4 v5 v6 v7 v8 => hcur.trans ((hfr9 wq v0 v1 v2 v3 v4 v5 v6 v7 v8).below hz (fun k hk => by omega))
      have HFIN := Lib.hid hfin; clear hfin
      have HBF := Lib.hid hbf; clear hbf
      clear hrow hcur hfr9 hrow9
      go_wp2_with fail
      go_meet
      first | exact ⟨_, _, _, _, _, _, _, _, _, _, _, _, HFIN.out _ _ _ _ _ _ _ _ _, HS9.out _ _ _ _ _ _ _ _ _, HO9.out _ _ _ _ _ _ _ _ _, HBF.out _ _ _ _ _ _ _ _ _⟩ | (case rel => exact ⟨_, _, _, _, _, _, _, _, _, _, _, _, HFIN.out _ _ _ _ _ _ _ _ _, HS9.out _ _ _ _ _ _ _ _ _, HO9.out _ _ _ _ _ _ _ _ _, HBF.out _ _ _ _ _ _ _ _ _⟩)
  case rest =>
    obtain ⟨x0, x1, x2, b3, b4, x5, b6, a7, c7, a8, n8, c8, hr, hS, hO, hb⟩ := hcut
    have HB := Lib.hid hb; clear hb
    have HR := Lib.hid hr; clear hr
    have HS := Lib.hid hS; clear hS
    have HO := Lib.hid hO; clear hO
    go_wp2_with (with_reducible refine bodyPost_ret ?_ rfl ⟨x0, x1, x2, b3, b4, x5, b6, a7, c7, a8, n8, c8, rfl, HS.out, HO.out, HB.out⟩; obtain ⟨⟨z0, z1, z2, z3, z4, z5, z6, z7, z8⟩, _⟩ := nine_cells HR.out; simp [results, Tryz.results63, go_sem, z0, z1, z2, z3, z4, z5, z6, z7, z8])
end Go.Proofs.YthkhgihjigmkoaaGreat.Tk
namespace Go.Proofs.YthkhgihjigmkoaaGreat.Tk
open Go.ChangeShapes Go.WideShapes Go.ChangeAt Go.RowKit Go.Maps
/-- a frame as it is, as nine values -/
structure SpotV where (x0 x1 x2 : Int) (b3 b4 : Bool) (x5 : Int) (b6 : Bool) (a7 : Option Addr) (n7 c7 : Nat) (a8 : Option Addr) (n8 c8 : Nat)
set_option maxRecDepth 100000 in
def spotE : Elem Tryz.prog SpotV where
  e := 51
  t := 43
  size := 9
  bytes := 96
  zero := .agg #[.int .i64 0, .int .i64 0, .int .i64 0, .bool false, .bool false, .int .i64 0, .bool false, .slice none 0 0, .slice none 0 0]
  enc := fun x => [.int .i64 x.x0, .int .i64 x.x1, .int .i64 x.x2, .bool x.b3, .bool x.b4, .int .i64 x.x5, .bool x.b6, .slice x.a7 x.n7 x.c7, .slice x.a8 x.n8 x.c8]
  ht := Tryz.underlying43
  info := by kernel_rfl
  hzs := rfl
  hsz := by decide
  hby := by decide
  henc := fun _ => rfl
  hone := fun x u h => by simp at h; rcases h with rfl | rfl | rfl | rfl | rfl | rfl | rfl | rfl | rfl <;> rfl
set_option maxRecDepth 100000 in
def thsE : Elem Tryz.prog (Option Addr × Nat × Nat) where
  e := 98
  t := 44
  size := 1
  bytes := 24
  zero := .slice none 0 0
  enc := fun x => [.slice x.1 x.2.1 x.2.2]
  ht := Tryz.underlying44
  info := by kernel_rfl
  hzs := rfl
  hsz := by decide
  hby := by decide
  henc := fun _ => rfl
  hone := fun x u h => by simp at h; subst h; rfl
end Go.Proofs.YthkhgihjigmkoaaGreat.Tk
