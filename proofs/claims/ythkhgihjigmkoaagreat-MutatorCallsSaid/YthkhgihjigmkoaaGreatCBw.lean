import Derived.Test.YthkhgihjigmkoaaGreatCAr
import Derived.Test.YthkhgihjigmkoaaGreatCBv
import Derived.Test.YthkhgihjigmkoaaGreatCAw
import Derived.Test.YthkhgihjigmkoaaGreatCAy
import Derived.Test.YthkhgihjigmkoaaGreatCAx
import Derived.Test.YthkhgihjigmkoaaGreatCAu
import Derived.Test.YthkhgihjigmkoaaGreatCAs
import Derived.Test.YthkhgihjigmkoaaGreatCAv
import Derived.Test.YthkhgihjigmkoaaGreatCAp
import Derived.Test.YthkhgihjigmkoaaGreatCAm
set_option linter.unusedVariables false
set_option linter.unusedSimpArgs false
namespace Go.Proofs.YthkhgihjigmkoaaGreat.Tk
open Go.ChangeShapes Go.WideShapes Go.ChangeAt Go.RowKit Go.Maps
theorem look_run {P : Program} {ops : Array Oper} {rest : List Oper} {o : Oper} {a : Act} {Q : Exit → Act → World → Prop} {w : World} {mv kv v : Value} (hg : o.guard = none) (m x : Operand) (t : TypeId) (hop : o.op = Op.lookup t m x true) (hm : a.eval m = mv) (hx : a.eval x = kv) (hrun : (Instr.lookup t mv kv true).run P w = .ok v w)
  (hK : wpList P ops Q rest (a.put o.dst v) w) : wpList P ops Q (o :: rest) a w := by
 refine wpList_plain hg fun K' hK' => ?_
 unfold Oper.wp
 simp [execOp, hop, hm, hx, hrun, Result.andThen]
 exact hK' _ _ hK
set_option maxRecDepth 100000 in
set_option maxHeartbeats 3200000 in
theorem spot3_any (w : World) (F : Nat → Prop) (tb : Nat) (p : TPrg) (T : Tk) (X : TB) (h : TaskAt w F tb p T X) (hp : PSmall p) (ht : TkOk T) (d : Nat) (hd : d < T.parts.length) (hdm : d < T.marks.length) (j : Nat) (hj : j < p.funcs.length) (hfj : T.parts[d].fn = j) (sl : Nat) (hsl : p.funcs[j].slots = sl) (bn : Nat) (hbn : T.parts[d].base = bn) (hfit : bn + wordsN p j ≤ T.words.length) (hI : i64B (d : Int) ∧ i64B 0) (x : Int) (b : Bool) (hx : (X.kf ⟨((d : Int), (0 : Int)), hI⟩ = some x ∧ b = true) ∨ (X.kf ⟨((d : Int), (0 : Int)), hI⟩ = none ∧ x = 0 ∧ b = false)) :
  Calls Tryz.prog 63 #[.pointer (some ⟨tb, 0, none⟩), .int .i64 d] w fun e w' => ∃ a7 c7 a8 n8 c8, e = .returned (.agg #[.int .i64 j, .int .i64 T.parts[d].pc, .int .i64 bn, .bool T.marks[d].leaving, .bool (decide (0 < T.parts[d].tn)), .int .i64 x, .bool b, .slice a7 sl c7, .slice a8 n8 c8]) ∧ Own intE w' (w.heap.size + 1) (.slice a7 sl c7) (subW T.words (bn + 2) sl) ∧ Own intE w' (w.heap.size + 1) (.slice a8 n8 c8) (subW T.words (bn + (2 + sl)) (wordsN p j - (2 + sl))) ∧ Below w.heap.size w w' := by
 have hwn : 2 + sl ≤ wordsN p j := by rw [wordsN_at j hj]; unfold frameN; omega
 have hwl := ht.2.2.1
 have tw1 := fun wr (hw : Below w.heap.size w wr) => tkwords2_any wr F tb p T X (h.below hw) (bn + 2) sl (by omega) hwl
 have tw2 := fun wr (hw : Below w.heap.size w wr) => tkwords2_any wr F tb p T X (h.below hw) (bn + (2 + sl)) (wordsN p j - (2 + sl)) (by omega) hwl
 have wd := fun wr (hw : Below w.heap.size w wr) => words_any wr X.D (fun k hk => Nat.lt_of_lt_of_le (h.out k hk).2 hw.size) p X.c0 X.c1 X.c2 j (h.prg.below hw) hp
 obtain ⟨⟨a0, n0, m0, e0⟩, ⟨a1, m1, e1, _⟩, a2, m2, e2, hfn⟩ := h.prg
 rw [e0, e1, e2] at wd
 obtain ⟨q0, q1, q2, q3, q4, q5, q6, q7⟩ := h.cells
 rw [e0] at q0
 rw [e1] at q1
 rw [e2] at q2
 obtain ⟨a4, m4, e4, hel⟩ := h.pv
 rw [e4] at q4
 obtain ⟨pb, rfl, _, k0, k1, k2, k3, k4⟩ := hel d hd
 obtain ⟨a5, m5, e5, hml⟩ := own_elems h.marks
 rw [e5] at q5
 obtain ⟨mb, rfl, _, hmc⟩ := hml d hdm
 have l0 : w.cell? ⟨mb, d * 3, none⟩ = some (.bool T.marks[d].leaving) := hmc 0 _ rfl
 obtain ⟨bb, o, rfl, _, y0, y1, y2, y3, y4, g0, g1, g2, g3, g4, hfv⟩ := hfn j hj
 obtain ⟨_, _, rfl, _⟩ := hfv
 have hkept : ∀ wr, Below w.heap.size w wr → (Instr.lookup 91 (.map (some X.kb)) (.agg #[.int .i64 d, .int .i64 0]) true).run Tryz.prog wr = .ok (.tuple #[.int .i64 x, .bool b]) wr := fun wr hw => by
  obtain ⟨kn, _, hkm⟩ := (h.below hw).kept
  have lk := hkm.look Tryz.underlying91 (zero_int wr) ⟨((d : Int), (0 : Int)), hI⟩ trivial
  rcases hx with ⟨h1, rfl⟩ | ⟨h1, rfl, rfl⟩
  ·exact (lk.1 x h1).2
  ·exact (lk.2 h1).2
 rw [hsl] at g2
 rw [hfj] at k0
 rw [hbn] at k2
 have hd1 : (d : Int) < T.parts.length := by omega
 have hd2 : (d : Int) < T.marks.length := by omega
 have hd3 : (0 : Int) ≤ (d : Int) := by omega
 have hj0 : (0 : Int) ≤ (j : Int) := by omega
 have hj1 : (j : Int) < p.funcs.length := by omega
 have hdb : i64B (d : Int) := by unfold i64B; have := ht.1; omega
 have hz0 : i64B 0 := by unfold i64B; omega
 obtain ⟨wn, hwn0⟩ : ∃ wn, wn = wordsN p j := ⟨_, rfl⟩
 rw [← hwn0] at tw2 wd hwn hfit
 obtain ⟨f1, hf1⟩ : ∃ f1, f1 = bn + 2 := ⟨_, rfl⟩
 obtain ⟨s7, hs7⟩ : ∃ s7, s7 = 2 + sl := ⟨_, rfl⟩
 obtain ⟨f2, hf2⟩ : ∃ f2, f2 = bn + s7 := ⟨_, rfl⟩
 obtain ⟨n2, hn2⟩ : ∃ n2, n2 = wn - s7 := ⟨_, rfl⟩
 rw [← hf1] at tw1
 rw [← hs7, ← hf2, ← hn2] at tw2
 have i1 : IntKind.i64.wrap ((bn : Int) + 2) = (f1 : Int) := by rw [show ((bn : Int) + 2) = (f1 : Int) from by omega]; exact IntWalk.i64_in _ (by omega)
 have i2 : IntKind.i64.wrap (2 + (sl : Int)) = (s7 : Int) := by rw [show (2 + (sl : Int)) = (s7 : Int) from by omega]; exact IntWalk.i64_in _ (by omega)
 have i3 : IntKind.i64.wrap ((bn : Int) + (s7 : Int)) = (f2 : Int) := by rw [show ((bn : Int) + (s7 : Int)) = (f2 : Int) from by omega]; exact IntWalk.i64_in _ (by omega)
 have i4 : IntKind.i64.wrap ((wn : Int) - (s7 : Int)) = (n2 : Int) := by rw [show ((wn : Int) - (s7 : Int)) = (n2 : Int) from by omega]; exact IntWalk.i64_in _ (by omega)
 have ht2 : Tryz.prog.underlying 91 = some (.map spK.k 3) := Tryz.underlying91
 have b0 := World.block_lt q0
 have b1 := World.block_lt k0
 have b2 := World.block_lt l0
 have b3 := World.block_lt g2
 dsimp only at b0 b1 b2 b3
 have m1' : tb ≠ w.heap.size := by omega
 have m2' : mb ≠ w.heap.size := by omega
 have m3 : w.heap.size + 1 ≠ w.heap.size := by omega
 have hb1 := (Below.refl w.heap.size w).alloc (Nat.le_refl _) spot0
 have hrow := heap_new w spot0
 unfold spot0 at hb1 hrow
 generalize T.parts[d] = q at *
 generalize T.marks[d] = mk at *
 clear hx h hel hml hmc e0 e1 e2 e4 e5 hfn hfj hbn hsl g0 g1 g3 g4 q3 q6
 rw [← hwn0, ← hs7, ← hf1, ← hf2, ← hn2]
 have tw : ∀ wr, Below w.heap.size w wr → ∀ f n : Nat, ((f = f1 ∧ n = sl) ∨ (f = f2 ∧ n = n2)) → Calls Tryz.prog 88 #[.pointer (some ⟨tb, 0, none⟩), .int .i64 f, .int .i64 n] wr fun e w' => ∃ a c, e = .returned (.slice a n c) ∧ Own intE w' wr.heap.size (.slice a n c) (subW T.words f n) ∧ Below wr.heap.size wr w' := fun wr hw f n h => by
  rcases h with ⟨rfl, rfl⟩ | ⟨rfl, rfl⟩
  ·exact tw1 wr hw
  ·exact tw2 wr hw
 clear tw1 tw2
 have TW := Lib.hid tw; clear tw
 have WD := Lib.hid wd; clear wd
 have HKEPT := Lib.hid hkept; clear hkept
 have HF1 := Lib.hid hf1; clear hf1
 have HS7 := Lib.hid hs7; clear hs7
 have HF2 := Lib.hid hf2; clear hf2
 have HN2 := Lib.hid hn2; clear hn2
 have HWN0 := Lib.hid hwn0; clear hwn0
 have HT2 := Lib.hid ht2; clear ht2
 have HB1 := Lib.hid hb1; clear hb1
 have HROW := Lib.hid hrow; clear hrow
 go_enter Tryz.func63, Tryz.ntmps63
 go_upto_region 2 with fail
 have hb2 := HB1.out.alloc HB1.out.size (.cells #[.int .i64 j, .int .i64 q.pc, .int .i64 bn, .int .i64 q.ret, .slice q.ta q.tn q.tc] 100)
 have hrow2 := row_alloc HROW.out (.cells #[.int .i64 j, .int .i64 q.pc, .int .i64 bn, .int .i64 q.ret, .slice q.ta q.tn q.tc] 100)
 have hpt := heap_new (w.alloc (.cells #[.int .i64 0, .int .i64 0, .int .i64 0, .bool false, .bool false, .int .i64 0, .bool false, .slice none 0 0, .slice none 0 0] 51)) (.cells #[.int .i64 j, .int .i64 q.pc, .int .i64 bn, .int .i64 q.ret, .slice q.ta q.tn q.tc] 100)
 rw [show (w.alloc (.cells #[.int .i64 0, .int .i64 0, .int .i64 0, .bool false, .bool false, .int .i64 0, .bool false, .slice none 0 0, .slice none 0 0] 51)).heap.size = w.heap.size + 1 from by simp] at hpt
 obtain ⟨W, hW⟩ : ∃ W, W = (w.alloc (.cells #[.int .i64 0, .int .i64 0, .int .i64 0, .bool false, .bool false, .int .i64 0, .bool false, .slice none 0 0, .slice none 0 0] 51)).alloc (.cells #[.int .i64 j, .int .i64 q.pc, .int .i64 bn, .int .i64 q.ret, .slice q.ta q.tn q.tc] 100) := ⟨_, rfl⟩
 rw [← hW] at hb2 hrow2 hpt ⊢
 have q0 := below_cell hb2 q0
 have q1 := below_cell hb2 q1
 have q2 := below_cell hb2 q2
 have q5 := below_cell hb2 q5
 have q7 := below_cell hb2 q7
 have l0 := below_cell hb2 l0
 have g2 := below_cell hb2 g2
 have p0 : W.cell? ⟨w.heap.size + 1, 0, none⟩ = some (.int .i64 j) := (row_cell hpt 0).1
 have p1 : W.cell? ⟨w.heap.size + 1, 1, none⟩ = some (.int .i64 q.pc) := (row_cell hpt 1).1
 have p2 : W.cell? ⟨w.heap.size + 1, 2, none⟩ = some (.int .i64 bn) := (row_cell hpt 2).1
 have p4 : W.cell? ⟨w.heap.size + 1, 4, none⟩ = some (.slice q.ta q.tn q.tc) := (row_cell hpt 4).1
 clear hW hpt HB1 HROW b0 b1 b2 b3 q4 k0 k1 k2 k3 k4
 have HB2 := Lib.hid hb2; clear hb2
 have HROW2 := Lib.hid hrow2; clear hrow2
 go_quiet (fail)
 have hq : Below W.heap.size W (W.drewN nq) := below_drewN (Below.refl _ _) nq
 have q0 := below_cell hq q0
 have q1 := below_cell hq q1
 have q2 := below_cell hq q2
 have q5 := below_cell hq q5
 have q7 := below_cell hq q7
 have l0 := below_cell hq l0
 have p0 := below_cell hq p0
 have p1 := below_cell hq p1
 have p2 := below_cell hq p2
 have p4 := below_cell hq p4
 have hb3 := HB2.out.trans (hq.mono HB2.out.size)
 have hrow3 := (Fr.of_below hq (fun _ => False)).heap HROW2.out (fun h => h)
 clear g2 hq HB2 HROW2
 generalize W.drewN nq = W3 at *
 have HKM := Lib.hid (HKEPT.out _ hb3)
 have HB3 := Lib.hid hb3; clear hb3
 have HROW3 := Lib.hid hrow3; clear hrow3
 go_wp2_with (refine look_run rfl (.tmp 33) (.tmp 35) 91 rfl rfl rfl HKM.out ?_)
 go_upto_region 5 with fail
 go_cut [] (fun wx => ∃ a7 c7 a8 n8 c8, wx.heap[w.heap.size]? = some (.cells #[.int .i64 j, .int .i64 q.pc, .int .i64 bn, .bool mk.leaving, .bool (decide (0 < q.tn)), .int .i64 x, .bool b, .slice a7 sl c7, .slice a8 n8 c8] 51) ∧ Own intE wx (w.heap.size + 1) (.slice a7 sl c7) (subW T.words f1 sl) ∧ Own intE wx (w.heap.size + 1) (.slice a8 n8 c8) (subW T.words f2 n2) ∧ Below w.heap.size w wx)
 case first =>
  have hcur := HB3.out.drew
  have hrow := HROW3.out
  have hlow : w.heap.size + 1 ≤ W3.drew.heap.size := heap_lt HROW3.out
  clear HKM HKEPT
  have hfr9 : ∀ (X : World) (v0 v1 v2 v3 v4 v5 v6 v7 v8 : Value), Fr (fun k => k = w.heap.size) X (((((((((X.setCell ⟨w.heap.size, 0, none⟩ v0).setCell ⟨w.heap.size, 1, none⟩ v1).setCell ⟨w.heap.size, 2, none⟩ v2).setCell ⟨w.heap.size, 3, none⟩ v3).setCell ⟨w.heap.size, 4, none⟩ v4).setCell ⟨w.heap.size, 5, none⟩ v5).setCell ⟨w.heap.size, 6, none⟩ v6).setCell ⟨w.heap.size, 7, none⟩ v7).setCell ⟨w.heap.size, 8, none⟩ v8) := fun X v0 v1 v2 v3 v4 v5 v6 v7 v8 => ((((((((((Fr.refl (fun k => k = w.heap.size) X).setCell (p := ⟨w.heap.size, 0, none⟩) (fun _ => rfl) v0).setCell (p := ⟨w.heap.size, 1, none⟩) (fun _ => rfl) v1).setCell (p := ⟨w.heap.size, 2, none⟩) (fun _ => rfl) v2).setCell (p := ⟨w.heap.size, 3, none⟩) (fun _ => rfl) v3).setCell (p := ⟨w.heap.size, 4, none⟩) (fun _ => rfl) v4).setCell (p := ⟨w.heap.size, 5, none⟩) (fun _ => rfl) v5).setCell (p := ⟨w.heap.size, 6, none⟩) (fun _ => rfl) v6).setCell (p := ⟨w.heap.size, 7, none⟩) (fun _ => rfl) v7).setCell (p := ⟨w.heap.size, 8, none⟩) (fun _ => rfl) v8)
  have hrow9 : ∀ (X : World) (v0 v1 v2 v3 v4 v5 v6 v7 v8 : Value), X.heap[w.heap.size]? = some (.cells #[.int .i64 0, .int .i64 0, .int .i64 0, .bool false, .bool false, .int .i64 0, .bool false, .slice none 0 0, .slice none 0 0] 51) → (((((((((X.setCell ⟨w.heap.size, 0, none⟩ v0).setCell ⟨w.heap.size, 1, none⟩ v1).setCell ⟨w.heap.size, 2, none⟩ v2).setCell ⟨w.heap.size, 3, none⟩ v3).setCell ⟨w.heap.size, 4, none⟩ v4).setCell ⟨w.heap.size, 5, none⟩ v5).setCell ⟨w.heap.size, 6, none⟩ v6).setCell ⟨w.heap.size, 7, none⟩ v7).setCell ⟨w.heap.size, 8, none⟩ v8).heap[w.heap.size]? = some (.cells #[v0, v1, v2, v3, v4, v5, v6, v7, v8] 51) := fun X v0 v1 v2 v3 v4 v5 v6 v7 v8 h => by
   have := (row_set (row_set (row_set (row_set (row_set (row_set (row_set (row_set (row_set h 0 v0) 1 v1) 2 v2) 3 v3) 4 v4) 5 v5) 6 v6) 7 v7) 8 v8)
   simpa using this
  go_region_held3 (fun w' => w'.cell? ⟨w.heap.size + 1, 0, none⟩ = some (.int .i64 j) ∧ w'.cell? ⟨w.heap.size + 1, 1, none⟩ = some (.int .i64 q.pc) ∧ w'.cell? ⟨w.heap.size + 1, 2, none⟩ = some (.int .i64 bn) ∧ w'.cell? ⟨w.heap.size + 1, 4, none⟩ = some (.slice q.ta q.tn q.tc) ∧ w'.cell? ⟨tb, 0, none⟩ = some (.slice a0 n0 m0) ∧ w'.cell? ⟨tb, 1, none⟩ = some (.slice a1 p.shapes.length m1) ∧ w'.cell? ⟨tb, 2, none⟩ = some (.slice (some ⟨bb, o, none⟩) p.funcs.length m2) ∧ w'.cell? ⟨tb, 5, none⟩ = some (.slice (some ⟨mb, 0, none⟩) T.marks.length m5) ∧ w'.cell? ⟨mb, d * 3, none⟩ = some (.bool mk.leaving)) (first | with_reducible exact ⟨p0, p1, p2, p4, q0, q1, q2, q5, l0⟩ | with_reducible exact ⟨(hfr9 _ _ _ _ _ _ _ _ _ _).cell p0 m3, (hfr9 _ _ _ _ _ _ _ _ _ _).cell p1 m3, (hfr9 _ _ _ _ _ _ _ _ _ _).cell p2 m3, (hfr9 _ _ _ _ _ _ _ _ _ _).cell p4 m3, (hfr9 _ _ _ _ _ _ _ _ _ _).cell q0 m1', (hfr9 _ _ _ _ _ _ _ _ _ _).cell q1 m1', (hfr9 _ _ _ _ _ _ _ _ _ _).cell q2 m1', (hfr9 _ _ _ _ _ _ _ _ _ _).cell q5 m1', (hfr9 _ _ _ _ _ _ _ _ _ _).cell l0 m2'⟩ | go_keep) (first | (go_at_call 88; refine (TW.out _ hcur _ _ (by first | exact .inl ⟨rfl, rfl⟩ | exact .inr ⟨rfl, rfl⟩)).mono ?_; rintro e wq ⟨a7, c7, rfl, hoX, hbq⟩; have hoX := hoX.base (B' := w.heap.size + 1) (fun k hk => Nat.le_trans hlow (hoX.lt hk).1); (try have hoS := hoS.below hbq); (try have hoO := hoO.below hbq); (first | (with_reducible have hoS : Own intE wq (w.heap.size + 1) (.slice a7 sl c7) (subW T.words f1 sl) := hoX) | (with_reducible have hoO : Own intE wq (w.heap.size + 1) (.slice a7 n2 c7) (subW T.words f2 n2) := hoX)); clear hoX; have hlow := Nat.le_trans hlow hbq.size; have p0 := below_cell hbq p0; have p1 := below_cell hbq p1; have p2 := below_cell hbq p2; have p4 := below_cell hbq p4; have q0 := below_cell hbq q0; have q1 := below_cell hbq q1; have q2 := below_cell hbq q2; have q5 := below_cell hbq q5; have l0 := below_cell hbq l0; have hcur := hcur.trans (hbq.mono hcur.size); have hrow := (Fr.of_below hbq (fun _ => False)).heap hrow (fun h => h); obtain ⟨⟨z0, z1, z2, z3, z4, z5, z6, z7, z8⟩, f0, f1', f2', f3, f4, f5, f6, f7, f8⟩ := nine_cells hrow) | (go_at_call 44; refine (WD.out _ hcur).mono ?_; rintro e wq ⟨rfl, hbq⟩; (try have hoS := hoS.below hbq); (try have hoO := hoO.below hbq); have hlow := Nat.le_trans hlow hbq.size; have p0 := below_cell hbq p0; have p1 := below_cell hbq p1; have p2 := below_cell hbq p2; have p4 := below_cell hbq p4; have q0 := below_cell hbq q0; have q1 := below_cell hbq q1; have q2 := below_cell hbq q2; have q5 := below_cell hbq q5; have l0 := below_cell hbq l0; have hcur := hcur.trans (hbq.mono hcur.size); have hrow := (Fr.of_below hbq (fun _ => False)).heap hrow (fun h => h); obtain ⟨⟨z0, z1, z2, z3, z4, z5, z6, z7, z8⟩, f0, f1', f2', f3, f4, f5, f6, f7, f8⟩ := nine_cells hrow))
  all_goals
   have hs9 := fun v0 v1 v2 v3 v4 v5 v6 v7 v8 => hoS.fr (hfr9 wq v0 v1 v2 v3 v4 v5 v6 v7 v8) (fun k hk e => by have h1 := (hoS.lt hk).1; have h2 : k = w.heap.size := e; omega)
   have ho9 := fun v0 v1 v2 v3 v4 v5 v6 v7 v8 => hoO.fr (hfr9 wq v0 v1 v2 v3 v4 v5 v6 v7 v8) (fun k hk e => by have h1 := (hoO.lt hk).1; have h2 : k = w.heap.size := e; omega)
   have HS9 := Lib.hid hs9; clear hs9
   have HO9 := Lib.hid ho9; clear ho9
   clear hoS hoO
   have hz := hcur.size
   have hfin := fun v0 v1 v2 v3 v4 v5 v6 v7 v8 => hrow9 wq v0 v1 v2 v3 v4 v5 v6 v7 v8 hrow
   have hbf := fun v0 v1 v2 v3 v4 v5 v6 v7 v8 => hcur.trans ((hfr9 wq v0 v1 v2 v3 v4 v5 v6 v7 v8).below hz (fun k hk => by omega))
   have HFIN := Lib.hid hfin; clear hfin
   have HBF := Lib.hid hbf; clear hbf
   clear hrow hcur hfr9 hrow9
   go_wp2_with fail
   go_meet
   first | exact ⟨_, _, _, _, _, HFIN.out _ _ _ _ _ _ _ _ _, HS9.out _ _ _ _ _ _ _ _ _, HO9.out _ _ _ _ _ _ _ _ _, HBF.out _ _ _ _ _ _ _ _ _⟩ | (case rel => exact ⟨_, _, _, _, _, HFIN.out _ _ _ _ _ _ _ _ _, HS9.out _ _ _ _ _ _ _ _ _, HO9.out _ _ _ _ _ _ _ _ _, HBF.out _ _ _ _ _ _ _ _ _⟩)
 case rest =>
  obtain ⟨a7, c7, a8, n8, c8, hr, hS, hO, hb⟩ := hcut
  have HB := Lib.hid hb; clear hb
  have HR := Lib.hid hr; clear hr
  have HS := Lib.hid hS; clear hS
  have HO := Lib.hid hO; clear hO
  go_wp2_with (with_reducible refine bodyPost_ret ?_ rfl ⟨a7, c7, a8, n8, c8, rfl, HS.out, HO.out, HB.out⟩; obtain ⟨⟨z0, z1, z2, z3, z4, z5, z6, z7, z8⟩, _⟩ := nine_cells HR.out; simp [results, Tryz.results63, go_sem, z0, z1, z2, z3, z4, z5, z6, z7, z8])
end Go.Proofs.YthkhgihjigmkoaaGreat.Tk
namespace Go.Proofs.YthkhgihjigmkoaaGreat.Tk
open Go.ChangeShapes Go.WideShapes Go.ChangeAt Go.RowKit Go.Maps
set_option maxRecDepth 100000 in
theorem enter_noM (w : World) (F : Nat → Prop) (tb : Nat) (p : TPrg) (T : Tk) (X : TB) (h : TaskAt w F tb p T X) (hp : PSmall p) (ht : TkOk T) (fn : Int) (a : Option Addr) (na c : Nat) (hna : na ≤ 3000) (ret : Int) (hno : fitsB p T fn na = false) :
  Calls Tryz.prog 20 #[.pointer (some ⟨tb, 0, none⟩), .int .i64 fn, .slice a na c, .int .i64 ret] w fun e w' => e = .returned (.bool false) ∧ Below w.heap.size w w' := by
 have fi := fits_any w F tb p T X h hp ht fn a na c hna
 rw [hno] at fi
 clear h hno
 have FI := Lib.hid fi; clear fi
 go_enter Tryz.func20, Tryz.ntmps20
 go_wp2_with fail
 refine FI.out.mono ?_
 rintro e w1 ⟨rfl, hb⟩
 have HB := Lib.hid hb
 clear hb
 go_wp2_with fail
 go_ret
 exact ⟨rfl, HB.out⟩
def K0 (B pc : Int) (ws : List Int) : Tk := ⟨B, ws, [⟨0, pc, 0, -1, none, 0, 0⟩], [⟨false, false, 0⟩]⟩
def K1 (B pc : Int) (ws : List Int) (lv : Bool) : Tk := ⟨B, ws, [⟨0, 2, 0, -1, none, 0, 0⟩, ⟨1, pc, 5, 0, none, 0, 0⟩], [⟨false, false, 0⟩, ⟨lv, false, 0⟩]⟩
theorem K0_ok (B pc : Int) (ws : List Int) (h : ws.length ≤ 100) : TkOk (K0 B pc ws) := ⟨by show 1 ≤ 1000; decide, by show 1 ≤ 1000; decide, by show ws.length ≤ 100000; omega, fun q hq => by
 have h1 : q ∈ ([⟨0, pc, 0, -1, none, 0, 0⟩] : List Part) := hq
 simp at h1
 rw [h1]
 exact ⟨Int.le_refl 0, show (0 : Int) ≤ 100000000 by decide⟩⟩
theorem K1_ok (B pc : Int) (ws : List Int) (lv : Bool) (h : ws.length ≤ 100) : TkOk (K1 B pc ws lv) := ⟨by show 2 ≤ 1000; decide, by show 2 ≤ 1000; decide, by show ws.length ≤ 100000; omega, fun q hq => by
 have h1 : q ∈ ([⟨0, 2, 0, -1, none, 0, 0⟩, ⟨1, pc, 5, 0, none, 0, 0⟩] : List Part) := hq
 simp at h1
 rcases h1 with h1 | h1 <;> rw [h1]
 ·exact ⟨Int.le_refl 0, show (0 : Int) ≤ 100000000 by decide⟩
 ·exact ⟨show (0 : Int) ≤ 5 by decide, show (5 : Int) ≤ 100000000 by decide⟩⟩
def callW (ws : List Int) (x y : Int) : List Int := (((((((ws.set 5 0).set 6 0).set 7 0).set 8 0).set 9 0).set 10 0).set 7 x).set 8 y
theorem callW_len (ws : List Int) (x y : Int) : (callW ws x y).length = ws.length := by unfold callW; simp
theorem callW_get (ws : List Int) (x y : Int) (h : 11 ≤ ws.length) : (callW ws x y)[7]? = some x ∧ (callW ws x y)[8]? = some y ∧ (callW ws x y)[3]? = ws[3]? ∧ (callW ws x y)[4]? = ws[4]? := by
 unfold callW
 refine ⟨?_, ?_, ?_, ?_⟩ <;> simp [List.getElem?_set] <;> omega
theorem usedC0 (B pc : Int) (ws : List Int) : usedN qC (K0 B pc ws) = (5 : Nat) := by
 show (0 : Int) + (wordsN qC 0 : Nat) = _
 have := qC_words0
 rw [show ((0 : Nat) : Int) = 0 from rfl] at this
 rw [this]; rfl
theorem enterC (B : Int) (ws : List Int) (x y : Int) : enterT (K0 B 2 ws) 5 (wordsN qC (1 : Nat)) 1 0 [x, y] = K1 B 0 (callW ws x y) false := by
 rw [qC_words1]
 rfl
section
variable {w : World} {F : Nat → Prop} {tb : Nat} {X : TB} {B : Int} {ws : List Int}
theorem slotC0 {pc : Int} (h : TaskAt w F tb qC (K0 B pc ws) X) (hl : 5 ≤ ws.length ∧ ws.length ≤ 100) (k : Nat) (hk : k < 3) (z : Int) (hz : ws[2 + k]? = some z) :
  Calls Tryz.prog 33 #[.pointer (some ⟨tb, 0, none⟩), .int .i64 k] w fun e w' => e = .returned (.int .i64 z) ∧ Below w.heap.size w w' := by
 have hin : 0 + (2 + k) < (K0 B pc ws).words.length := by show 0 + (2 + k) < ws.length; omega
 have := slot_in w F tb qC (K0 B pc ws) X h (K0_ok B pc ws hl.2) 0 rfl 0 (by decide) rfl 0 rfl k (by show (k : Int) < 3; omega) (by omega) hin
 have e : (K0 B pc ws).words[0 + (2 + k)]'hin = z := by
  have e : (K0 B pc ws).words[0 + (2 + k)]? = some z := by rw [Nat.zero_add]; exact hz
  rw [List.getElem?_eq_getElem hin] at e
  injection e
 rw [e] at this
 exact this
theorem slotC1 {pc : Int} {lv : Bool} (h : TaskAt w F tb qC (K1 B pc ws lv) X) (hl : 11 ≤ ws.length ∧ ws.length ≤ 100) (k : Nat) (hk : k < 4) (z : Int) (hz : ws[5 + (2 + k)]? = some z) :
  Calls Tryz.prog 33 #[.pointer (some ⟨tb, 0, none⟩), .int .i64 k] w fun e w' => e = .returned (.int .i64 z) ∧ Below w.heap.size w w' := by
 have hin : 5 + (2 + k) < (K1 B pc ws lv).words.length := by show 5 + (2 + k) < ws.length; omega
 have := slot_in w F tb qC (K1 B pc ws lv) X h (K1_ok B pc ws lv hl.2) 1 rfl 1 (by decide) rfl 5 rfl k (by show (k : Int) < 4; omega) (by omega) hin
 have e : (K1 B pc ws lv).words[5 + (2 + k)]'hin = z := by
  have e : (K1 B pc ws lv).words[5 + (2 + k)]? = some z := hz
  rw [List.getElem?_eq_getElem hin] at e
  injection e
 rw [e] at this
 exact this
theorem resC {x y : Int} {D : Nat → Prop} {c0 c1 c2 : Value} (hv : PrgVal w D (pC x y) c0 c1 c2) : ∃ a0 n0 m0 a1 n1 m1 bb o m2, c0 = .slice a0 n0 m0 ∧ c1 = .slice a1 n1 m1 ∧ c2 = .slice (some ⟨bb, o, none⟩) 2 m2 ∧ D bb ∧ w.cell? ⟨bb, o + 0 * 5 + 1, none⟩ = some (.int .i64 0) ∧ w.cell? ⟨bb, o + 1 * 5 + 1, none⟩ = some (.int .i64 1) := by
 obtain ⟨⟨a0, m0, e0, _⟩, ⟨a1, m1, e1, _⟩, a2, m2, e2, hf⟩ := hv
 obtain ⟨b, o, e, hd, _, _, _, _, _, _, k1, _, _, _, f1, _⟩ := hf 0 (by show 0 < 2; decide)
 obtain ⟨b', o', e', _, _, _, _, _, _, _, k1', _, _, _, f1', _⟩ := hf 1 (by show 1 < 2; decide)
 rw [e] at e'
 injection e' with e'
 injection e' with e1' e2'
 subst e1' e2' e e0 e1 e2
 refine ⟨_, _, _, _, _, _, b, o, m2, rfl, rfl, rfl, hd, ?_, ?_⟩
 ·rw [f1] at k1; exact k1
 ·rw [f1'] at k1'; exact k1'
theorem stepC_call (h : TaskAt w F tb qC (K0 B 2 ws) X) (hA : X.al = []) (hw : 11 ≤ ws.length ∧ ws.length ≤ 100) (D : Nat → Prop) (hD : ∀ k, D k → ¬ F k ∧ k < w.heap.size) (x y : Int) (hx : ws[3]? = some x) (hy : ws[4]? = some y) (c0 c1 c2 : Value) (ma : Option Addr) (hp : PV w D qC c0 c1 c2) (hv : PrgVal w D (pC x y) c0 c1 c2) :
  Calls Tryz.prog 30 #[.agg #[c0, c1, c2], .pointer ma, .pointer (some ⟨tb, 0, none⟩)] w (RunPost w F tb qC X (K1 B 0 (callW ws x y) false) (actV 0 0 0 0 0 false (.slice none 0 0))) := by
 obtain ⟨a0, n0, m0, a1, n1, m1, bb, o, m2, rfl, rfl, rfl, hbb, _, r1⟩ := resC hv
 refine step_run w F tb qC (K0 B 2 ws) X h (by show 1 ≤ 1000; decide) (by rw [hA]; rfl) (by show 1 ≤ 10000; decide) (by rw [hA]; exact Nat.zero_le _) [] ⟨0, 2, 0, -1, none, 0, 0⟩ rfl D hD (pC x y) _ _ _ ma hv 0 (by show 0 < 2; decide) rfl 2 rfl (by show 2 < 4; decide) ⟨21, 0, 1, 1⟩ rfl _ 0 0 0 0 0 false none 0 0 (fun wr hb => ?_)
 refine run_21 wr F tb qC (K0 B 2 ws) X (h.below hb) _ _ _ _ 0 1 1 _ 0 0 0 0 0 false none 0 0 (fun wq hq => ?_)
 have hbq := hb.trans (hq.mono hb.size)
 have hTq := h.below hbq
 have hpq := hp.below hbq
 have hDq : ∀ k, D k → ¬ F k ∧ k < wq.heap.size := fun k hk => ⟨(hD k hk).1, by have := (hD k hk).2; have := hbq.size; omega⟩
 refine calls_call wq F tb qC (K0 B 2 ws) X hTq _ _ _ 0 1 1 bb o 2 m2 (by decide) 1 (fun wx hx => below_cell (hbq.trans (hx.mono hbq.size)) r1) [x, y] (fun wx hx2 => ?_) 0 (by decide) _ (fun wx va vc hx2 hal => ?_)
 ·exact margs_any wx D (fun k hk => by have := (hDq k hk).2; have := hx2.size; omega) qC _ _ _ _ (hpq.below hx2) tb 21 0 1 1 1 (by decide) [x, y] rfl (by show 2 ≤ 1000; decide) (by decide) (fun wy hy2 k hk => by
   have hT := (hTq.below hx2).below hy2
   have hk2 : k = 0 ∨ k = 1 := by have : k < 2 := hk; omega
   rcases hk2 with rfl | rfl
   ·exact slotC0 hT ⟨by omega, hw.2⟩ 1 (by decide) x hx
   ·exact slotC0 hT ⟨by omega, hw.2⟩ 2 (by decide) y hy)
 ·obtain ⟨a, c, e, hal2⟩ := own_int hal
  have e : Value.slice va ([x, y] : List Int).length vc = .slice a ([x, y] : List Int).length c := e
  injection e with e1 _ e3
  subst e1 e3
  have hT := hTq.below hx2
  have := enter_yes wx F tb qC (K0 B 2 ws) X hT qC_small (K0_ok B 2 ws hw.2) (by show 1 < 1000; decide) 1 (by decide) 5 (usedC0 B 2 ws) (by rw [qC_words1]; exact hw.1) (fun k => (Value.slice va ([x, y] : List Int).length vc).ownBlock = some k) va [x, y] vc hal2 (fun k hk => ⟨fun hf => by have h1 := hT.flt k hf; have h2 := (hal.lt hk).1; have := hTq.flt k hf; omega, (hal.lt hk).2⟩) rfl (by show (2 : Int) ≤ 4; decide) (by show 2 ≤ 3000; decide) (by rw [hA]; exact Nat.zero_le _) 0
  rw [enterC] at this
  exact this
theorem stepC_callN (h : TaskAt w F tb qC (K0 B 2 ws) X) (hA : X.al = []) (hw : 5 ≤ ws.length ∧ ws.length < 11) (D : Nat → Prop) (hD : ∀ k, D k → ¬ F k ∧ k < w.heap.size) (x y : Int) (hx : ws[3]? = some x) (hy : ws[4]? = some y) (c0 c1 c2 : Value) (ma : Option Addr) (hp : PV w D qC c0 c1 c2) (hv : PrgVal w D (pC x y) c0 c1 c2) :
  Calls Tryz.prog 30 #[.agg #[c0, c1, c2], .pointer ma, .pointer (some ⟨tb, 0, none⟩)] w (RunPost w F tb qC X (K0 B 2 ws) (actV 8 0 0 11 0 false (.slice none 0 0))) := by
 obtain ⟨a0, n0, m0, a1, n1, m1, bb, o, m2, rfl, rfl, rfl, hbb, _, r1⟩ := resC hv
 have hok := K0_ok B 2 ws (by omega)
 refine step_run w F tb qC (K0 B 2 ws) X h (by show 1 ≤ 1000; decide) (by rw [hA]; rfl) (by show 1 ≤ 10000; decide) (by rw [hA]; exact Nat.zero_le _) [] ⟨0, 2, 0, -1, none, 0, 0⟩ rfl D hD (pC x y) _ _ _ ma hv 0 (by show 0 < 2; decide) rfl 2 rfl (by show 2 < 4; decide) ⟨21, 0, 1, 1⟩ rfl _ 8 0 0 11 0 false none 0 0 (fun wr hb => ?_)
 refine run_21 wr F tb qC (K0 B 2 ws) X (h.below hb) _ _ _ _ 0 1 1 _ 8 0 0 11 0 false none 0 0 (fun wq hq => ?_)
 have hbq := hb.trans (hq.mono hb.size)
 have hTq := h.below hbq
 have hpq := hp.below hbq
 have hDq : ∀ k, D k → ¬ F k ∧ k < wq.heap.size := fun k hk => ⟨(hD k hk).1, by have := (hD k hk).2; have := hbq.size; omega⟩
 refine calls_callN wq F tb qC (K0 B 2 ws) X hTq _ _ _ 0 1 1 bb o 2 m2 (by decide) 1 (fun wx hx => below_cell (hbq.trans (hx.mono hbq.size)) r1) [x, y] (fun wx hx2 => ?_) 0 (by decide) 11 (fun wx va vc hx2 hal => ?_) (fun wx hx2 => ?_)
 ·exact margs_any wx D (fun k hk => by have := (hDq k hk).2; have := hx2.size; omega) qC _ _ _ _ (hpq.below hx2) tb 21 0 1 1 1 (by decide) [x, y] rfl (by show 2 ≤ 1000; decide) (by decide) (fun wy hy2 k hk => by
   have hT := (hTq.below hx2).below hy2
   have hk2 : k = 0 ∨ k = 1 := by have : k < 2 := hk; omega
   rcases hk2 with rfl | rfl
   ·exact slotC0 hT ⟨by omega, by omega⟩ 1 (by decide) x hx
   ·exact slotC0 hT ⟨by omega, by omega⟩ 2 (by decide) y hy)
 ·have hT := hTq.below hx2
  have hno : fitsB qC (K0 B 2 ws) (1 : Nat) ([x, y] : List Int).length = false := by
   rw [fitsB_at (by decide), usedC0, qC_words1]
   have : decide (((5 : Nat) : Int) + ((6 : Nat) : Int) ≤ ((K0 B 2 ws).words.length : Nat)) = false := by
    rw [decide_eq_false_iff_not]
    show ¬ (((5 : Nat) : Int) + ((6 : Nat) : Int) ≤ ((ws.length : Nat) : Int))
    omega
   rw [this, Bool.and_false]
  refine (enter_noM wx F tb qC (K0 B 2 ws) X hT qC_small hok (1 : Nat) va ([x, y] : List Int).length vc (by show 2 ≤ 3000; decide) 0 hno).mono ?_
  rintro e w' ⟨rfl, hb'⟩
  exact ⟨rfl, hT.below hb', Fr.of_below hb' F⟩
 ·refine noRoom_any wx tb 1 11 (fun wy hy2 => ?_)
  have := need_any wy F tb qC (K0 B 2 ws) X (hx2.below hy2) qC_small hok (1 : Nat)
  rw [usedC0, qC_words1] at this
  exact this
end
end Go.Proofs.YthkhgihjigmkoaaGreat.Tk
namespace Go.Proofs.YthkhgihjigmkoaaGreat.Tk
open Go.ChangeShapes Go.WideShapes Go.ChangeAt Go.RowKit Go.Maps
noncomputable def keptV (kf : { x : Int × Int // i64B x.1 ∧ i64B x.2 } → Option Int) (d : Nat) : Int × Bool := by
 classical
 exact if h : i64B (d : Int) ∧ i64B 0 then (match kf ⟨((d : Int), (0 : Int)), h⟩ with | some v => (v, true) | none => (0, false)) else (0, false)
theorem keptV_or (kf : { x : Int × Int // i64B x.1 ∧ i64B x.2 } → Option Int) (d : Nat) (h : i64B (d : Int) ∧ i64B 0) : (kf ⟨((d : Int), (0 : Int)), h⟩ = some (keptV kf d).1 ∧ (keptV kf d).2 = true) ∨ (kf ⟨((d : Int), (0 : Int)), h⟩ = none ∧ (keptV kf d).1 = 0 ∧ (keptV kf d).2 = false) := by
 unfold keptV
 rw [dif_pos h]
 cases kf ⟨((d : Int), (0 : Int)), h⟩ <;> simp
def SPT (T : Tk) (kf : { x : Int × Int // i64B x.1 ∧ i64B x.2 } → Option Int) (d : Nat) (s : SpotV) : Prop := ∃ q m, T.parts[d]? = some q ∧ T.marks[d]? = some m ∧ s.x0 = q.fn ∧ s.x1 = q.pc ∧ s.x2 = q.base ∧ s.b3 = m.leaving ∧ s.b4 = decide (0 < q.tn) ∧ s.x5 = (keptV kf d).1 ∧ s.b6 = (keptV kf d).2
def Fits (p : TPrg) (T : Tk) (sl : Nat → Nat) : Prop := T.marks.length = T.parts.length ∧ ∀ d (hd : d < T.parts.length), ∃ j : Nat, ∃ hj : j < p.funcs.length, T.parts[d].fn = j ∧ p.funcs[j].slots = sl d ∧ ∃ bn : Nat, T.parts[d].base = bn ∧ bn + wordsN p j ≤ T.words.length
def slotsW (p : TPrg) (T : Tk) (sl : Nat → Nat) (d : Nat) : List Int := subW T.words ((T.parts[d]?.map Part.base).getD 0).toNat.succ.succ (sl d)
def objectsW (p : TPrg) (T : Tk) (sl : Nat → Nat) (d : Nat) : List Int := subW T.words (((T.parts[d]?.map Part.base).getD 0).toNat + (2 + sl d)) (wordsN p ((T.parts[d]?.map Part.fn).getD 0) - (2 + sl d))
theorem spots_any {w : World} {F : Nat → Prop} {tb : Nat} {p : TPrg} {T : Tk} {X : TB} (h : TaskAt w F tb p T X) (hp : PSmall p) (ht : TkOk T) (sl : Nat → Nat) (hf : Fits p T sl) (wr : World) (hw : Below w.heap.size w wr) (d : Nat) (hd : d < T.parts.length) :
  Calls Tryz.prog 63 #[.pointer (some ⟨tb, 0, none⟩), .int .i64 d] wr fun e w' => ∃ s : SpotV, SPT T X.kf d ⟨s.x0, s.x1, s.x2, s.b3, s.b4, s.x5, s.b6, s.a7, sl d, s.c7, s.a8, s.n8, s.c8⟩ ∧ e = .returned (.agg #[.int .i64 s.x0, .int .i64 s.x1, .int .i64 s.x2, .bool s.b3, .bool s.b4, .int .i64 s.x5, .bool s.b6, .slice s.a7 (sl d) s.c7, .slice s.a8 s.n8 s.c8]) ∧ Own intE w' (wr.heap.size + 1) (.slice s.a7 (sl d) s.c7) (slotsW p T sl d) ∧ Own intE w' (wr.heap.size + 1) (.slice s.a8 s.n8 s.c8) (objectsW p T sl d) ∧ Below wr.heap.size wr w' := by
 obtain ⟨hml, hall⟩ := hf
 obtain ⟨j, hj, hfj, hsl, bn, hbn, hfit⟩ := hall d hd
 have hI : i64B (d : Int) ∧ i64B 0 := by have := ht.1; constructor <;> unfold i64B <;> omega
 have e0 : T.parts[d]? = some T.parts[d] := List.getElem?_eq_getElem hd
 have e1 : T.marks[d]? = some (T.marks[d]'(by omega)) := List.getElem?_eq_getElem (by omega)
 refine (spot3_any wr F tb p T X (h.below hw) hp ht d hd (by omega) j hj hfj (sl d) hsl bn hbn hfit hI (keptV X.kf d).1 (keptV X.kf d).2 (keptV_or X.kf d hI)).mono ?_
 rintro e w' ⟨a7, c7, a8, n8, c8, rfl, h1, h2, hb⟩
 refine ⟨⟨j, T.parts[d].pc, bn, (T.marks[d]'(by omega)).leaving, decide (0 < T.parts[d].tn), (keptV X.kf d).1, (keptV X.kf d).2, a7, sl d, c7, a8, n8, c8⟩, ⟨T.parts[d], _, e0, e1, hfj.symm, rfl, hbn.symm, rfl, rfl, rfl, rfl⟩, rfl, ?_, ?_, hb⟩
 ·have e : slotsW p T sl d = subW T.words (bn + 2) (sl d) := by unfold slotsW; rw [e0]; simp [hbn]
  rw [e]; exact h1
 ·have e : objectsW p T sl d = subW T.words (bn + (2 + sl d)) (wordsN p j - (2 + sl d)) := by unfold objectsW; rw [e0]; simp [hbn, hfj]
  rw [e]; exact h2
def LifeAll (w : World) (p : TPrg) (T : Tk) (X : TB) (sl : Nat → Nat) (e : Ending) (w' : World) : Prop := ∃ (fr : List SpotV) (v av : Value) (g1 : Option Addr) (g2 g3 : Nat), e = .returned (.agg #[.int .i64 0, .int .i64 T.base, .int .i64 T.words.length, v, .slice g1 g2 g3, av, .bool false]) ∧ Own alarmE w' w.heap.size av X.al ∧ (∀ d (hd : d < fr.length), SPT T X.kf d fr[d]) ∧ Own spotE w' w.heap.size v fr ∧ fr.length = T.parts.length ∧ (∀ d (hd : d < fr.length), fr[d].n7 = sl d) ∧ RowsG w' w.heap.size sl fr (slotsW p T sl) (objectsW p T sl) ∧ Below w.heap.size w w'
theorem lifeAll_any (w : World) (F : Nat → Prop) (tb : Nat) (p : TPrg) (T : Tk) (X : TB) (h : TaskAt w F tb p T X) (hp : PSmall p) (ht : TkOk T) (sl : Nat → Nat) (hf : Fits p T sl) (hth : ∀ q ∈ T.parts, q.tn = 0) (hal : X.al.length ≤ 100000) :
  Calls Tryz.prog 21 #[.pointer (some ⟨tb, 0, none⟩)] w (LifeAll w p T X sl) :=
 life3_any w F tb p T X h ht.1 hth sl (slotsW p T sl) (objectsW p T sl) (SPT T X.kf) hal (fun wr hw d hd => spots_any h hp ht sl hf wr hw d hd)
end Go.Proofs.YthkhgihjigmkoaaGreat.Tk
