/- Walk: Task.Enter. Walks: stack.Fit, stack.New. Walks: words of a task; the stack's base. Walk: a frame as it is. -/
import Derived.Test.YthkhgihjigmkoaaGreatQAk
set_option linter.unusedVariables false
set_option linter.unusedSimpArgs false
namespace Go.Proofs.YthkhgihjigmkoaaGreat.Tk
open Go.ChangeShapes Go.WideShapes Go.ChangeAt Go.RowKit Go.Maps
/-- a task behind an Enter -/
def enterT (T : Tk) (un wn : Nat) (j : Nat) (ret : Int) (al : List Int) : Tk := ⟨T.base, (pushT T un wn j ret al).words, (pushT T un wn j ret al).parts, T.marks ++ [⟨false, false, 0⟩]⟩
set_option maxRecDepth 100000 in
set_option maxHeartbeats 3200000 in
theorem enter_yes (w : World) (F : Nat → Prop) (tb : Nat) (p : TPrg) (T : Tk) (X : TB) (h : TaskAt w F tb p T X) (hp : PSmall p) (ht : TkOk T) (hlen : T.parts.length < 1000) (j : Nat) (hj : j < p.funcs.length) (un : Nat) (hun : usedN p T = un) (hfit : un + wordsN p j ≤ T.words.length)
    (D : Nat → Prop) (a : Option Addr) (al : List Int) (c : Nat) (hal : IntSl w D a al) (hD : ∀ k, D k → ¬ F k ∧ k < w.heap.size) (hna : al.length = p.funcs[j].nargs) (hsl : (al.length : Int) ≤ p.funcs[j].slots) (hal2 : al.length ≤ 3000) (ret : Int) :
    Calls Tryz.prog 20 #[.pointer (some ⟨tb, 0, none⟩), .int .i64 j, .slice a al.length c, .int .i64 ret] w fun e w' => e = .returned (.bool true) ∧ ∃ F' X', TaskAt w' F' tb p (enterT T un (wordsN p j) j ret al) X' ∧ (∀ k, F' k → F k ∨ w.heap.size ≤ k) ∧ Fr F w w' := by
  have hfb : fitsB p T j al.length = true := by
    rw [fitsB_at hj, hna, hun]
    simp
    omega
  have fi := fits_any w F tb p T X h hp ht j a al.length c hal2
  rw [hfb] at fi
  have pu := fun wr (hw : Below w.heap.size w wr) => push_any wr F tb p T X (h.below hw) hp ht hlen j hj un hun hfit D a al c (hal.fr (Fr.of_below hw (fun _ => False)) (fun _ _ h => h)) (fun k hk => ⟨(hD k hk).1, Nat.lt_of_lt_of_le (hD k hk).2 hw.size⟩) hsl hal2 ret
  have hm := ht.2.1
  generalize wordsN p j = wn at *
  clear h hfb hfit hal hD hna hsl
  have FI := Lib.hid fi; clear fi
  have PU := Lib.hid pu; clear pu
  have HUN := Lib.hid hun; clear hun
  go_enter Tryz.func20, Tryz.ntmps20
  go_wp2_with fail
  refine FI.out.mono ?_
  rintro e w1 ⟨rfl, hb⟩
  have HB := Lib.hid hb
  clear hb
  go_wp2_with fail
  refine (PU.out w1 HB.out).mono ?_
  rintro e w2 ⟨rfl, F2, X2, hT2, hF2, hfr2⟩
  have q5 := hT2.cells.2.2.2.2.2.1
  have q6 := hT2.cells.2.2.2.2.2.2.1
  have em := stEnter_any w2 0 X2.mv T.marks hT2.marks (by omega)
  obtain ⟨a5, n5, c5, hmv⟩ := hT2.marks.slice
  rw [hmv] at em q5
  have EM := Lib.hid em; clear em
  have HT2 := Lib.hid hT2; clear hT2
  have HF2 := Lib.hid hF2; clear hF2
  have HFR2 := Lib.hid hfr2; clear hfr2
  have HMV := Lib.hid hmv; clear hmv
  go_wp2_with fail
  refine EM.out.mono ?_
  rintro e w3 ⟨v3, rfl, ho3, hb3⟩
  obtain ⟨a3, n3, c3, rfl⟩ := ho3.slice
  have hT3 := HT2.out.below hb3
  obtain ⟨hT4, hF4⟩ := hT3.mark ho3 (fun k hk => hk.elim (fun h => HT2.out.flt k h) (fun h => (HT2.out.out k h).2))
  have q5 := hT3.cells.2.2.2.2.2.1
  have q6 := hT3.cells.2.2.2.2.2.2.1
  have f5 : w3.frozen? ⟨tb, 5, none⟩ = false := (row_cell hT3.row 5).2
  have f6 : w3.frozen? ⟨tb, 6, none⟩ = false := (row_cell hT3.row 6).2
  have hs2 := HFR2.out.size
  have hfin : ∃ F' X', TaskAt ((w3.setCell ⟨tb, 5, none⟩ (.slice a3 n3 c3)).setCell ⟨tb, 6, none⟩ (.slice none 0 0)) F' tb p (enterT T un wn j ret al) X' ∧ (∀ k, F' k → F k ∨ w.heap.size ≤ k) ∧ Fr F w ((w3.setCell ⟨tb, 5, none⟩ (.slice a3 n3 c3)).setCell ⟨tb, 6, none⟩ (.slice none 0 0)) := by
    have hz1 := HB.out.size
    refine ⟨_, _, hT4, fun k hk => ?_, ?_⟩
    · rcases hk with h1 | h1
      · rcases HF2.out k h1 with h2 | h2
        · exact .inl h2
        · exact .inr (by omega)
      · have := (ho3.lt h1).1
        exact .inr (by omega)
    · have h1 := (Fr.of_below HB.out F).trans HFR2.out (fun k _ hk => hk)
      have h2 := h1.trans (Fr.of_below hb3 F) (fun k _ hk => hk)
      exact h2.trans hF4 (fun k hk1 hk2 => (HF2.out k hk2).elim (fun h => h) (fun h => absurd h (by omega)))
  clear hT3 hT4 hF4 ho3 hb3 hs2
  have HFIN := Lib.hid hfin; clear hfin
  go_wp2_with fail
  go_ret
  exact ⟨rfl, HFIN.out⟩
end Go.Proofs.YthkhgihjigmkoaaGreat.Tk
namespace Go.Proofs.YthkhgihjigmkoaaGreat.Tk
open Go.ChangeShapes Go.WideShapes Go.ChangeAt Go.RowKit Go.Maps
set_option maxRecDepth 100000 in
theorem fit_stay (w : World) (first need : Int) (h1 : 1 ≤ first) (h2 : need ≤ first) (h3 : first ≤ 1000000) :
    Calls Tryz.prog 45 #[.int .i64 first, .int .i64 need] w fun e w' => e = .returned (.int .i64 first) ∧ w = w' := by
  have n1 : ¬ first < 1 := by omega
  have n2 : ¬ first < need := by omega
  have n3 : ¬ 1000000 < first := by omega
  go_enter Tryz.func45, Tryz.ntmps45
  go_wp2_with fail
  go_loopw [0] (fun v wr => v = .int .i64 first ∧ wr = w) (fun _ _ => 0)
  case atStart => exact ⟨rfl, by first | rfl | trivial⟩
  case round =>
    obtain ⟨rfl, rfl⟩ := hrel
    go_wp2_with fail
    go_ret
    exact ⟨rfl, by first | rfl | trivial⟩
set_option maxRecDepth 100000 in
theorem fit24 (w : World) :
    Calls Tryz.prog 45 #[.int .i64 2, .int .i64 4] w fun e w' => e = .returned (.int .i64 4) ∧ w = w' := by
  go_enter Tryz.func45, Tryz.ntmps45
  go_wp2_with fail
  go_loopw [0] (fun v wr => (v = .int .i64 2 ∨ v = .int .i64 4) ∧ wr = w) (fun v _ => 4 - (intOf v).toNat)
  case atStart => exact ⟨.inl rfl, by first | rfl | trivial⟩
  case round =>
    obtain ⟨h, rfl⟩ := hrel
    rcases h with rfl | rfl
    · go_wp2_with fail
      go_roundw
      case rel => exact ⟨.inr (by first | rfl | go_num), by first | rfl | trivial⟩
      case measure => first | decide | (simp [intOf]; done) | (simp [intOf]; omega)
    · go_wp2_with fail
      go_ret
      exact ⟨rfl, by first | rfl | trivial⟩
set_option maxRecDepth 100000 in
theorem make_ints (w : World) (n : Nat) (hn : n ≤ 100000) : (Instr.makeSlice 23 (.int .i64 n) (.int .i64 n)).run Tryz.prog w = .ok (.slice (some ⟨w.heap.size, 0, none⟩) n n) (w.alloc (intRow (List.replicate n 0) 3)) := by
  obtain ⟨i0, hi, hz0, hz1, hz2⟩ := info_parts intE.info
  have h := run_makeSlice (P := Tryz.prog) (w := w) 23 3 i0 (.int .i64 0) Tryz.underlying23 hi hz0 .i64 .i64 (n : Int) (n : Int) (by omega) (Int.le_refl _) (by rw [hz1]; show (n : Int).toNat * 1 ≤ 16777216; omega) (by rw [hz2]; show (8 : Int) * (n : Int) ≤ 281474976710656; omega) (by omega)
  rw [h]
  simp only [Int.toNat_natCast, hz1]
  have e : madeCells (Value.int .i64 0).cells (n * intE.size) = ((List.replicate n (0 : Int)).map (Value.int .i64)).toArray := by
    show madeCells #[Value.int .i64 0] (n * 1) = _
    unfold madeCells
    apply Array.ext
    · simp
    · intro i h1 h2
      simp [Nat.mod_one]
  rw [e]
  rfl
set_option maxRecDepth 100000 in
set_option maxHeartbeats 1600000 in
theorem stNew_any (w : World) (serial : Nat) (hs : serial ≤ 100000) (n : Nat) (h1 : 1 ≤ n) (h2 : n ≤ 4096) :
    Calls Tryz.prog 46 #[.int .i64 serial, .int .i64 n] w fun e w' => ∃ sb wb, e = .returned (.pointer (some ⟨sb, 0, none⟩)) ∧ StAt w' sb wb (1073741824 + (serial : Int) * 8192) (List.replicate n 0) ∧ w.heap.size ≤ sb ∧ w.heap.size ≤ wb ∧ sb < w'.heap.size ∧ wb < w'.heap.size ∧ Below w.heap.size w w' := by
  have mk := fun w => make_ints w n (by omega)
  have n1 : ¬ (serial : Int) < 0 := by omega
  have n2 : ¬ (100000 : Int) < (serial : Int) := by omega
  have n3 : ¬ (n : Int) < 1 := by omega
  have n4 : ¬ (4096 : Int) < (n : Int) := by omega
  have m1 : (0 : Int) ≤ (serial : Int) := by omega
  have m2 : (serial : Int) ≤ 100000 := by omega
  have m3 : (1 : Int) ≤ (n : Int) := by omega
  have m4 : (n : Int) ≤ 4096 := by omega
  go_enter Tryz.func46, Tryz.ntmps46
  go_wp2_with fail
  go_ret
  have hr1 := heap_new (w.alloc (intRow (List.replicate n 0) 3)) (.cells #[.int .i64 (1073741824 + (serial : Int) * 8192), .slice (some ⟨w.heap.size, 0, none⟩) n n] 142)
  rw [show (w.alloc (intRow (List.replicate n 0) 3)).heap.size = w.heap.size + 1 from by simp] at hr1
  have hr2 := row_alloc (heap_new w (intRow (List.replicate n 0) 3)) (.cells #[.int .i64 (1073741824 + (serial : Int) * 8192), .slice (some ⟨w.heap.size, 0, none⟩) n n] 142)
  refine ⟨w.heap.size + 1, rfl, w.heap.size, ⟨?_, hr2⟩, ?_⟩
  · rw [List.length_replicate]
    exact hr1
  · refine ⟨by omega, Nat.le_refl _, by simp, by simp; omega, ((Below.refl _ _).alloc (Nat.le_refl _) _).alloc (by simp) _⟩
end Go.Proofs.YthkhgihjigmkoaaGreat.Tk
namespace Go.Proofs.YthkhgihjigmkoaaGreat.Tk
open Go.ChangeShapes Go.WideShapes Go.ChangeAt Go.RowKit Go.Maps
set_option maxRecDepth 100000 in
theorem base_any (w : World) (sb wb : Nat) (base : Int) (l : List Int) (h : StAt w sb wb base l) :
    Calls Tryz.prog 61 #[.pointer (some ⟨sb, 0, none⟩)] w fun e w' => e = .returned (.int .i64 base) ∧ w = w' := by
  obtain ⟨k0, k1⟩ := h.cells
  clear h
  go_enter Tryz.func61, Tryz.ntmps61
  go_wp2_with fail
  go_ret
  exact ⟨rfl, rfl⟩
set_option maxRecDepth 100000 in
set_option maxHeartbeats 1600000 in
theorem tkwords_any (w : World) (F : Nat → Prop) (tb : Nat) (p : TPrg) (T : Tk) (X : TB) (h : TaskAt w F tb p T X) (from_ n : Nat) (hn : from_ + n ≤ T.words.length) (hl : T.words.length ≤ 100000) :
    Calls Tryz.prog 88 #[.pointer (some ⟨tb, 0, none⟩), .int .i64 from_, .int .i64 n] w fun e w' => ∃ a c, e = .returned (.slice a n c) ∧ Below w.heap.size w w' := by
  have ld := fun wr (hw : Below w.heap.size w wr) (k : Nat) (hk : k < T.words.length) => stLoad_in wr X.sb X.wb T.base T.words (h.below hw).st k hk
  have hc := fun wr (hw : Below w.heap.size w wr) => (h.below hw).cells.2.2.2.1
  clear h
  have LD := Lib.hid ld; clear ld
  have HC := Lib.hid hc; clear hc
  go_enter Tryz.func88, Tryz.ntmps88
  go_wp2_with fail
  go_loopw [7, 12] (fun o i wr => ∃ k : Nat, ∃ l : List Int, k ≤ n ∧ i = .int .i64 k ∧ Own intE wr w.heap.size o l ∧ l.length = k ∧ Below w.heap.size w wr) (fun _ i _ => n - (intOf i).toNat)
  case atStart => exact ⟨0, [], Nat.zero_le _, rfl, Own.nil _ _ _, rfl, Below.refl _ _⟩
  case round =>
    obtain ⟨k, l, hk, rfl, ho, hlk, hB⟩ := hrel
    by_cases hlt : k < n
    · have q3 := HC.out wr hB
      have ld := LD.out wr hB (from_ + k) (by omega)
      obtain ⟨off, hoff⟩ : ∃ off, off = from_ + k := ⟨_, rfl⟩
      have i1 : IntKind.i64.wrap ((from_ : Int) + (k : Int)) = (off : Int) := by rw [show ((from_ : Int) + (k : Int)) = (off : Int) from by omega]; exact IntWalk.i64_in _ (by omega)
      generalize T.words[from_ + k] = x at *
      rw [← hoff] at ld
      have hlk2 : l.length ≤ 100000 := by omega
      have LD := Lib.hid ld; clear ld
      have HO := Lib.hid ho; clear ho
      have HB := Lib.hid hB; clear hB
      have HOFF := Lib.hid hoff; clear hoff
      have HLK := Lib.hid hlk; clear hlk
      obtain ⟨a0, n0, c0, rfl⟩ := HO.out.slice
      go_wp2_with fail
      refine LD.out.mono ?_
      rintro e w' ⟨rfl, rfl⟩
      go_wp2_with (at_builtin; refine append_own intE rfl (.tmp 26) (.tmp 28) rfl w.heap.size l [x] _ rfl (HO.out.alloc _) wr.heap.size 0 1 rfl (CellsAt.new _ _ _ _) ?c1 ?c2 ?_)
      case c1 => first | omega | (show l.length + 1 ≤ 100000000; omega)
      case c2 => have := HB.out.size; simp; omega
      intro v5 w5 ho5 hg5
      have hb5 := below_grown (HB.out.alloc HB.out.size _) (HO.out.alloc (.cells #[.int .i64 x] 3)) hg5 (by have := HB.out.size; simp; omega) (Nat.le_refl _)
      obtain ⟨a5, n5, c5, rfl⟩ := ho5.slice
      have hlen : (l ++ [x]).length = k + 1 := by rw [List.length_append, HLK.out]; rfl
      clear hg5
      have HO5 := Lib.hid ho5; clear ho5
      have HB5 := Lib.hid hb5; clear hb5
      have HLEN := Lib.hid hlen; clear hlen
      go_wp2_with fail
      go_roundw
      case rel => exact ⟨k + 1, _, by omega, by go_num, HO5.out, HLEN.out, HB5.out⟩
      case measure => simp [intOf]; omega
    · have hk' : k = n := by omega
      subst hk'
      obtain ⟨a0, c0, rfl, _⟩ := own_elems ho
      rw [hlk]
      clear ho hlk
      have HB := Lib.hid hB; clear hB
      go_wp2_with fail
      go_ret
      first | exact ⟨_, _, rfl, HB.out⟩ | exact ⟨⟨_, _, rfl⟩, HB.out⟩
end Go.Proofs.YthkhgihjigmkoaaGreat.Tk
namespace Go.Proofs.YthkhgihjigmkoaaGreat.Tk
open Go.ChangeShapes Go.WideShapes Go.ChangeAt Go.RowKit Go.Maps
theorem nine_cells {w : World} {q : Nat} {x0 x1 x2 x3 x4 x5 x6 x7 x8 : Value} {t : TypeId} (h : w.heap[q]? = some (.cells #[x0, x1, x2, x3, x4, x5, x6, x7, x8] t)) :
    (w.cell? ⟨q, 0, none⟩ = some x0 ∧ w.cell? ⟨q, 1, none⟩ = some x1 ∧ w.cell? ⟨q, 2, none⟩ = some x2 ∧ w.cell? ⟨q, 3, none⟩ = some x3 ∧ w.cell? ⟨q, 4, none⟩ = some x4 ∧ w.cell? ⟨q, 5, none⟩ = some x5 ∧ w.cell? ⟨q, 6, none⟩ = some x6 ∧ w.cell? ⟨q, 7, none⟩ = some x7 ∧ w.cell? ⟨q, 8, none⟩ = some x8) ∧ w.frozen? ⟨q, 0, none⟩ = false ∧ w.frozen? ⟨q, 1, none⟩ = false ∧ w.frozen? ⟨q, 2, none⟩ = false ∧ w.frozen? ⟨q, 3, none⟩ = false ∧ w.frozen? ⟨q, 4, none⟩ = false ∧ w.frozen? ⟨q, 5, none⟩ = false ∧ w.frozen? ⟨q, 6, none⟩ = false ∧ w.frozen? ⟨q, 7, none⟩ = false ∧ w.frozen? ⟨q, 8, none⟩ = false :=
  ⟨⟨(row_cell h 0).1, (row_cell h 1).1, (row_cell h 2).1, (row_cell h 3).1, (row_cell h 4).1, (row_cell h 5).1, (row_cell h 6).1, (row_cell h 7).1, (row_cell h 8).1⟩, (row_cell h 0).2, (row_cell h 1).2, (row_cell h 2).2, (row_cell h 3).2, (row_cell h 4).2, (row_cell h 5).2, (row_cell h 6).2, (row_cell h 7).2, (row_cell h 8).2⟩
def spot0 : Obj := .cells #[.int .i64 0, .int .i64 0, .int .i64 0, .bool false, .bool false, .int .i64 0, .bool false, .slice none 0 0, .slice none 0 0] 51
set_option maxRecDepth 100000 in
set_option maxHeartbeats 3200000 in
theorem spot_any (w : World) (F : Nat → Prop) (tb : Nat) (p : TPrg) (T : Tk) (X : TB) (h : TaskAt w F tb p T X) (hp : PSmall p) (ht : TkOk T) (d : Nat) (hd : d < T.parts.length) (hdm : d < T.marks.length) (j : Nat) (hj : j < p.funcs.length) (hfj : T.parts[d].fn = j) (sl : Nat) (hsl : p.funcs[j].slots = sl) (bn : Nat) (hbn : T.parts[d].base = bn) (hfit : bn + wordsN p j ≤ T.words.length) :
    Calls Tryz.prog 63 #[.pointer (some ⟨tb, 0, none⟩), .int .i64 d] w fun e w' => ∃ x0 x1 x2 b3 b4 x5 b6 a7 c7 a8 n8 c8, e = .returned (.agg #[.int .i64 x0, .int .i64 x1, .int .i64 x2, .bool b3, .bool b4, .int .i64 x5, .bool b6, .slice a7 sl c7, .slice a8 n8 c8]) ∧ Below w.heap.size w w' := by
  have hwn : 2 + sl ≤ wordsN p j := by rw [wordsN_at j hj]; unfold frameN; omega
  have hwl := ht.2.2.1
  have tw1 := fun wr (hw : Below w.heap.size w wr) => tkwords_any wr F tb p T X (h.below hw) (bn + 2) sl (by omega) hwl
  have tw2 := fun wr (hw : Below w.heap.size w wr) => tkwords_any wr F tb p T X (h.below hw) (bn + (2 + sl)) (wordsN p j - (2 + sl)) (by omega) hwl
  have wd := fun wr (hw : Below w.heap.size w wr) => words_any wr X.D (fun k hk => Nat.lt_of_lt_of_le (h.out k hk).2 hw.size) p X.c0 X.c1 X.c2 j (h.prg.below hw) hp
  obtain ⟨⟨a0, n0, m0, e0⟩, ⟨a1, m1, e1, _⟩, a2, m2, e2, hfn⟩ := h.prg
  rw [e0, e1, e2] at wd
  obtain ⟨q0, q1, q2, q3, q4, q5, q6, q7⟩ := h.cells
  rw [e0] at q0
  rw [e1] at q1
  rw [e2] at q2
  obtain ⟨a4, m4, e4, hel⟩ := h.pv
  rw [e4] at q4
  obtain ⟨b, rfl, _, k0, k1, k2, k3, k4⟩ := hel d hd
  obtain ⟨a5, m5, e5, hml⟩ := own_elems h.marks
  rw [e5] at q5
  obtain ⟨mb, rfl, _, hmc⟩ := hml d hdm
  have l0 : w.cell? ⟨mb, d * 3, none⟩ = some (.bool T.marks[d].leaving) := hmc 0 _ rfl
  obtain ⟨bb, o, rfl, _, y0, y1, y2, y3, y4, g0, g1, g2, g3, g4, hfv⟩ := hfn j hj
  obtain ⟨_, _, rfl, _⟩ := hfv
  obtain ⟨kn, hkept⟩ := h.kept
  rw [hsl] at g2
  rw [hfj] at k0
  rw [hbn] at k2
  have hd1 : (d : Int) < T.parts.length := by omega
  have hd2 : (d : Int) < T.marks.length := by omega
  have hd3 : (0 : Int) ≤ (d : Int) := by omega
  have hj0 : (0 : Int) ≤ (j : Int) := by omega
  have hj1 : (j : Int) < p.funcs.length := by omega
  have hdb : i64B (d : Int) := by unfold i64B; have := ht.1; omega
  have hz0 : i64B 0 := by unfold i64B; omega
  obtain ⟨wn, hwn0⟩ : ∃ wn, wn = wordsN p j := ⟨_, rfl⟩
  rw [← hwn0] at tw2 wd hwn hfit
  obtain ⟨f1, hf1⟩ : ∃ f1, f1 = bn + 2 := ⟨_, rfl⟩
  obtain ⟨s7, hs7⟩ : ∃ s7, s7 = 2 + sl := ⟨_, rfl⟩
  obtain ⟨f2, hf2⟩ : ∃ f2, f2 = bn + s7 := ⟨_, rfl⟩
  obtain ⟨n2, hn2⟩ : ∃ n2, n2 = wn - s7 := ⟨_, rfl⟩
  rw [← hf1] at tw1
  rw [← hs7, ← hf2, ← hn2] at tw2
  have i1 : IntKind.i64.wrap ((bn : Int) + 2) = (f1 : Int) := by rw [show ((bn : Int) + 2) = (f1 : Int) from by omega]; exact IntWalk.i64_in _ (by omega)
  have i2 : IntKind.i64.wrap (2 + (sl : Int)) = (s7 : Int) := by rw [show (2 + (sl : Int)) = (s7 : Int) from by omega]; exact IntWalk.i64_in _ (by omega)
  have i3 : IntKind.i64.wrap ((bn : Int) + (s7 : Int)) = (f2 : Int) := by rw [show ((bn : Int) + (s7 : Int)) = (f2 : Int) from by omega]; exact IntWalk.i64_in _ (by omega)
  have i4 : IntKind.i64.wrap ((wn : Int) - (s7 : Int)) = (n2 : Int) := by rw [show ((wn : Int) - (s7 : Int)) = (n2 : Int) from by omega]; exact IntWalk.i64_in _ (by omega)
  have ht2 : Tryz.prog.underlying 91 = some (.map spK.k 3) := Tryz.underlying91
  have b0 := World.block_lt q0
  have b1 := World.block_lt k0
  have b2 := World.block_lt l0
  have b3 := World.block_lt g2
  dsimp only at b0 b1 b2 b3
  have m1' : tb ≠ w.heap.size := by omega
  have m2' : mb ≠ w.heap.size := by omega
  have m3 : w.heap.size + 1 ≠ w.heap.size := by omega
  have hb1 := (Below.refl w.heap.size w).alloc (Nat.le_refl _) spot0
  have hrow := heap_new w spot0
  unfold spot0 at hb1 hrow
  generalize T.parts[d] = q at *
  generalize T.marks[d] = mk at *
  clear h hel hml hmc e0 e1 e2 e4 e5 hfn hfj hbn hsl g0 g1 g3 g4 q3 q6
  have tw : ∀ wr, Below w.heap.size w wr → ∀ f n : Nat, ((f = f1 ∧ n = sl) ∨ (f = f2 ∧ n = n2)) → Calls Tryz.prog 88 #[.pointer (some ⟨tb, 0, none⟩), .int .i64 f, .int .i64 n] wr fun e w' => ∃ a c, e = .returned (.slice a n c) ∧ Below wr.heap.size wr w' := fun wr hw f n h => by
    rcases h with ⟨rfl, rfl⟩ | ⟨rfl, rfl⟩
    · exact tw1 wr hw
    · exact tw2 wr hw
  clear tw1 tw2
  have TW := Lib.hid tw; clear tw
  have WD := Lib.hid wd; clear wd
  have HKEPT := Lib.hid hkept; clear hkept
  have HF1 := Lib.hid hf1; clear hf1
  have HS7 := Lib.hid hs7; clear hs7
  have HF2 := Lib.hid hf2; clear hf2
  have HN2 := Lib.hid hn2; clear hn2
  have HWN0 := Lib.hid hwn0; clear hwn0
  have HT2 := Lib.hid ht2; clear ht2
  have HB1 := Lib.hid hb1; clear hb1
  have HROW := Lib.hid hrow; clear hrow
  go_enter Tryz.func63, Tryz.ntmps63
  go_upto_region 2 with fail
  have hb2 := HB1.out.alloc HB1.out.size (.cells #[.int .i64 j, .int .i64 q.pc, .int .i64 bn, .int .i64 q.ret, .slice q.ta q.tn q.tc] 100)
  have hrow2 := row_alloc HROW.out (.cells #[.int .i64 j, .int .i64 q.pc, .int .i64 bn, .int .i64 q.ret, .slice q.ta q.tn q.tc] 100)
  have hpt := heap_new (w.alloc (.cells #[.int .i64 0, .int .i64 0, .int .i64 0, .bool false, .bool false, .int .i64 0, .bool false, .slice none 0 0, .slice none 0 0] 51)) (.cells #[.int .i64 j, .int .i64 q.pc, .int .i64 bn, .int .i64 q.ret, .slice q.ta q.tn q.tc] 100)
  rw [show (w.alloc (.cells #[.int .i64 0, .int .i64 0, .int .i64 0, .bool false, .bool false, .int .i64 0, .bool false, .slice none 0 0, .slice none 0 0] 51)).heap.size = w.heap.size + 1 from by simp] at hpt
  obtain ⟨W, hW⟩ : ∃ W, W = (w.alloc (.cells #[.int .i64 0, .int .i64 0, .int .i64 0, .bool false, .bool false, .int .i64 0, .bool false, .slice none 0 0, .slice none 0 0] 51)).alloc (.cells #[.int .i64 j, .int .i64 q.pc, .int .i64 bn, .int .i64 q.ret, .slice q.ta q.tn q.tc] 100) := ⟨_, rfl⟩
  rw [← hW] at hb2 hrow2 hpt ⊢
  have q0 := below_cell hb2 q0
  have q1 := below_cell hb2 q1
  have q2 := below_cell hb2 q2
  have q5 := below_cell hb2 q5
  have q7 := below_cell hb2 q7
  have l0 := below_cell hb2 l0
  have g2 := below_cell hb2 g2
  have p0 : W.cell? ⟨w.heap.size + 1, 0, none⟩ = some (.int .i64 j) := (row_cell hpt 0).1
  have p1 : W.cell? ⟨w.heap.size + 1, 1, none⟩ = some (.int .i64 q.pc) := (row_cell hpt 1).1
  have p2 : W.cell? ⟨w.heap.size + 1, 2, none⟩ = some (.int .i64 bn) := (row_cell hpt 2).1
  have p4 : W.cell? ⟨w.heap.size + 1, 4, none⟩ = some (.slice q.ta q.tn q.tc) := (row_cell hpt 4).1
  clear hW hpt HB1 HROW b0 b1 b2 b3 q4 k0 k1 k2 k3 k4
  have HB2 := Lib.hid hb2; clear hb2
  have HROW2 := Lib.hid hrow2; clear hrow2
  go_quiet (fail)
  have hq : Below W.heap.size W (W.drewN nq) := below_drewN (Below.refl _ _) nq
  have q0 := below_cell hq q0
  have q1 := below_cell hq q1
  have q2 := below_cell hq q2
  have q5 := below_cell hq q5
  have q7 := below_cell hq q7
  have l0 := below_cell hq l0
  have p0 := below_cell hq p0
  have p1 := below_cell hq p1
  have p2 := below_cell hq p2
  have p4 := below_cell hq p4
  have hb3 := HB2.out.trans (hq.mono HB2.out.size)
  have hrow3 := (Fr.of_below hq (fun _ => False)).heap HROW2.out (fun h => h)
  clear g2 hq HB2 HROW2
  generalize W.drewN nq = W3 at *
  have HKM := Lib.hid (HKEPT.out.below hb3)
  have HB3 := Lib.hid hb3; clear hb3
  have HROW3 := Lib.hid hrow3; clear hrow3
  go_wp2_with (refine look_none_ok rfl (.tmp 33) (.tmp 35) 91 3 rfl HKM.out HT2.out (zero_int _) ⟨((d : Int), (0 : Int)), hdb, hz0⟩ trivial rfl rfl rfl ?_)
  go_upto_region 5 with fail
  go_cut [] (fun wx => ∃ x0 x1 x2 b3 b4 x5 b6 a7 c7 a8 n8 c8, wx.heap[w.heap.size]? = some (.cells #[.int .i64 x0, .int .i64 x1, .int .i64 x2, .bool b3, .bool b4, .int .i64 x5, .bool b6, .slice a7 sl c7, .slice a8 n8 c8] 51) ∧ Below w.heap.size w wx)
  case first =>
    have hcur := HB3.out.drew
    have hrow := HROW3.out
    clear HKM HKEPT
    have hfr9 : ∀ (X : World) (v0 v1 v2 v3 v4 v5 v6 v7 v8 : Value), Fr (fun k => k = w.heap.size) X (((((((((X.setCell ⟨w.heap.size, 0, none⟩ v0).setCell ⟨w.heap.size, 1, none⟩ v1).setCell ⟨w.heap.size, 2, none⟩ v2).setCell ⟨w.heap.size, 3, none⟩ v3).setCell ⟨w.heap.size, 4, none⟩ v4).setCell ⟨w.heap.size, 5, none⟩ v5).setCell ⟨w.heap.size, 6, none⟩ v6).setCell ⟨w.heap.size, 7, none⟩ v7).setCell ⟨w.heap.size, 8, none⟩ v8) := fun X v0 v1 v2 v3 v4 v5 v6 v7 v8 => ((((((((((Fr.refl (fun k => k = w.heap.size) X).setCell (p := ⟨w.heap.size, 0, none⟩) (fun _ => rfl) v0).setCell (p := ⟨w.heap.size, 1, none⟩) (fun _ => rfl) v1).setCell (p := ⟨w.heap.size, 2, none⟩) (fun _ => rfl) v2).setCell (p := ⟨w.heap.size, 3, none⟩) (fun _ => rfl) v3).setCell (p := ⟨w.heap.size, 4, none⟩) (fun _ => rfl) v4).setCell (p := ⟨w.heap.size, 5, none⟩) (fun _ => rfl) v5).setCell (p := ⟨w.heap.size, 6, none⟩) (fun _ => rfl) v6).setCell (p := ⟨w.heap.size, 7, none⟩) (fun _ => rfl) v7).setCell (p := ⟨w.heap.size, 8, none⟩) (fun _ => rfl) v8)
    have hrow9 : ∀ (X : World) (v0 v1 v2 v3 v4 v5 v6 v7 v8 : Value), X.heap[w.heap.size]? = some (.cells #[.int .i64 0, .int .i64 0, .int .i64 0, .bool false, .bool false, .int .i64 0, .bool false, .slice none 0 0, .slice none 0 0] 51) → (((((((((X.setCell ⟨w.heap.size, 0, none⟩ v0).setCell ⟨w.heap.size, 1, none⟩ v1).setCell ⟨w.heap.size, 2, none⟩ v2).setCell ⟨w.heap.size, 3, none⟩ v3).setCell ⟨w.heap.size, 4, none⟩ v4).setCell ⟨w.heap.size, 5, none⟩ v5).setCell ⟨w.heap.size, 6, none⟩ v6).setCell ⟨w.heap.size, 7, none⟩ v7).setCell ⟨w.heap.size, 8, none⟩ v8).heap[w.heap.size]? = some (.cells #[v0, v1, v2, v3, v4, v5, v6, v7, v8] 51) := fun X v0 v1 v2 v3 v4 v5 v6 v7 v8 h => by
      have := (row_set (row_set (row_set (row_set (row_set (row_set (row_set (row_set (row_set h 0 v0) 1 v1) 2 v2) 3 v3) 4 v4) 5 v5) 6 v6) 7 v7) 8 v8)
      simpa using this
    go_region_held3 (fun w' => w'.cell? ⟨w.heap.size + 1, 0, none⟩ = some (.int .i64 j) ∧ w'.cell? ⟨w.heap.size + 1, 1, none⟩ = some (.int .i64 q.pc) ∧ w'.cell? ⟨w.heap.size + 1, 2, none⟩ = some (.int .i64 bn) ∧ w'.cell? ⟨w.heap.size + 1, 4, none⟩ = some (.slice q.ta q.tn q.tc) ∧ w'.cell? ⟨tb, 0, none⟩ = some (.slice a0 n0 m0) ∧ w'.cell? ⟨tb, 1, none⟩ = some (.slice a1 p.shapes.length m1) ∧ w'.cell? ⟨tb, 2, none⟩ = some (.slice (some ⟨bb, o, none⟩) p.funcs.length m2) ∧ w'.cell? ⟨tb, 5, none⟩ = some (.slice (some ⟨mb, 0, none⟩) T.marks.length m5) ∧ w'.cell? ⟨mb, d * 3, none⟩ = some (.bool mk.leaving)) (first | with_reducible exact ⟨p0, p1, p2, p4, q0, q1, q2, q5, l0⟩ | with_reducible exact ⟨(hfr9 _ _ _ _ _ _ _ _ _ _).cell p0 m3, (hfr9 _ _ _ _ _ _ _ _ _ _).cell p1 m3, (hfr9 _ _ _ _ _ _ _ _ _ _).cell p2 m3, (hfr9 _ _ _ _ _ _ _ _ _ _).cell p4 m3, (hfr9 _ _ _ _ _ _ _ _ _ _).cell q0 m1', (hfr9 _ _ _ _ _ _ _ _ _ _).cell q1 m1', (hfr9 _ _ _ _ _ _ _ _ _ _).cell q2 m1', (hfr9 _ _ _ _ _ _ _ _ _ _).cell q5 m1', (hfr9 _ _ _ _ _ _ _ _ _ _).cell l0 m2'⟩ | go_keep) (first | (go_at_call 88; refine (TW.out _ hcur _ _ (by first | exact .inl ⟨rfl, rfl⟩ | exact .inr ⟨rfl, rfl⟩)).mono ?_; rintro e wq ⟨a7, c7, rfl, hbq⟩; have p0 := below_cell hbq p0; have p1 := below_cell hbq p1; have p2 := below_cell hbq p2; have p4 := below_cell hbq p4; have q0 := below_cell hbq q0; have q1 := below_cell hbq q1; have q2 := below_cell hbq q2; have q5 := below_cell hbq q5; have l0 := below_cell hbq l0; have hcur := hcur.trans (hbq.mono hcur.size); have hrow := (Fr.of_below hbq (fun _ => False)).heap hrow (fun h => h); obtain ⟨⟨z0, z1, z2, z3, z4, z5, z6, z7, z8⟩, f0, f1', f2', f3, f4, f5, f6, f7, f8⟩ := nine_cells hrow) | (go_at_call 44; refine (WD.out _ hcur).mono ?_; rintro e wq ⟨rfl, hbq⟩; have p0 := below_cell hbq p0; have p1 := below_cell hbq p1; have p2 := below_cell hbq p2; have p4 := below_cell hbq p4; have q0 := below_cell hbq q0; have q1 := below_cell hbq q1; have q2 := below_cell hbq q2; have q5 := below_cell hbq q5; have l0 := below_cell hbq l0; have hcur := hcur.trans (hbq.mono hcur.size); have hrow := (Fr.of_below hbq (fun _ => False)).heap hrow (fun h => h); obtain ⟨⟨z0, z1, z2, z3, z4, z5, z6, z7, z8⟩, f0, f1', f2', f3, f4, f5, f6, f7, f8⟩ := nine_cells hrow))
    all_goals
      have hz := hcur.size
      have hfin := fun v0 v1 v2 v3 v4 v5 v6 v7 v8 => hrow9 wq v0 v1 v2 v3 v4 v5 v6 v7 v8 hrow
      have hbf := fun v0 v1 v2 v3 v4 v5 v6 v7 v8 => hcur.trans ((hfr9 wq v0 v1 v2 v3 v4 v5 v6 v7 v8).below hz (fun k hk => by omega))
      have HFIN := Lib.hid hfin; clear hfin
      have HBF := Lib.hid hbf; clear hbf
      clear hrow hcur hfr9 hrow9
      go_wp2_with fail
      go_meet
      first | exact ⟨_, _, _, _, _, _, _, _, _, _, _, _, HFIN.out _ _ _ _ _ _ _ _ _, HBF.out _ _ _ _ _ _ _ _ _⟩ | (case rel => exact ⟨_, _, _, _, _, _, _, _, _, _, _, _, HFIN.out _ _ _ _ _ _ _ _ _, HBF.out _ _ _ _ _ _ _ _ _⟩)
  case rest =>
    obtain ⟨x0, x1, x2, b3, b4, x5, b6, a7, c7, a8, n8, c8, hr, hb⟩ := hcut
    have HB := Lib.hid hb; clear hb
    have HR := Lib.hid hr; clear hr
    go_wp2_with (with_reducible refine bodyPost_ret ?_ rfl ⟨x0, x1, x2, b3, b4, x5, b6, a7, c7, a8, n8, c8, rfl, HB.out⟩; obtain ⟨⟨z0, z1, z2, z3, z4, z5, z6, z7, z8⟩, _⟩ := nine_cells HR.out; simp [results, Tryz.results63, go_sem, z0, z1, z2, z3, z4, z5, z6, z7, z8])
end Go.Proofs.YthkhgihjigmkoaaGreat.Tk
