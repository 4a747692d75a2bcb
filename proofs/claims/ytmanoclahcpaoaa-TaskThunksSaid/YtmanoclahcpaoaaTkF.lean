/- Walks: what is read of a task. -/
import Derived.Test.YtmanoclahcpaoaaTkE
namespace Go.Proofs.Ytmanoclahcpaoaa
open Go.ChangeShapes Go.WideShapes Go.ChangeAt Go.RowKit Go.Maps

def TkOk (T : Tk) : Prop := T.parts.length ≤ 1000 ∧ T.marks.length ≤ 1000 ∧ T.words.length ≤ 100000 ∧ ∀ q ∈ T.parts, 0 ≤ q.base ∧ q.base ≤ 100000000
theorem TaskAt.cells {w : World} {F : Nat → Prop} {tb : Nat} {p : TPrg} {T : Tk} {X : TB} (h : TaskAt w F tb p T X) :
    w.cell? ⟨tb, 0, none⟩ = some X.c0 ∧ w.cell? ⟨tb, 1, none⟩ = some X.c1 ∧ w.cell? ⟨tb, 2, none⟩ = some X.c2 ∧ w.cell? ⟨tb, 3, none⟩ = some (.pointer (some ⟨X.sb, 0, none⟩)) ∧ w.cell? ⟨tb, 4, none⟩ = some X.pv ∧ w.cell? ⟨tb, 5, none⟩ = some X.mv ∧ w.cell? ⟨tb, 6, none⟩ = some (.slice none 0 0) ∧ w.cell? ⟨tb, 7, none⟩ = some (.map (some X.kb)) :=
  ⟨(row_cell h.row 0).1, (row_cell h.row 1).1, (row_cell h.row 2).1, (row_cell h.row 3).1, (row_cell h.row 4).1, (row_cell h.row 5).1, (row_cell h.row 6).1, (row_cell h.row 7).1⟩
/-- the slice of parts, and a part's cells -/
theorem TaskAt.pv {w : World} {F : Nat → Prop} {tb : Nat} {p : TPrg} {T : Tk} {X : TB} (h : TaskAt w F tb p T X) : ∃ a c, X.pv = .slice a T.parts.length c ∧ ∀ j (hj : j < T.parts.length), ∃ b, a = some ⟨b, 0, none⟩ ∧ X.pv.ownBlock = some b ∧
    w.cell? ⟨b, j * 5, none⟩ = some (.int .i64 T.parts[j].fn) ∧ w.cell? ⟨b, j * 5 + 1, none⟩ = some (.int .i64 T.parts[j].pc) ∧ w.cell? ⟨b, j * 5 + 2, none⟩ = some (.int .i64 T.parts[j].base) ∧ w.cell? ⟨b, j * 5 + 3, none⟩ = some (.int .i64 T.parts[j].ret) ∧ w.cell? ⟨b, j * 5 + 4, none⟩ = some (.slice T.parts[j].ta T.parts[j].tn T.parts[j].tc) := by
  obtain ⟨a, c, h1, h2⟩ := own_elems h.parts
  refine ⟨a, c, h1, fun j hj => ?_⟩
  obtain ⟨b, h3, h4, h5⟩ := h2 j hj
  exact ⟨b, h3, h4, h5 0 _ rfl, h5 1 _ rfl, h5 2 _ rfl, h5 3 _ rfl, h5 4 _ rfl⟩
set_option maxRecDepth 100000 in
theorem depth_any (w : World) (F : Nat → Prop) (tb : Nat) (p : TPrg) (T : Tk) (X : TB) (h : TaskAt w F tb p T X) :
    Calls Try.prog 12 #[.pointer (some ⟨tb, 0, none⟩)] w fun e w' => e = .returned (.int .i64 T.parts.length) ∧ w = w' := by
  obtain ⟨_, _, _, _, k4, _⟩ := h.cells
  obtain ⟨a, c, hp, _⟩ := h.pv
  rw [hp] at k4
  clear hp h
  go_enter Try.func12, Try.ntmps12
  go_wp2_with fail
  go_ret
  exact ⟨rfl, rfl⟩
set_option maxRecDepth 100000 in
theorem cap_any (w : World) (F : Nat → Prop) (tb : Nat) (p : TPrg) (T : Tk) (X : TB) (h : TaskAt w F tb p T X) :
    Calls Try.prog 9 #[.pointer (some ⟨tb, 0, none⟩)] w fun e w' => e = .returned (.int .i64 T.words.length) ∧ w = w' := by
  obtain ⟨_, _, _, k3, _⟩ := h.cells
  have ws := stWords_any w X.sb X.wb T.base T.words h.st
  clear h
  have WS := Lib.hid ws; clear ws
  go_enter Try.func9, Try.ntmps9
  go_wp2_with fail
  refine WS.out.mono ?_
  rintro e w' ⟨rfl, rfl⟩
  go_wp2_with fail
  go_ret
  exact ⟨rfl, rfl⟩
set_option maxRecDepth 100000 in
theorem top_nil (w : World) (F : Nat → Prop) (tb : Nat) (p : TPrg) (T : Tk) (X : TB) (h : TaskAt w F tb p T X) (h0 : T.parts.length = 0) :
    Calls Try.prog 30 #[.pointer (some ⟨tb, 0, none⟩)] w fun e w' => e = .returned (.pointer none) ∧ w = w' := by
  have dp := depth_any w F tb p T X h
  rw [h0] at dp
  clear h0 h
  have DP := Lib.hid dp; clear dp
  go_enter Try.func30, Try.ntmps30
  go_wp2_with fail
  refine DP.out.mono ?_
  rintro e w' ⟨rfl, rfl⟩
  go_wp2_with fail
  go_ret
  exact ⟨rfl, rfl⟩
set_option maxRecDepth 100000 in
theorem top_some (w : World) (F : Nat → Prop) (tb : Nat) (p : TPrg) (T : Tk) (X : TB) (h : TaskAt w F tb p T X) (hn : T.parts.length ≤ 1000) (n : Nat) (h0 : T.parts.length = n + 1) (b : Nat) (hb : X.pv.ownBlock = some b) :
    Calls Try.prog 30 #[.pointer (some ⟨tb, 0, none⟩)] w fun e w' => e = .returned (.pointer (some ⟨b, n * 5, none⟩)) ∧ ∃ m, w' = w.drewN m := by
  have dp := depth_any w F tb p T X h
  obtain ⟨_, _, _, _, k4, _⟩ := h.cells
  obtain ⟨a, c, hp, hel⟩ := h.pv
  obtain ⟨b2, rfl, hb2, hrest⟩ := hel n (by omega)
  have hbb : b2 = b := by rw [hb] at hb2; injection hb2 with e; exact e.symm
  subst hbb
  rw [hp, h0] at k4
  rw [h0] at dp
  have i1 : IntKind.i64.wrap (((n + 1 : Nat) : Int) - 1) = (n : Int) := by rw [show (((n + 1 : Nat) : Int) - 1) = (n : Int) from by omega]; exact IntWalk.i64_in _ (by omega)
  have n0 : (((n + 1 : Nat) : Int) == 0) = false := by rw [beq_eq_false_iff_ne]; omega
  have n1 : (n : Int) < ((n + 1 : Nat) : Int) := by omega
  have n2 : (0 : Int) ≤ (n : Int) := by omega
  obtain ⟨N, hN⟩ : ∃ N, N = n + 1 := ⟨_, rfl⟩
  rw [← hN] at i1 n0 n1 dp k4
  clear hrest hp hel h h0 hn hb hb2 hN
  have DP := Lib.hid dp; clear dp
  go_enter Try.func30, Try.ntmps30
  go_wp2_with fail
  refine DP.out.mono ?_
  rintro e w' ⟨rfl, rfl⟩
  go_upto_region 3 with fail
  go_quiet (fail)
  go_wp2_with fail
  go_ret
  exact ⟨rfl, _, rfl⟩
theorem usedN_nil {p : TPrg} {T : Tk} (h : T.parts.length = 0) : usedN p T = 0 := by
  unfold usedN
  rw [List.length_eq_zero_iff.1 h]
  rfl
theorem usedN_last {p : TPrg} {T : Tk} {n : Nat} (h : T.parts.length = n + 1) : usedN p T = (T.parts[n]'(by omega)).base + wordsN p (T.parts[n]'(by omega)).fn := by
  unfold usedN
  have hl : T.parts.getLast? = some (T.parts[n]'(by omega)) := by
    rw [List.getLast?_eq_getElem?]
    have e : T.parts.length - 1 = n := by omega
    rw [e]
    exact List.getElem?_eq_getElem _
  rw [hl]
theorem usedN_le {p : TPrg} {T : Tk} (hp : PSmall p) (ht : TkOk T) : 0 ≤ usedN p T ∧ usedN p T ≤ 110000000 := by
  unfold usedN
  cases hq : T.parts.getLast? with
  | none => simp
  | some q =>
    have h1 := ht.2.2.2 q (List.mem_of_getLast? hq)
    have h2 := wordsN_le hp q.fn
    simp only
    omega
set_option maxRecDepth 100000 in
set_option maxHeartbeats 1600000 in
theorem used_any (w : World) (F : Nat → Prop) (tb : Nat) (p : TPrg) (T : Tk) (X : TB) (h : TaskAt w F tb p T X) (hp : PSmall p) (ht : TkOk T) :
    Calls Try.prog 13 #[.pointer (some ⟨tb, 0, none⟩)] w fun e w' => e = .returned (.int .i64 (usedN p T)) ∧ Below w.heap.size w w' := by
  by_cases h0 : T.parts.length = 0
  · rw [usedN_nil h0]
    have tp := top_nil w F tb p T X h h0
    clear h0 h
    have TP := Lib.hid tp; clear tp
    go_enter Try.func13, Try.ntmps13
    go_wp2_with fail
    refine TP.out.mono ?_
    rintro e w' ⟨rfl, rfl⟩
    go_wp2_with fail
    go_ret
    exact ⟨rfl, Below.refl _ _⟩
  · obtain ⟨n, hn⟩ : ∃ n, T.parts.length = n + 1 := ⟨T.parts.length - 1, by omega⟩
    have hlt : n < T.parts.length := by omega
    obtain ⟨a, c, hpv, hel⟩ := h.pv
    obtain ⟨b, rfl, hb, k0, k1, k2, k3, k4⟩ := hel n hlt
    have hbd := usedN_le hp ht
    rw [usedN_last hn] at hbd ⊢
    have tp := top_some w F tb p T X h ht.1 n hn b hb
    obtain ⟨q0, q1, q2, q3, q4, q5, q6, q7⟩ := h.cells
    have hprg := h.prg
    obtain ⟨⟨a0, n0, m0, e0⟩, ⟨a1, m1, e1, _⟩, a2, m2, e2, _⟩ := hprg
    have wd : ∀ wr, Below w.heap.size w wr → Calls Try.prog 23 #[.agg #[X.c0, X.c1, X.c2], .int .i64 T.parts[n].fn] wr fun e w' => e = .returned (.int .i64 (wordsN p T.parts[n].fn)) ∧ Below wr.heap.size wr w' := fun wr hw => words_any wr X.D (fun k hk => Nat.lt_of_lt_of_le (h.out k hk).2 hw.size) p X.c0 X.c1 X.c2 T.parts[n].fn (h.prg.below hw) hp
    rw [e0, e1, e2] at wd
    rw [e0] at q0
    rw [e1] at q1
    rw [e2] at q2
    have i1 : IntKind.i64.wrap (T.parts[n].base + wordsN p T.parts[n].fn) = T.parts[n].base + wordsN p T.parts[n].fn := IntWalk.i64_in _ (by omega)
    generalize wordsN p T.parts[n].fn = wn at *
    generalize T.parts[n] = q at *
    clear k1 k3 k4 q3 q4 q5 q6 q7 hel hpv hb h0 hn h hp ht hbd e0 e1 e2 hlt
    have TP := Lib.hid tp; clear tp
    have WD := Lib.hid wd; clear wd
    go_enter Try.func13, Try.ntmps13
    go_wp2_with fail
    refine TP.out.mono ?_
    rintro e w' ⟨rfl, m, rfl⟩
    go_upto_region 4 with fail
    have hB0 : Below w.heap.size w (w.drewN m) := below_drewN (Below.refl _ _) m
    have k0 := below_cell hB0 k0
    have k2 := below_cell hB0 k2
    have q0 := below_cell hB0 q0
    have q1 := below_cell hB0 q1
    have q2 := below_cell hB0 q2
    generalize w.drewN m = w1 at *
    have K0 := fun W : BelowW w1 => W.cell k0
    have K2 := fun W : BelowW w1 => W.cell k2
    have Q0 := fun W : BelowW w1 => W.cell q0
    have Q1 := fun W : BelowW w1 => W.cell q1
    have Q2 := fun W : BelowW w1 => W.cell q2
    have hwd : ∀ W : BelowW w1, Calls Try.prog 23 _ W.val _ := fun V => WD.out V.val (hB0.trans (V.2.mono hB0.size))
    clear k0 k2 q0 q1 q2
    have HWD := Lib.hid hwd; clear hwd
    have HB0 := Lib.hid hB0; clear hB0
    refine wp_region_below (by kernel_rfl) (by kernel_rfl) ?_
    repeat (go_big_quiet_step (first | (go_at_call 23; exact Calls.below_of (HWD.out _))))
    refine wpQuiet_nil ?_
    rintro _ ⟨WL, rfl⟩
    have HL := Lib.hid (HB0.out.trans (WL.2.mono HB0.out.size))
    go_wp2_with fail
    go_ret
    exact ⟨rfl, HL.out⟩
end Go.Proofs.Ytmanoclahcpaoaa
