import Derived.Test.YthkhgihjigmkoaaGreatRBq
import Derived.Test.YthkhgihjigmkoaaGreatRBr
set_option linter.unusedVariables false
set_option linter.unusedSimpArgs false
namespace Go.Proofs.YthkhgihjigmkoaaGreat.Tk
open Go.ChangeShapes Go.WideShapes Go.ChangeAt Go.RowKit Go.Maps
theorem and_u16 (n k : Nat) (hn : n < 65536) : (bits .and .u16 ((n : Int) / 2 ^ k) 1 == 1) = decide (n / 2 ^ k % 2 = 1) := by
 have e : ((n : Int) / 2 ^ k) = ((n / 2 ^ k : Nat) : Int) := by rw [Int.natCast_ediv]; simp
 have hle : n / 2 ^ k ≤ n := Nat.div_le_self _ _
 rw [e]
 generalize n / 2 ^ k = m at *
 have h1 : (2 : Int) ^ 1 - 1 = 1 := by decide
 have h := bits_mask .u16 16 (by decide) (fun n h0 h1 => by rw [IntKind.wrap_u16]; omega) 1 (by decide) (m : Int) (by omega) (by omega)
 rw [h1] at h
 rw [h]
 by_cases hm : m % 2 = 1
 ·rw [decide_eq_true hm]
  simp
  omega
 ·rw [decide_eq_false hm]
  simp
  omega
set_option maxRecDepth 100000 in
set_option maxHeartbeats 3200000 in
theorem pointer_any (w : World) (F : Nat → Prop) (tb : Nat) (p : TPrg) (T : Tk) (X : TB) (h : TaskAt w F tb p T X) (hn : T.parts.length ≤ 1000) (P : List Part) (q : Part) (hP : T.parts = P ++ [q]) (fn pc : Int) (hfn : q.fn = fn) (hpc : q.pc = pc) (mb : Nat) (N : Nat) (hN : N < 65536) (k : Nat) (hk : k ≤ 15)
  (PTS : ∀ wr, Below w.heap.size w wr → Calls Tryz.prog 142 #[.pointer (some ⟨mb, 0, none⟩), .int .i64 fn, .int .i64 pc] wr fun e w' => e = .returned (.int .u16 N) ∧ Below wr.heap.size wr w') (c0 c1 c2 : Value) (i0 i1 i2 i3 : Int) :
  Calls Tryz.prog 121 #[.agg (stepV c0 c1 c2 (.pointer (some ⟨mb, 0, none⟩)) tb i0 i1 i2 i3), .int .i64 k] w fun e w' => e = .returned (.bool (decide (N / 2 ^ k % 2 = 1))) ∧ Below w.heap.size w w' := by
 have hb0 := ((Below.refl w.heap.size w).alloc (Nat.le_refl _) (.cells (stepV c0 c1 c2 (.pointer (some ⟨mb, 0, none⟩)) tb i0 i1 i2 i3) 124))
 have hr0 := heap_new w (.cells (stepV c0 c1 c2 (.pointer (some ⟨mb, 0, none⟩)) tb i0 i1 i2 i3) 124)
 obtain ⟨W, hW⟩ : ∃ W, W = w.alloc (.cells (stepV c0 c1 c2 (.pointer (some ⟨mb, 0, none⟩)) tb i0 i1 i2 i3) 124) := ⟨_, rfl⟩
 rw [← hW] at hb0 hr0
 have q3 : W.cell? ⟨w.heap.size, 3, none⟩ = some (.pointer (some ⟨mb, 0, none⟩)) := (row_cell hr0 3).1
 have q4 : W.cell? ⟨w.heap.size, 4, none⟩ = some (.pointer (some ⟨tb, 0, none⟩)) := (row_cell hr0 4).1
 have hl : T.parts.length = P.length + 1 := by rw [hP]; simp
 have e0 : (T.parts[P.length]'(by omega)) = q := by simp only [hP]; simp
 have fnc := fun wr (hw : Below W.heap.size W wr) => fn_some wr F tb p T X (h.below (hb0.trans (hw.mono hb0.size))) hn P.length hl
 have pcc := fun wr (hw : Below W.heap.size W wr) => pc_some wr F tb p T X (h.below (hb0.trans (hw.mono hb0.size))) hn P.length hl
 have pts := fun wr (hw : Below W.heap.size W wr) => PTS wr (hb0.trans (hw.mono hb0.size))
 rw [e0, hfn] at fnc
 rw [e0, hpc] at pcc
 have fnc : ∀ V : BelowW W, Calls Tryz.prog 38 _ V.val _ := fun V => (fnc V.val V.2).mono (fun e w' he => (show e = .returned (.int .i64 fn) ∧ Below V.val.heap.size V.val w' from ⟨he.1, by obtain ⟨m, hm⟩ := he.2; rw [hm]; exact below_drewN (Below.refl _ _) m⟩))
 have pcc : ∀ V : BelowW W, Calls Tryz.prog 31 _ V.val _ := fun V => (pcc V.val V.2).mono (fun e w' he => (show e = .returned (.int .i64 pc) ∧ Below V.val.heap.size V.val w' from ⟨he.1, by obtain ⟨m, hm⟩ := he.2; rw [hm]; exact below_drewN (Below.refl _ _) m⟩))
 have pts : ∀ V : BelowW W, Calls Tryz.prog 142 _ V.val _ := fun V => pts V.val V.2
 have Q3 := fun V : BelowW W => V.cell q3
 have Q4 := fun V : BelowW W => V.cell q4
 have sh := and_u16 N k hN
 have hk0 : (0 : Int) ≤ (k : Int) := by omega
 have HB0 := Lib.hid hb0
 have HW := Lib.hid hW
 clear PTS q3 q4 e0 hl hP h hn hfn hpc hr0 hW hb0
 have FNC := Lib.hid fnc; clear fnc
 have PCC := Lib.hid pcc; clear pcc
 have PTS := Lib.hid pts; clear pts
 have SH := Lib.hid sh; clear sh
 unfold stepV
 go_enter Tryz.func121, Tryz.ntmps121
 go_upto_region 1 with fail
 have hw2 := HW.out
 unfold stepV at hw2
 rw [← hw2]
 clear hw2
 refine wp_region_below (by kernel_rfl) (by kernel_rfl) ?_
 repeat (go_big_quiet_step (first | (go_at_call 38; exact Calls.below_of (FNC.out _)) | (go_at_call 31; exact Calls.below_of (PCC.out _)) | (go_at_call 142; exact Calls.below_of (PTS.out _))))
 refine wpQuiet_nil ?_
 rintro _ ⟨WL, rfl⟩
 have HL := Lib.hid (HB0.out.trans (WL.2.mono HB0.out.size))
 go_wp2_with fail
 go_ret
 exact ⟨congrArg (fun b => Ending.returned (Value.bool b)) SH.out, HL.out⟩
end Go.Proofs.YthkhgihjigmkoaaGreat.Tk
