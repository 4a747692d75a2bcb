/- Walk: instr.Lay. -/
import Derived.Test.YtmmdppjbofbjhaaElems
namespace Go.Proofs.Ytmmdppjbofbjhaa
open Go.ChangeShapes Go.WideShapes Go.ChangeAt Go.RowKit
def layI (x : Ins) : List Int := [x.op % 256, x.a % 256, x.c % 256, byteOf x.b 0, byteOf x.b 1, byteOf x.b 2, byteOf x.b 3]
def layL (l : List Ins) : List Int := l.flatMap layI
def laid (l : List Ins) : Bool := l.all rightB
/-- what Lay answers -/
def layRes (l : List Ins) : Value := if laid l then .tuple #[.string (bytesS (layL l)), .int .i64 0] else .tuple #[.string ⟨#[]⟩, .int .i64 1]
theorem layRes_no (l : List Ins) (k : Nat) (hk : k < l.length) (h : rightB l[k] = false) : layRes l = .tuple #[.string ⟨#[]⟩, .int .i64 1] := by
  have : laid l = false := by
    unfold laid
    rw [List.all_eq_false]
    exact ⟨l[k], List.getElem_mem hk, by simp [h]⟩
  simp [layRes, this]
theorem layL_snoc (l : List Ins) (x : Ins) : layL (l ++ [x]) = layL l ++ layI x := by simp [layL]
theorem laid_snoc (l : List Ins) (x : Ins) : laid (l ++ [x]) = (laid l && rightB x) := by simp [laid]
theorem layL_len (l : List Ins) : (layL l).length = 7 * l.length := by
  induction l with
  | nil => rfl
  | cons x l ih => simp [layL, layI] at *; omega
set_option maxRecDepth 100000 in
set_option maxHeartbeats 1600000 in
theorem lay_any (l : List Ins) (a : Option Addr) (c : Nat) (w : World) (hl : l.length ≤ 100000) (hc : InsSl w a l) :
    Calls Try.prog 36 #[.slice a l.length c] w fun e w' => e = .returned (layRes l) ∧ Below w.heap.size w w' := by
  have HC := Lib.hid hc; clear hc
  have hby := bytes_any
  have HBY := Lib.hid hby; clear hby
  go_enter Try.func36, Try.ntmps36
  go_wp2_with fail
  go_loopw [4, 9] (fun v i wr => ∃ k : Nat, k ≤ l.length ∧ i = .int .i64 k ∧ Own u8E wr w.heap.size v (layL (l.take k)) ∧ Below w.heap.size w wr ∧ laid (l.take k) = true) (fun _ i _ => l.length - (intOf i).toNat)
  case atStart => exact ⟨0, Nat.zero_le _, rfl, Own.nil _ _ _, Below.refl _ _, rfl⟩
  case round =>
    obtain ⟨k, hk, rfl, hown, hB, hlaid⟩ := hrel
    by_cases hlt : k < l.length
    · have hx := HC.out.below hB k hlt
      obtain ⟨b, o, rfl, hx0, hx1, hx2, hx3⟩ := hx
      have HB := Lib.hid hB; clear hB
      have HL := Lib.hid hlaid; clear hlaid
      have HO := Lib.hid hown; clear hown
      obtain ⟨x, hxe⟩ : ∃ x, x = l[k] := ⟨_, rfl⟩
      rw [← hxe] at hx0 hx1 hx2 hx3
      have HXE := Lib.hid hxe; clear hxe
      have hr := right_any x
      obtain ⟨xop, xa, xb, xc⟩ := x
      have hr : ∀ w, Calls Try.prog 88 #[.agg #[.int .i64 xop, .int .i64 xa, .int .i64 xb, .int .i64 xc]] w fun e w' => e = .returned (.bool (rightB ⟨xop, xa, xb, xc⟩)) ∧ Below w.heap.size w w' := hr
      obtain ⟨rb, hrb⟩ : ∃ rb, rb = rightB ⟨xop, xa, xb, xc⟩ := ⟨_, rfl⟩
      rw [← hrb] at hr
      have HRB := Lib.hid hrb; clear hrb
      have HR := Lib.hid hr; clear hr
      dsimp only at hx0 hx1 hx2 hx3
      go_wp2_with fail
      refine (HR.out _).mono ?_
      rintro e w1 ⟨rfl, hb1⟩
      cases rb
      · clear hx0 hx1 hx2 hx3
        go_wp2_with fail
        go_ret2
        exact ⟨by rw [layRes_no l k hlt (by rw [← HXE.out, ← HRB.out])]; rfl, (HB.out.alloc HB.out.size _).trans (hb1.mono (by have := HB.out.size; simp; omega))⟩
      · have hown1 := Own.below (HO.out.alloc (.cells #[.int .i64 xop, .int .i64 xa, .int .i64 xb, .int .i64 xc] 58)) hb1
        have q0 := below_cell hb1 (cell_new wr #[.int .i64 xop, .int .i64 xa, .int .i64 xb, .int .i64 xc] 58 (0, 0) 0)
        have q1 := below_cell hb1 (cell_new wr #[.int .i64 xop, .int .i64 xa, .int .i64 xb, .int .i64 xc] 58 (0, 0) 1)
        have q2 := below_cell hb1 (cell_new wr #[.int .i64 xop, .int .i64 xa, .int .i64 xb, .int .i64 xc] 58 (0, 0) 2)
        have q3 := below_cell hb1 (cell_new wr #[.int .i64 xop, .int .i64 xa, .int .i64 xb, .int .i64 xc] 58 (0, 0) 3)
        have hB1 : Below w.heap.size w w1 := (HB.out.alloc HB.out.size _).trans (hb1.mono (by have := HB.out.size; simp; omega))
        have HB1 := Lib.hid hB1; clear hB1
        have HO1 := Lib.hid hown1; clear hown1
        clear hb1
        go_wp2_with (at_builtin; refine append_own u8E rfl (.tmp 16) (.tmp 26) rfl w.heap.size (layL (l.take k)) [xop % 256, xa % 256, xc % 256] _ rfl (HO1.out.alloc _) w1.heap.size 0 3 rfl (CellsAt.new _ _ _ _) ?c1 ?c2 ?_)
        case c1 => rw [layL_len]; simp; omega
        case c2 => have := HB1.out.size; simp; omega
        intro v2 w2 hown2 hg2
        have hB2 := Lib.hid (below_grown (HB1.out.alloc HB1.out.size _) (HO1.out.alloc _) hg2 (by have := HB1.out.size; simp; omega) (Nat.le_refl _))
        have r2 := cell_grown hg2 ((cell_under _ (.cells #[.int .u8 (xop % 256), .int .u8 (xa % 256), .int .u8 (xc % 256)] 5) (World.block_lt q2)).trans q2) (fun e => absurd (World.ownsRow.lt HO.out _ e).2 (Nat.lt_irrefl _))
        have HO2 := Lib.hid hown2; clear hown2
        clear q0 q1 q2 q3 hg2 hx0 hx1 hx2 hx3
        go_wp2_with fail
        refine (HBY.out _ _).mono ?_
        rintro e w3 ⟨rfl, rfl⟩
        go_wp2_with (at_builtin; refine append_own u8E rfl (.tmp 28) (.tmp 31) rfl w.heap.size (layL (l.take k) ++ [xop % 256, xa % 256, xc % 256]) [byteOf xb 0, byteOf xb 1, byteOf xb 2, byteOf xb 3] _ rfl (HO2.out.alloc _) w2.heap.size 0 4 rfl (CellsAt.new _ _ _ _) ?d1 ?d2 ?_)
        case d1 => rw [List.length_append, layL_len]; simp; omega
        case d2 => have := hB2.out.size; simp; omega
        intro v3 w3 hown3 hg3
        have hB3 := Lib.hid (below_grown (hB2.out.alloc hB2.out.size _) (HO2.out.alloc _) hg3 (by have := hB2.out.size; simp; omega) (Nat.le_refl _))
        have HO3 := Lib.hid hown3; clear hown3
        clear hg3 r2
        go_wp2_with fail
        go_roundw
        case rel =>
          refine ⟨k + 1, by omega, by go_num, ?_, hB3.out, ?_⟩
          · rw [take_snoc l k hlt, layL_snoc, ← HXE.out]
            exact HO3.out
          · rw [take_snoc l k hlt, laid_snoc, ← HXE.out, ← HRB.out, HL.out]; rfl
        case measure => simp [intOf]; omega
    · have hk' : k = l.length := by omega
      subst hk'
      rw [List.take_length] at hown hlaid
      have hcv := own_str hown
      have hres : layRes l = .tuple #[.string (bytesS (layL l)), .int .i64 0] := by simp [layRes, hlaid]
      have HR := Lib.hid hres
      have HB := Lib.hid hB
      clear hres hB hown hlaid
      go_wp2_with fail
      go_ret2
      exact ⟨by rw [HR.out]; rfl, HB.out⟩
end Go.Proofs.Ytmmdppjbofbjhaa
