/- Walks: words of a task; the stack's base. -/
import Derived.Test.YtmanoclahcpaoaaTkQ
namespace Go.Proofs.Ytmanoclahcpaoaa
open Go.ChangeShapes Go.WideShapes Go.ChangeAt Go.RowKit Go.Maps

set_option maxRecDepth 100000 in
theorem base_any (w : World) (sb wb : Nat) (base : Int) (l : List Int) (h : StAt w sb wb base l) :
    Calls Try.prog 40 #[.pointer (some ⟨sb, 0, none⟩)] w fun e w' => e = .returned (.int .i64 base) ∧ w = w' := by
  obtain ⟨k0, k1⟩ := h.cells
  clear h
  go_enter Try.func40, Try.ntmps40
  go_wp2_with fail
  go_ret
  exact ⟨rfl, rfl⟩
set_option maxRecDepth 100000 in
set_option maxHeartbeats 1600000 in
theorem tkwords_any (w : World) (F : Nat → Prop) (tb : Nat) (p : TPrg) (T : Tk) (X : TB) (h : TaskAt w F tb p T X) (from_ n : Nat) (hn : from_ + n ≤ T.words.length) (hl : T.words.length ≤ 100000) :
    Calls Try.prog 53 #[.pointer (some ⟨tb, 0, none⟩), .int .i64 from_, .int .i64 n] w fun e w' => ∃ a c, e = .returned (.slice a n c) ∧ Below w.heap.size w w' := by
  have ld := fun wr (hw : Below w.heap.size w wr) (k : Nat) (hk : k < T.words.length) => stLoad_in wr X.sb X.wb T.base T.words (h.below hw).st k hk
  have hc := fun wr (hw : Below w.heap.size w wr) => (h.below hw).cells.2.2.2.1
  clear h
  have LD := Lib.hid ld; clear ld
  have HC := Lib.hid hc; clear hc
  go_enter Try.func53, Try.ntmps53
  go_wp2_with fail
  go_loopw [7, 12] (fun o i wr => ∃ k : Nat, ∃ l : List Int, k ≤ n ∧ i = .int .i64 k ∧ Own intE wr w.heap.size o l ∧ l.length = k ∧ Below w.heap.size w wr) (fun _ i _ => n - (intOf i).toNat)
  case atStart => exact ⟨0, [], Nat.zero_le _, rfl, Own.nil _ _ _, rfl, Below.refl _ _⟩
  case round =>
    obtain ⟨k, l, hk, rfl, ho, hlk, hB⟩ := hrel
    by_cases hlt : k < n
    · have q3 := HC.out wr hB
      have ld := LD.out wr hB (from_ + k) (by omega)
      obtain ⟨off, hoff⟩ : ∃ off, off = from_ + k := ⟨_, rfl⟩
      have i1 : IntKind.i64.wrap ((from_ : Int) + (k : Int)) = (off : Int) := by rw [show ((from_ : Int) + (k : Int)) = (off : Int) from by omega]; exact IntWalk.i64_in _ (by omega)
      generalize T.words[from_ + k] = x at *
      rw [← hoff] at ld
      have hlk2 : l.length ≤ 100000 := by omega
      have LD := Lib.hid ld; clear ld
      have HO := Lib.hid ho; clear ho
      have HB := Lib.hid hB; clear hB
      have HOFF := Lib.hid hoff; clear hoff
      have HLK := Lib.hid hlk; clear hlk
      obtain ⟨a0, n0, c0, rfl⟩ := HO.out.slice
      go_wp2_with fail
      refine LD.out.mono ?_
      rintro e w' ⟨rfl, rfl⟩
      go_wp2_with (at_builtin; refine append_own intE rfl (.tmp 26) (.tmp 28) rfl w.heap.size l [x] _ rfl (HO.out.alloc _) wr.heap.size 0 1 rfl (CellsAt.new _ _ _ _) ?c1 ?c2 ?_)
      case c1 => first | omega | (show l.length + 1 ≤ 100000000; omega)
      case c2 => have := HB.out.size; simp; omega
      intro v5 w5 ho5 hg5
      have hb5 := below_grown (HB.out.alloc HB.out.size _) (HO.out.alloc (.cells #[.int .i64 x] 3)) hg5 (by have := HB.out.size; simp; omega) (Nat.le_refl _)
      obtain ⟨a5, n5, c5, rfl⟩ := ho5.slice
      have hlen : (l ++ [x]).length = k + 1 := by rw [List.length_append, HLK.out]; rfl
      clear hg5
      have HO5 := Lib.hid ho5; clear ho5
      have HB5 := Lib.hid hb5; clear hb5
      have HLEN := Lib.hid hlen; clear hlen
      go_wp2_with fail
      go_roundw
      case rel => exact ⟨k + 1, _, by omega, by go_num, HO5.out, HLEN.out, HB5.out⟩
      case measure => simp [intOf]; omega
    · have hk' : k = n := by omega
      subst hk'
      obtain ⟨a0, c0, rfl, _⟩ := own_elems ho
      rw [hlk]
      clear ho hlk
      have HB := Lib.hid hB; clear hB
      go_wp2_with fail
      go_ret
      first | exact ⟨_, _, rfl, HB.out⟩ | exact ⟨⟨_, _, rfl⟩, HB.out⟩
end Go.Proofs.Ytmanoclahcpaoaa
