/- Walks: which slot an instruction sets; safe points; numbers, each once. -/
import Derived.Test.YtknbllbhakpaaaaGreatHAd
import Derived.Test.YtknbllbhakpaaaaGreatHAc
set_option linter.unusedVariables false
set_option linter.unusedSimpArgs false
namespace Go.Proofs.YtknbllbhakpaaaaGreat
open Go.ChangeShapes Go.WideShapes Go.ChangeAt Go.RowKit
def writesS (op : Int) : Bool := decide (op ∈ [1, 2, 3, 4, 5, 6, 7, 8, 11, 12, 13, 14, 16, 18, 19, 21, 26])
theorem writes_out (op : Int) (h : op < 0 ∨ 29 < op) : writesS op = false := by simp [writesS]; omega
def wrSaid (w : World) (op : Int) : Prop := ∀ a b c : Int, Calls Tryz.prog 117 #[.agg #[.int .i64 op, .int .i64 a, .int .i64 b, .int .i64 c]] w fun e w' => e = .returned (.tuple #[.int .i64 (if writesS op then a else 0), .bool (writesS op)]) ∧ Below w.heap.size w w'
set_option maxHeartbeats 4000000 in
theorem wr_in (w : World) : ∀ op ∈ opsAll, wrSaid w op := by
  apply ops_all <;> (unfold wrSaid; intro a b c; go_enter Tryz.func117, Tryz.ntmps117; go_wp2; go_ret2; exact ⟨rfl, (Below.refl _ _).alloc (Nat.le_refl _) _⟩)
theorem wr_any (w : World) (op : Int) : wrSaid w op := by
  refine op_cases (wr_in w) (fun op h => ?_) (fun op h => ?_) op
  all_goals
    unfold wrSaid
    intro a b c
    rw [writes_out op (by omega)]
    go_enter Tryz.func117, Tryz.ntmps117
    go_wp2
    go_ret2
    exact ⟨rfl, (Below.refl _ _).alloc (Nat.le_refl _) _⟩
def IdxPost (l : List Int) (x : Int) (w : World) (e : Ending) (w' : World) : Prop := ∃ r : Int, e = .returned (.int .i64 r) ∧ decide (0 ≤ r) = decide (x ∈ l) ∧ w' = w
set_option maxRecDepth 100000 in
set_option maxHeartbeats 1600000 in
theorem idx_any (w : World) (D : Nat → Prop) (a : Option Addr) (l : List Int) (c : Nat) (x : Int) (hl : IntSl w D a l) (hn : l.length ≤ 1000000) :
    Calls Tryz.prog 120 #[.slice a l.length c, .int .i64 x] w (IdxPost l x w) := by
  have HL := Lib.hid hl; clear hl
  go_enter Tryz.func120, Tryz.ntmps120
  go_wp2_with fail
  go_loopw [8] (fun i wr => ∃ k : Nat, k ≤ l.length ∧ i = .int .i64 k ∧ x ∉ l.take k ∧ wr = w) (fun i _ => l.length - (intOf i).toNat)
  case atStart => exact ⟨0, Nat.zero_le _, rfl, by simp, rfl⟩
  case round =>
    obtain ⟨k, hk, rfl, hno, rfl⟩ := hrel
    by_cases hlt : k < l.length
    · obtain ⟨b, o, rfl, _, hx⟩ := HL.out k hlt
      have hsn := take_snoc l k hlt
      have hmem := List.getElem_mem hlt
      generalize l[k] = y at *
      by_cases hxy : x = y
      · subst hxy
        have hP : IdxPost l x wr (.returned (.int .i64 k)) wr := ⟨k, rfl, by simp [hmem], rfl⟩
        have HP := Lib.hid hP
        clear hsn hmem hno hP
        go_wp2_with fail
        go_ret
        exact HP.out
      · have hb : (x == y) = false := by simpa using hxy
        have hno2 : x ∉ l.take (k + 1) := by rw [hsn]; simp; exact ⟨hno, hxy⟩
        clear hsn hmem hno hxy
        have HNO2 := Lib.hid hno2; clear hno2
        go_wp2_with fail
        go_roundw
        case rel => exact ⟨k + 1, by omega, by go_num, HNO2.out, by first | rfl | trivial⟩
        case measure => simp [intOf]; omega
    · have hno2 : x ∉ l := by rw [List.take_of_length_le (by omega)] at hno; exact hno
      have hP : IdxPost l x wr (.returned (.int .i64 (-1))) wr := ⟨-1, rfl, by simp [hno2], rfl⟩
      have HP := Lib.hid hP
      clear hno hno2 hP
      go_wp2_with fail
      go_ret
      exact HP.out
set_option maxRecDepth 100000 in
theorem contains_any (w : World) (D : Nat → Prop) (a : Option Addr) (l : List Int) (c : Nat) (x : Int) (hl : IntSl w D a l) (hn : l.length ≤ 1000000) :
    Calls Tryz.prog 79 #[.slice a l.length c, .int .i64 x] w fun e w' => e = .returned (.bool (decide (x ∈ l))) ∧ w' = w := by
  have h := idx_any w D a l c x hl hn
  clear hl
  have H := Lib.hid h; clear h
  go_enter Tryz.func79, Tryz.ntmps79
  go_wp2_with fail
  refine H.out.mono ?_
  rintro e w1 ⟨r, rfl, hr, rfl⟩
  have HR := Lib.hid hr; clear hr
  go_wp2_with fail
  go_ret
  exact ⟨by rw [← HR.out]; rfl, rfl⟩
def onceL (l : List Int) : List Int := l.foldl (fun out n => if n ∈ out then out else out ++ [n]) []
theorem onceL_snoc (l : List Int) (x : Int) : onceL (l ++ [x]) = if x ∈ onceL l then onceL l else onceL l ++ [x] := by
  unfold onceL
  rw [List.foldl_append]
  rfl
theorem onceL_len (l : List Int) (k : Nat) : (onceL (l.take k)).length ≤ k := by
  induction k with
  | zero => simp [onceL]
  | succ k ih =>
    by_cases h : k < l.length
    · rw [take_snoc l k h, onceL_snoc]
      split
      · omega
      · simp; omega
    · rw [List.take_of_length_le (by omega)]
      rw [List.take_of_length_le (by omega)] at ih
      omega
set_option maxRecDepth 100000 in
set_option maxHeartbeats 1600000 in
theorem once_any (w : World) (D : Nat → Prop) (a : Option Addr) (l : List Int) (c : Nat) (hl : IntSl w D a l) (hn : l.length ≤ 100000) :
    Calls Tryz.prog 185 #[.slice a l.length c] w fun e w' => ∃ v, e = .returned v ∧ Own intE w' w.heap.size v (onceL l) ∧ Below w.heap.size w w' := by
  have HL := Lib.hid hl; clear hl
  go_enter Tryz.func185, Tryz.ntmps185
  go_wp2_with fail
  go_loopw [3, 8] (fun v i wr => ∃ k : Nat, k ≤ l.length ∧ i = .int .i64 k ∧ Own intE wr w.heap.size v (onceL (l.take k)) ∧ Below w.heap.size w wr) (fun _ i _ => l.length - (intOf i).toNat)
  case atStart => exact ⟨0, Nat.zero_le _, rfl, Own.nil _ _ _, Below.refl _ _⟩
  case round =>
    obtain ⟨k, hk, rfl, hown, hB⟩ := hrel
    by_cases hlt : k < l.length
    · obtain ⟨b, o, rfl, _, hx⟩ := HL.out k hlt
      have hx := below_cell hB hx
      have hsn := take_snoc l k hlt
      have hos := onceL_snoc (l.take k) l[k]
      rw [← hsn] at hos
      have hol := onceL_len l k
      generalize l[k] = x at *
      generalize onceL (l.take k) = L at *
      obtain ⟨a1, c1, hv, hsl⟩ : ∃ a1 c1, _ = Value.slice a1 L.length c1 ∧ IntSl wr _ a1 L := by
        obtain ⟨a1, c1, h1, h2⟩ := own_int hown
        exact ⟨a1, c1, h1, h2⟩
      subst hv
      have hc := contains_any wr _ a1 L c1 x hsl (by omega)
      clear hsl hsn
      by_cases hm : x ∈ L
      · rw [if_pos hm] at hos
        rw [decide_eq_true hm] at hc
        clear hm
        have HC := Lib.hid hc; clear hc
        have HOS := Lib.hid hos; clear hos
        have HOWN := Lib.hid hown; clear hown
        have HB := Lib.hid hB; clear hB
        go_wp2_with fail
        refine HC.out.mono ?_
        rintro e w1 ⟨rfl, rfl⟩
        go_wp2_with fail
        go_roundw
        case rel => exact ⟨k + 1, by omega, by go_num, by rw [HOS.out]; exact HOWN.out, HB.out⟩
        case measure => simp [intOf]; omega
      · rw [if_neg hm] at hos
        rw [decide_eq_false hm] at hc
        clear hm
        have HC := Lib.hid hc; clear hc
        have HOS := Lib.hid hos; clear hos
        have HOWN := Lib.hid hown; clear hown
        have HB := Lib.hid hB; clear hB
        go_wp2_with fail
        refine HC.out.mono ?_
        rintro e w1 ⟨rfl, rfl⟩
        go_wp2_with (at_builtin; refine append_own intE rfl (.tmp 16) (.tmp 18) rfl w.heap.size L [x] _ rfl (HOWN.out.alloc _) w1.heap.size 0 1 rfl (CellsAt.new _ _ _ _) ?c1 ?c2 ?_)
        case c1 => simp; omega
        case c2 => have := HB.out.size; simp; omega
        intro v2 w2 hown2 hg2
        have hB2 := Lib.hid (below_grown (HB.out.alloc HB.out.size _) (HOWN.out.alloc _) hg2 (by have := HB.out.size; simp; omega) (Nat.le_refl _))
        have HO2 := Lib.hid hown2; clear hown2 hg2
        go_wp2_with fail
        go_roundw
        case rel => exact ⟨k + 1, by omega, by go_num, by rw [HOS.out]; exact HO2.out, hB2.out⟩
        case measure => simp [intOf]; omega
    · have hk' : k = l.length := by omega
      subst hk'
      rw [List.take_length] at hown
      have hP : ∀ v, Own intE wr w.heap.size v (onceL l) → ∃ v', Ending.returned v = .returned v' ∧ Own intE wr w.heap.size v' (onceL l) ∧ Below w.heap.size w wr := fun v hv => ⟨v, rfl, hv, hB⟩
      have HP := Lib.hid (hP _ hown)
      clear hP hown hB
      go_wp2_with fail
      go_ret
      exact HP.out
end Go.Proofs.YtknbllbhakpaaaaGreat
