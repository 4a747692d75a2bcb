/- Walks: package image's writer: lists, functions. -/
import Derived.Test.YtmmdppjbofbjhaaWriter
import Derived.Lib.AppendStr
namespace Go.Proofs.Ytmmdppjbofbjhaa
open Go.ChangeShapes Go.WideShapes Go.ChangeAt Go.RowKit

theorem wr_alloc {w : World} {B p : Nat} {v : Value} {out : List Int} {bad : Bool} (h : Wr w B p v out bad) (o : Obj) : Wr (w.alloc o) B p v out bad := by
  obtain ⟨h1, h2, h3, h4⟩ := h
  refine ⟨?_, h2.alloc o, h3, h4⟩
  rw [Below.heap_alloc _ _ _ (heap_lt h1)]; exact h1
theorem wr_below {w w' : World} {B p : Nat} {v : Value} {out : List Int} {bad : Bool} (h : Wr w B p v out bad) (hb : Below w.heap.size w w') : Wr w' B p v out bad := by
  obtain ⟨h1, h2, h3, h4⟩ := h
  exact ⟨by rw [hb.block p (heap_lt h1)]; exact h1, h2.below hb, h3, h4⟩
theorem wr_trans {w w1 w2 : World} {B p : Nat} {v v1 : Value} {out : List Int} {bad : Bool} (hf : Fr (wrF p v) w w1) (hfr : Fresh w v v1) (h2 : WrPost w1 B p v1 out bad w2) : WrPost w B p v out bad w2 := by
  obtain ⟨v2, hw, hf2, hfr2⟩ := h2
  refine ⟨v2, hw, hf.trans hf2 (fun k hk hF => ?_), hfr.trans hfr2 hf.size⟩
  rcases hF with h | h
  · exact .inl h
  · rcases hfr k h with h' | h'
    · exact .inr h'
    · omega
theorem wr_dom {w w1 : World} {p : Nat} {v v1 : Value} {D : Nat → Prop} (hD : ∀ k, D k → k ≠ p ∧ v.ownBlock ≠ some k ∧ k < w.heap.size) (hf : Fr (wrF p v) w w1) (hfr : Fresh w v v1) : ∀ k, D k → k ≠ p ∧ v1.ownBlock ≠ some k ∧ k < w1.heap.size := by
  intro k hk
  obtain ⟨h1, h2, h3⟩ := hD k hk
  refine ⟨h1, fun e => ?_, Nat.lt_of_lt_of_le h3 hf.size⟩
  rcases hfr k e with h' | h'
  · exact h2 h'
  · omega
theorem wr_clear {w : World} {p : Nat} {v : Value} {D : Nat → Prop} (hD : ∀ k, D k → k ≠ p ∧ v.ownBlock ≠ some k ∧ k < w.heap.size) : ∀ k, D k → ¬ wrF p v k := fun k hk h => h.elim (hD k hk).1 (hD k hk).2.1
/-- a new slice of numbers -/
theorem int_new (w : World) (l : List Int) : IntSl (w.alloc (.cells (l.map (Value.int .i64)).toArray 3)) (fun k => k = w.heap.size) (some ⟨w.heap.size, 0, none⟩) l := fun j hj =>
  ⟨w.heap.size, 0, rfl, rfl, by rw [Nat.zero_add, cell_new]; simp [hj]⟩
theorem new_dom {w : World} {B p : Nat} {v : Value} {out : List Int} {bad : Bool} (h : Wr w B p v out bad) (o : Obj) : ∀ k, k = w.heap.size → k ≠ p ∧ v.ownBlock ≠ some k ∧ k < (w.alloc o).heap.size := by
  rintro k rfl
  have h1 := heap_lt h.1
  refine ⟨by omega, fun e => ?_, by simp⟩
  have := (h.2.1.lt e).2
  omega
def wNums (s : List Int × Bool) (l : List Int) : List Int × Bool := (s.1 ++ lowB l, s.2 || badB l)
def wList (s : List Int × Bool) (l : List Int) : List Int × Bool := wNums (wNums s [(l.length : Int)]) l
theorem wNums_len (s : List Int × Bool) (l : List Int) : (wNums s l).1.length = s.1.length + l.length := by simp [wNums, lowB]
theorem wList_len (s : List Int × Bool) (l : List Int) : (wList s l).1.length = s.1.length + 1 + l.length := by simp [wList, wNums_len]

/-- nums on a new literal slice -/
theorem nums_new (w : World) (B p : Nat) (v : Value) (s : List Int × Bool) (hw : Wr w B p v s.1 s.2) (l : List Int) (hlen : s.1.length + l.length ≤ 10000000) :
    Calls Try.prog 115 #[.pointer (some ⟨p, 0, none⟩), .slice (some ⟨w.heap.size, 0, none⟩) l.length l.length] (w.alloc (.cells (l.map (Value.int .i64)).toArray 3)) fun e w' => e = .returned (.tuple #[]) ∧ WrPost w B p v (wNums s l).1 (wNums s l).2 w' :=
  (nums_any _ B p v s.1 s.2 (wr_alloc hw _) _ _ l _ (int_new w l) (new_dom hw _) hlen).mono fun _ _ ⟨he, v1, h1, h2, h3⟩ =>
    ⟨he, v1, h1, (Fr.alloc (Fr.refl (wrF p v) w) _).trans h2 (fun _ _ h => h), fun k hk => by
      rcases h3 k hk with h' | h'
      · exact .inl h'
      · exact .inr (by simp at h'; omega)⟩

set_option maxRecDepth 100000 in
set_option maxHeartbeats 1600000 in
theorem list_any (w : World) (B p : Nat) (v : Value) (s : List Int × Bool) (hw : Wr w B p v s.1 s.2) (D : Nat → Prop) (a : Option Addr) (l : List Int) (c : Nat) (hsl : IntSl w D a l)
    (hD : ∀ k, D k → k ≠ p ∧ v.ownBlock ≠ some k ∧ k < w.heap.size) (hlen : s.1.length + l.length ≤ 1000000) :
    Calls Try.prog 114 #[.pointer (some ⟨p, 0, none⟩), .slice a l.length c] w fun e w' => e = .returned (.tuple #[]) ∧ WrPost w B p v (wList s l).1 (wList s l).2 w' := by
  have n1 := nums_new w B p v s hw [(l.length : Int)] (by simp; omega)
  have hmap : ([(l.length : Int)].map (Value.int .i64)).toArray = #[.int .i64 l.length] := rfl
  rw [hmap] at n1
  have N1 := Lib.hid n1; clear n1 hmap
  have n2 : ∀ w1 v1, Wr w1 B p v1 (wNums s [(l.length : Int)]).1 (wNums s [(l.length : Int)]).2 → Fr (wrF p v) w w1 → Fresh w v v1 → Calls Try.prog 115 #[.pointer (some ⟨p, 0, none⟩), .slice a l.length c] w1 fun e w' => e = .returned (.tuple #[]) ∧ WrPost w1 B p v1 (wList s l).1 (wList s l).2 w' :=
    fun w1 v1 h1 h2 h3 => nums_any w1 B p v1 _ _ h1 D a l c (hsl.fr h2 (wr_clear hD)) (wr_dom hD h2 h3) (by rw [wNums_len]; simp; omega)
  have N2 := Lib.hid n2; clear n2
  clear hsl hw hD hlen
  generalize wList s l = s2 at *
  generalize wNums s [(l.length : Int)] = s1 at *
  go_enter Try.func114, Try.ntmps114
  go_wp2_with fail
  refine N1.out.mono ?_
  rintro e w1 ⟨rfl, v1, h1, h2, h3⟩
  have H2 := Lib.hid h2; have H3 := Lib.hid h3
  have n3 := N2.out w1 v1 h1 h2 h3
  have N3 := Lib.hid n3; clear n3 h1 h2 h3
  go_wp2_with fail
  refine N3.out.mono ?_
  rintro e w2 ⟨rfl, hp⟩
  have HP := Lib.hid (wr_trans H2.out H3.out hp); clear hp
  go_wp2_with fail
  go_end0
  exact ⟨rfl, HP.out⟩
end Go.Proofs.Ytmmdppjbofbjhaa
