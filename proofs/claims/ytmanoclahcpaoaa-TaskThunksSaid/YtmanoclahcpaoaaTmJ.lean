/- Walks: Task.Leave, Task.Next; numbers copied; a frame's deferred calls. -/
import Derived.Test.YtmanoclahcpaoaaTmI
import Derived.Test.YtmanoclahcpaoaaTmF
namespace Go.Proofs.Ytmanoclahcpaoaa
open Go.ChangeShapes Go.WideShapes Go.ChangeAt Go.RowKit Go.Maps

set_option maxRecDepth 100000 in
set_option maxHeartbeats 1600000 in
theorem tkLeave_any (w : World) (F : Nat → Prop) (tb : Nat) (p : TPrg) (T : Tk) (X : TB) (h : TaskAt w F tb p T X) (M : List Mark) (m : Mark) (hM : T.marks = M ++ [m]) (hl : M.length ≤ 10000) :
    Calls Try.prog 19 #[.pointer (some ⟨tb, 0, none⟩)] w fun e w' => e = .returned (.tuple #[]) ∧ ∃ F' X', TaskAt w' F' tb p ⟨T.base, T.words, T.parts, M ++ [⟨true, m.deferred, m.thunks⟩]⟩ X' ∧ (∀ k, F' k → F k ∨ w.heap.size ≤ k) ∧ Fr F w w' := by
  have sp := stLeave_some w 0 X.mv M m (by have := h.marks; rw [hM] at this; exact this) hl
  obtain ⟨_, _, _, _, _, q5, q6, _⟩ := h.cells
  obtain ⟨a6, n6, c6, hmv2⟩ := h.marks.slice
  rw [hmv2] at sp q5
  clear hM hmv2
  have SP := Lib.hid sp; clear sp
  have H := Lib.hid h; clear h
  go_enter Try.func19, Try.ntmps19
  go_wp2_with fail
  refine SP.out.mono ?_
  rintro e w4 ⟨v4, rfl, ho4, hb4⟩
  obtain ⟨a4, n4, c4, rfl⟩ := ho4.slice
  have hT4 := H.out.below hb4
  have q5 := hT4.cells.2.2.2.2.2.1
  have q6 := hT4.cells.2.2.2.2.2.2.1
  have f5 : w4.frozen? ⟨tb, 5, none⟩ = false := (row_cell hT4.row 5).2
  have f6 : w4.frozen? ⟨tb, 6, none⟩ = false := (row_cell hT4.row 6).2
  obtain ⟨hT5, hF5⟩ := hT4.mark ho4 (fun k hk => hk.elim (fun h => H.out.flt k h) (fun h => (H.out.out k h).2))
  have hF6 := (Fr.of_below hb4 F).trans hF5 (fun k _ hk => hk)
  have hnew : ∀ k, F k ∨ (Value.slice a4 n4 c4).ownBlock = some k → F k ∨ w.heap.size ≤ k := fun k hk => by
    rcases hk with h1 | h1
    · exact .inl h1
    · exact .inr (own_base ho4 h1)
  clear hT4 hb4 ho4 hF5
  have HT5 := Lib.hid hT5; clear hT5
  have HF6 := Lib.hid hF6; clear hF6
  have HNEW := Lib.hid hnew; clear hnew
  go_wp2_with fail
  go_end0
  first | exact ⟨rfl, _, _, HT5.out, HNEW.out, HF6.out⟩ | exact ⟨rfl, _, ⟨_, HT5.out⟩, HNEW.out, HF6.out⟩
set_option maxRecDepth 100000 in
theorem tkNext_any (w : World) (F : Nat → Prop) (tb : Nat) (p : TPrg) (T : Tk) (X : TB) (h : TaskAt w F tb p T X) (hl : T.marks.length ≤ 10000) :
    Calls Try.prog 20 #[.pointer (some ⟨tb, 0, none⟩)] w fun e w' => e = .returned (.int .i64 (nextN T.marks)) ∧ Below w.heap.size w w' := by
  obtain ⟨_, _, _, _, _, q5, q6, _⟩ := h.cells
  have sp : Calls Try.prog 38 #[.agg #[X.mv, .slice none 0 0]] w fun e w' => e = .returned (.int .i64 (nextN T.marks)) ∧ Below w.heap.size w w' := by
    have hm := h.marks
    by_cases h0 : T.marks = []
    · rw [h0] at hm ⊢
      obtain ⟨a, c, he, _⟩ := own_elems hm
      rw [he]
      exact stNext_nil w a c
    · have hd := List.dropLast_concat_getLast h0
      rw [← hd] at hm ⊢
      exact stNext_some w 0 X.mv _ _ hm (by simp; omega)
  obtain ⟨a6, n6, c6, hmv2⟩ := h.marks.slice
  rw [hmv2] at sp q5
  generalize nextN T.marks = x at *
  clear hmv2 h
  have SP := Lib.hid sp; clear sp
  go_enter Try.func20, Try.ntmps20
  go_wp2_with fail
  refine SP.out.mono ?_
  rintro e w4 ⟨rfl, hb4⟩
  have HB4 := Lib.hid hb4
  clear hb4
  go_wp2_with fail
  go_ret
  exact ⟨rfl, HB4.out⟩
set_option maxRecDepth 100000 in
set_option maxHeartbeats 1600000 in
theorem cloneInts_any (w : World) (g : Nat) (l : List Int) (c : Nat) (hc : ∀ j (hj : j < l.length), w.cell? ⟨g, j, none⟩ = some (.int .i64 l[j])) (hn : l.length ≤ 100000) :
    Calls Try.prog 36 #[.slice (some ⟨g, 0, none⟩) l.length c] w fun e w' => ∃ v', e = .returned v' ∧ Own intE w' w.heap.size v' l ∧ Below w.heap.size w w' := by
  have ho := own_new intE w [] #[] rfl (by decide)
  have hb0 := (Below.refl w.heap.size w).alloc (Nat.le_refl _) (.cells #[] intE.e)
  have hc1 : ∀ j u, (l.flatMap intE.enc)[j]? = some u → w.cell? ((⟨g, 0, none⟩ : Addr).add j) = some u := fun j u hj => by
    have hlt : j < l.length := by
      have h1 := (List.getElem?_eq_some_iff.1 hj).1
      have h2 := intE.len l
      rw [h2] at h1
      have h3 : intE.size = 1 := rfl
      rw [h3] at h1
      omega
    have h4 := intE.get l j 0 hlt (by decide)
    have h5 : (l.flatMap intE.enc)[j]? = some (.int .i64 l[j]) := by
      have h6 : j * intE.size + 0 = j := by show j * 1 + 0 = j; omega
      rw [h6] at h4
      rw [h4]; rfl
    rw [h5] at hj
    injection hj with hj
    subst hj
    have := hc j hlt
    by_cases hj0 : j = 0
    · subst hj0; simpa [Addr.add] using this
    · simpa [Addr.add, hj0] using this
  have hc2 := fun j u hj => alloc_cellA (o := .cells #[] intE.e) (hc1 j u hj)
  have hnil := fun w => eq_nil_run intE (some ⟨g, 0, none⟩) l.length c w
  have hnil : ∀ w, (binOp .eql 23 (.slice (some ⟨g, 0, none⟩) l.length c) (.slice none 0 0)).run Try.prog w = .ok (.bool false) w := hnil
  clear hc hc1
  have HC2 := Lib.hid hc2; clear hc2
  have HO := Lib.hid ho; clear ho
  have HB0 := Lib.hid hb0; clear hb0
  go_enter Try.func36, Try.ntmps36
  go_wp2_with (at_builtin; refine append_own_addr intE rfl (.tmp 5) (.tmp 6) rfl w.heap.size [] l _ rfl HO.out ⟨g, 0, none⟩ c rfl HC2.out ?c1 ?c2 ?_)
  case c1 => simp; omega
  case c2 => simp
  intro v2 w2 hown2 hg2
  have hB2 := below_grown HB0.out HO.out hg2 (by simp) (Nat.le_refl _)
  clear hg2
  have HB2 := Lib.hid hB2; clear hB2
  have HOWN2 := Lib.hid hown2; clear hown2
  go_wp2_with fail
  go_ret
  exact ⟨_, rfl, HOWN2.out, HB2.out⟩
/-- a deferred call, as its two values -/
structure ThV where (fn : Int) (a : Option Addr) (n c : Nat)
set_option maxRecDepth 100000 in
def thkE : Elem Try.prog ThV where
  e := 85
  t := 71
  size := 2
  bytes := 32
  zero := .agg #[.int .i64 0, .slice none 0 0]
  enc := fun x => [.int .i64 x.fn, .slice x.a x.n x.c]
  ht := Try.underlying71
  info := by kernel_rfl
  hzs := rfl
  hsz := by decide
  hby := by decide
  henc := fun _ => rfl
  hone := fun x u h => by simp at h; rcases h with rfl | rfl <;> rfl
theorem TaskAt.putPart {w : World} {F : Nat → Prop} {tb : Nat} {p : TPrg} {T : Tk} {X : TB} {P : List Part} {q y : Part} {g n c : Nat} (h : TaskAt w F tb p T X) (hP : T.parts = P ++ [q]) (hv : X.pv = .slice (some ⟨g, 0, none⟩) n c) (r : Nat) (u : Value) (hy : partE.enc y = (partE.enc q).set r u) :
    TaskAt (w.setCell ⟨g, P.length * 5 + r, none⟩ u) F tb p ⟨T.base, T.words, P ++ [y], T.marks⟩ X ∧ Fr F w (w.setCell ⟨g, P.length * 5 + r, none⟩ u) := by
  have hgo : X.pv.ownBlock = some g := by rw [hv]; rfl
  have hfs : Fr (fun k => k = g) w (w.setCell ⟨g, P.length * 5 + r, none⟩ u) := (Fr.refl (fun k => k = g) w).setCell (p := ⟨g, P.length * 5 + r, none⟩) (fun _ => rfl) _
  obtain ⟨d1, d2, d3, d4, d5, d6⟩ := h.distinct
  obtain ⟨e1, e2, e3⟩ := d4 g hgo
  have ho := h.parts
  rw [hP, hv] at ho
  have ho2 := own_put ho r u y hy
  have hF : ∀ k, k = g → F k := fun k e => e ▸ h.fp g hgo
  refine ⟨?_, hfs.mono hF⟩
  constructor
  · exact hfs.heap h.row (fun e => e1 e.symm)
  · exact h.prg.fr hfs fun k hk e => (h.out k hk).1 (hF k e)
  · exact fun k hk => ⟨(h.out k hk).1, Nat.lt_of_lt_of_le (h.out k hk).2 hfs.size⟩
  · exact hfs.heap h.srow (fun e => e2 e.symm)
  · exact hfs.heap h.wrow (fun e => e3 e.symm)
  · rw [hv]; exact ho2
  · exact h.marks.fr hfs (fun k hk e => d6 k (e ▸ hgo) hk)
  · exact Nat.lt_of_lt_of_le h.kb hfs.size
  · exact h.kept.imp fun n hm => hm.fr hfs (fun e => by obtain ⟨cur, f, hc⟩ := own_row h.parts hgo; exact map_ne hm hc e)
  · exact h.ft
  · exact h.fs
  · exact h.fw
  · exact h.fk
  · exact h.fp
  · exact h.fm
  · exact fun k hk => Nat.lt_of_lt_of_le (h.flt k hk) hfs.size
end Go.Proofs.Ytmanoclahcpaoaa
