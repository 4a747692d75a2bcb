/- Walks: slices.Clone, of numbers, of instructions. -/
import Derived.Test.YtmmdppjbofbjhaaBookA
import Derived.Test.YtmmdppjbofbjhaaBox
namespace Go.Proofs.Ytmmdppjbofbjhaa
open Go.ChangeShapes Go.WideShapes Go.ChangeAt Go.RowKit

theorem append_own_addr {P : Program} {α : Type} (E : Elem P α) {ops : Array Oper} {rest : List Oper} {o : Oper} {a : Act} {Q : Exit → Act → World → Prop} {w : World} (hgd : o.guard = none) (s x : Operand)
    (ho : o.op = .call { callee := .builtin .append, args := #[s, x], argTypes := #[E.t, E.t] })
    (B : Nat) (l m : List α) (v : Value) (hs : a.eval s = v) (hown : Own E w B v l) (xa : Addr) (c : Nat) (hx : a.eval x = .slice (some xa) m.length c)
    (hm : ∀ j u, (m.flatMap E.enc)[j]? = some u → w.cell? (xa.add j) = some u) (hlen : l.length + m.length ≤ 100000000) (hB : B ≤ w.heap.size)
    (h : ∀ v' w', Own E w' B v' (l ++ m) → w.grownBy w' v.ownBlock → wpList P ops Q rest (a.put o.dst v') w') : wpList P ops Q (o :: rest) a w := by
  obtain ⟨i0, hi, hz0, hz1, hz2⟩ := info_parts E.info
  refine wpList_append_own _ hgd s x E.t ho B E.e i0 E.zero E.size E.bytes E.ht hi hz0 hz1 hz2 E.hzs E.hsz v l.length (l.flatMap E.enc) hs hown xa m.length c (m.flatMap E.enc) hx (E.len m) hm ?_ ?_ ?_ hB ?_
  · intro u hu
    obtain ⟨y, _, hy⟩ := List.mem_flatMap.1 hu
    exact E.hone y u hy
  · unfold maxLen; omega
  · have h1 := E.hby
    have h2 : (l.length + m.length) * E.bytes ≤ 100000000 * 1000 := Nat.mul_le_mul hlen h1
    omega
  · intro v' w' ho' hg _
    refine h v' w' ?_ hg
    unfold Own
    rw [List.length_append, List.flatMap_append]
    exact ho'
theorem cells_addr {w : World} {b o : Nat} {cs : List Value} (h : CellsAt w b o cs) : ∀ j u, cs[j]? = some u → w.cell? ((⟨b, o, none⟩ : Addr).add j) = some u := by
  intro j u hj
  have := h j u hj
  unfold Addr.add
  by_cases h0 : j = 0
  · subst h0; rw [if_pos rfl]; exact this
  · rw [if_neg h0]; exact this
theorem sl_addrInts {w : World} {D : Nat → Prop} {xa : Addr} {l : List Int} (h : IntSl w D (some xa) l) : ∀ j u, (l.flatMap intE.enc)[j]? = some u → w.cell? (xa.add j) = some u := by
  by_cases h0 : 1 ≤ l.length
  · obtain ⟨b, o, e, hc⟩ := sl_cellsInts h h0
    injection e with e
    subst e
    exact cells_addr hc
  · have : l = [] := List.length_eq_zero_iff.1 (by omega)
    subst this
    intro j u hj
    simp at hj
theorem sl_addrInstrs {w : World} {D : Nat → Prop} {xa : Addr} {l : List Ins} (h : InsSlD w D (some xa) l) : ∀ j u, (l.flatMap insE.enc)[j]? = some u → w.cell? (xa.add j) = some u := by
  by_cases h0 : 1 ≤ l.length
  · obtain ⟨b, o, e, hc⟩ := sl_cellsInstrs h h0
    injection e with e
    subst e
    exact cells_addr hc
  · have : l = [] := List.length_eq_zero_iff.1 (by omega)
    subst this
    intro j u hj
    simp at hj
theorem alloc_cells {w : World} {xa : Addr} {o : Obj} {v : Value} (h : w.cell? xa = some v) : (w.alloc o).cell? xa = some v := by
  have hp := plain_addr h
  rw [hp] at h ⊢
  rw [cell_under _ _ (World.block_lt h)]; exact h
theorem eq_nil_run {α : Type} (E : Elem Try.prog α) (a : Option Addr) (n c : Nat) (w : World) : (binOp .eql E.t (.slice a n c) (.slice none 0 0)).run Try.prog w = .ok (.bool a.isNone) w := by
  have h : (Op.equalIn (9999 + 1) E.t (.slice a n c) (.slice none 0 0)).run Try.prog w = .ok a.isNone w := by
    unfold Op.equalIn
    cases a <;> simp [run_underlying E.ht]
  have h2 : binOp .eql E.t (.slice a n c) (.slice none 0 0) = (do pure (.bool (← Op.equalIn (9999 + 1) E.t (.slice a n c) (.slice none 0 0)))) := rfl
  rw [h2]
  simp [h]
set_option maxRecDepth 100000 in
set_option maxHeartbeats 1600000 in
theorem cloneInts_any (w : World) (D : Nat → Prop) (a : Option Addr) (l : List Int) (c : Nat) (hsl : IntSl w D a l) (hn : l.length ≤ 1000000) :
    Calls Try.prog 129 #[.slice a l.length c] w fun e w' => ∃ v, e = .returned v ∧ Own intE w' w.heap.size v l ∧ Below w.heap.size w w' := by
  cases a with
  | none =>
    have hl : l = [] := by
      cases l with
      | nil => rfl
      | cons x l => obtain ⟨b, o, h, _⟩ := hsl 0 (by simp); cases h
    subst hl
    have hnil := fun w => eq_nil_run intE none 0 c w
    have hnil : ∀ w, (binOp .eql 63 (.slice none 0 c) (.slice none 0 0)).run Try.prog w = .ok (.bool true) w := hnil
    go_enter Try.func129, Try.ntmps129
    go_wp2_with fail
    go_ret
    exact ⟨_, rfl, Own.nil _ _ _, Below.refl _ _⟩
  | some xa =>
    have hc := sl_addrInts hsl
    have ho := own_new intE w [] #[] rfl (by decide)
    have hb0 := (Below.refl w.heap.size w).alloc (Nat.le_refl _) (.cells #[] intE.e)
    have hc2 := fun j u hj => alloc_cells (o := .cells #[] intE.e) (hc j u hj)
    have hnil := fun w => eq_nil_run intE (some xa) l.length c w
    have hnil : ∀ w, (binOp .eql 63 (.slice (some xa) l.length c) (.slice none 0 0)).run Try.prog w = .ok (.bool false) w := hnil
    clear hsl hc
    have HC2 := Lib.hid hc2; clear hc2
    have HO := Lib.hid ho; clear ho
    have HB0 := Lib.hid hb0; clear hb0
    go_enter Try.func129, Try.ntmps129
    go_wp2_with (at_builtin; refine append_own_addr intE rfl (.tmp 5) (.tmp 6) rfl w.heap.size [] l _ rfl HO.out xa c rfl HC2.out ?c1 ?c2 ?_)
    case c1 => simp; omega
    case c2 => simp
    intro v2 w2 hown2 hg2
    have hB2 := below_grown HB0.out HO.out hg2 (by simp) (Nat.le_refl _)
    clear hg2
    have HB2 := Lib.hid hB2; clear hB2
    have HOWN2 := Lib.hid hown2; clear hown2
    go_wp2_with fail
    go_ret
    exact ⟨_, rfl, HOWN2.out, HB2.out⟩
set_option maxRecDepth 100000 in
set_option maxHeartbeats 1600000 in
theorem cloneInstrs_any (w : World) (D : Nat → Prop) (a : Option Addr) (l : List Ins) (c : Nat) (hsl : InsSlD w D a l) (hn : l.length ≤ 1000000) :
    Calls Try.prog 130 #[.slice a l.length c] w fun e w' => ∃ v, e = .returned v ∧ Own insE w' w.heap.size v l ∧ Below w.heap.size w w' := by
  cases a with
  | none =>
    have hl : l = [] := by
      cases l with
      | nil => rfl
      | cons x l => obtain ⟨b, o, h, _⟩ := hsl 0 (by simp); cases h
    subst hl
    have hnil := fun w => eq_nil_run insE none 0 c w
    have hnil : ∀ w, (binOp .eql 35 (.slice none 0 c) (.slice none 0 0)).run Try.prog w = .ok (.bool true) w := hnil
    go_enter Try.func130, Try.ntmps130
    go_wp2_with fail
    go_ret
    exact ⟨_, rfl, Own.nil _ _ _, Below.refl _ _⟩
  | some xa =>
    have hc := sl_addrInstrs hsl
    have ho := own_new insE w [] #[] rfl (by decide)
    have hb0 := (Below.refl w.heap.size w).alloc (Nat.le_refl _) (.cells #[] insE.e)
    have hc2 := fun j u hj => alloc_cells (o := .cells #[] insE.e) (hc j u hj)
    have hnil := fun w => eq_nil_run insE (some xa) l.length c w
    have hnil : ∀ w, (binOp .eql 35 (.slice (some xa) l.length c) (.slice none 0 0)).run Try.prog w = .ok (.bool false) w := hnil
    clear hsl hc
    have HC2 := Lib.hid hc2; clear hc2
    have HO := Lib.hid ho; clear ho
    have HB0 := Lib.hid hb0; clear hb0
    go_enter Try.func130, Try.ntmps130
    go_wp2_with (at_builtin; refine append_own_addr insE rfl (.tmp 5) (.tmp 6) rfl w.heap.size [] l _ rfl HO.out xa c rfl HC2.out ?c1 ?c2 ?_)
    case c1 => simp; omega
    case c2 => simp
    intro v2 w2 hown2 hg2
    have hB2 := below_grown HB0.out HO.out hg2 (by simp) (Nat.le_refl _)
    clear hg2
    have HB2 := Lib.hid hB2; clear hB2
    have HOWN2 := Lib.hid hown2; clear hown2
    go_wp2_with fail
    go_ret
    exact ⟨_, rfl, HOWN2.out, HB2.out⟩
end Go.Proofs.Ytmmdppjbofbjhaa
