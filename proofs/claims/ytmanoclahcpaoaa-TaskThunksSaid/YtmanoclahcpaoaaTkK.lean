/- Walks: a state's lists, copied; one more mark. -/
import Derived.Test.YtmanoclahcpaoaaTkJ
import Derived.Laws.IdiomStrings
namespace Go.Proofs.Ytmanoclahcpaoaa
open Go.ChangeShapes Go.WideShapes Go.ChangeAt Go.RowKit Go.Maps

theorem append_own_addr {P : Program} {α : Type} (E : Elem P α) {ops : Array Oper} {rest : List Oper} {o : Oper} {a : Act} {Q : Exit → Act → World → Prop} {w : World} (hgd : o.guard = none) (s x : Operand)
    (ho : o.op = .call { callee := .builtin .append, args := #[s, x], argTypes := #[E.t, E.t] })
    (B : Nat) (l m : List α) (v : Value) (hs : a.eval s = v) (hown : Own E w B v l) (xa : Addr) (c : Nat) (hx : a.eval x = .slice (some xa) m.length c)
    (hm : ∀ j u, (m.flatMap E.enc)[j]? = some u → w.cell? (xa.add j) = some u) (hlen : l.length + m.length ≤ 100000000) (hB : B ≤ w.heap.size)
    (h : ∀ v' w', Own E w' B v' (l ++ m) → w.grownBy w' v.ownBlock → wpList P ops Q rest (a.put o.dst v') w') : wpList P ops Q (o :: rest) a w := by
  obtain ⟨i0, hi, hz0, hz1, hz2⟩ := info_parts E.info
  refine wpList_append_own _ hgd s x E.t ho B E.e i0 E.zero E.size E.bytes E.ht hi hz0 hz1 hz2 E.hzs E.hsz v l.length (l.flatMap E.enc) hs hown xa m.length c (m.flatMap E.enc) hx (E.len m) hm ?_ ?_ ?_ hB ?_
  · intro u hu
    obtain ⟨y, _, hy⟩ := List.mem_flatMap.1 hu
    exact E.hone y u hy
  · unfold maxLen; omega
  · have h1 := E.hby
    have h2 : (l.length + m.length) * E.bytes ≤ 100000000 * 1000 := Nat.mul_le_mul hlen h1
    omega
  · intro v' w' ho' hg _
    refine h v' w' ?_ hg
    unfold Own
    rw [List.length_append, List.flatMap_append]
    exact ho'
theorem alloc_cellA {w : World} {b j : Nat} {o : Obj} {v : Value} (h : w.cell? ((⟨b, 0, none⟩ : Addr).add j) = some v) : (w.alloc o).cell? ((⟨b, 0, none⟩ : Addr).add j) = some v := by
  have hb : ((⟨b, 0, none⟩ : Addr).add j).block < w.heap.size := World.block_lt h
  rw [cell_under _ _ hb]; exact h
theorem eq_nil_run {α : Type} (E : Elem Try.prog α) (a : Option Addr) (n c : Nat) (w : World) : (binOp .eql E.t (.slice a n c) (.slice none 0 0)).run Try.prog w = .ok (.bool a.isNone) w := by
  have h : (Op.equalIn (9999 + 1) E.t (.slice a n c) (.slice none 0 0)).run Try.prog w = .ok a.isNone w := by
    unfold Op.equalIn
    cases a <;> simp [run_underlying E.ht]
  have h2 : binOp .eql E.t (.slice a n c) (.slice none 0 0) = (do pure (.bool (← Op.equalIn (9999 + 1) E.t (.slice a n c) (.slice none 0 0)))) := rfl
  rw [h2]
  simp [h]
structure Alarm where (code ptr run : Int) (exit recovered : Bool)
set_option maxRecDepth 100000 in
def alarmE : Elem Try.prog Alarm where
  e := 88
  t := 48
  size := 5
  bytes := 32
  zero := .agg #[.int .i64 0, .int .i64 0, .int .i64 0, .bool false, .bool false]
  enc := fun x => [.int .i64 x.code, .int .i64 x.ptr, .int .i64 x.run, .bool x.exit, .bool x.recovered]
  ht := Try.underlying48
  info := by kernel_rfl
  hzs := rfl
  hsz := by decide
  hby := by decide
  henc := fun _ => rfl
  hone := fun x u h => by simp at h; rcases h with rfl | rfl | rfl | rfl | rfl <;> rfl
set_option maxRecDepth 100000 in
theorem cloneAlarms_nil (w : World) :
    Calls Try.prog 41 #[.slice none 0 0] w fun e w' => e = .returned (.slice none 0 0) ∧ w = w' := by
  have hnil := fun w => eq_nil_run alarmE none 0 0 w
  have hnil : ∀ w, (binOp .eql 48 (.slice none 0 0) (.slice none 0 0)).run Try.prog w = .ok (.bool true) w := hnil
  go_enter Try.func41, Try.ntmps41
  go_wp2_with fail
  go_ret
  exact ⟨rfl, rfl⟩
set_option maxRecDepth 100000 in
set_option maxHeartbeats 1600000 in
theorem cloneMarks_any (w : World) (B : Nat) (v : Value) (l : List Mark) (h : Own markE w B v l) (hn : l.length ≤ 100000) :
    Calls Try.prog 54 #[v] w fun e w' => ∃ v', e = .returned v' ∧ Own markE w' w.heap.size v' l ∧ Below w.heap.size w w' := by
  have hc := fun g hg => World.ownsRow.cells (g := g) h hg
  rcases h.2 with ⟨rfl, h0⟩ | ⟨g, cap, cur, rfl, hg, hh, _⟩
  · have hl : l = [] := List.length_eq_zero_iff.1 h0
    subst hl
    have hnil := fun w => eq_nil_run markE none 0 0 w
    have hnil : ∀ w, (binOp .eql 62 (.slice none 0 0) (.slice none 0 0)).run Try.prog w = .ok (.bool true) w := hnil
    clear hc h h0
    go_enter Try.func54, Try.ntmps54
    go_wp2_with fail
    go_ret
    exact ⟨_, rfl, Own.nil _ _ _, Below.refl _ _⟩
  · have hc1 := hc g rfl
    have ho := own_new markE w [] #[] rfl (by decide)
    have hb0 := (Below.refl w.heap.size w).alloc (Nat.le_refl _) (.cells #[] markE.e)
    have hc2 := fun j u hj => alloc_cellA (o := .cells #[] markE.e) (hc1 j u hj)
    have hnil := fun w => eq_nil_run markE (some ⟨g, 0, none⟩) l.length cap w
    have hnil : ∀ w, (binOp .eql 62 (.slice (some ⟨g, 0, none⟩) l.length cap) (.slice none 0 0)).run Try.prog w = .ok (.bool false) w := hnil
    clear hc hc1 h
    have HC2 := Lib.hid hc2; clear hc2
    have HO := Lib.hid ho; clear ho
    have HB0 := Lib.hid hb0; clear hb0
    go_enter Try.func54, Try.ntmps54
    go_wp2_with (at_builtin; refine append_own_addr markE rfl (.tmp 5) (.tmp 6) rfl w.heap.size [] l _ rfl HO.out ⟨g, 0, none⟩ cap rfl HC2.out ?c1 ?c2 ?_)
    case c1 => simp; omega
    case c2 => simp
    intro v2 w2 hown2 hg2
    have hB2 := below_grown HB0.out HO.out hg2 (by simp) (Nat.le_refl _)
    clear hg2
    have HB2 := Lib.hid hB2; clear hB2
    have HOWN2 := Lib.hid hown2; clear hown2
    go_wp2_with fail
    go_ret
    exact ⟨_, rfl, HOWN2.out, HB2.out⟩
end Go.Proofs.Ytmanoclahcpaoaa
