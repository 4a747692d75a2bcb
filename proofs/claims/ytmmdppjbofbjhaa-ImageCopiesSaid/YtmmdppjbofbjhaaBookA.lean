/- Walks: the book's lists: copies, marks; are they still what they were? -/
import Derived.Test.YtmmdppjbofbjhaaFam
import Derived.Test.YtmmdppjbofbjhaaRSame
import Derived.Test.YtmmdppjbofbjhaaRefB
namespace Go.Proofs.Ytmmdppjbofbjhaa
open Go.ChangeShapes Go.WideShapes Go.ChangeAt Go.RowKit

def intsE : Elem Try.prog Hd where
  e := 63
  t := 43
  size := 1
  bytes := 24
  zero := .slice none 0 0
  enc := fun h => [h.val]
  ht := Try.underlying43
  info := by kernel_rfl
  hzs := rfl
  hsz := by decide
  hby := by decide
  henc := fun _ => rfl
  hone := fun x u h => by simp at h; subst h; rfl
def inssE : Elem Try.prog Hd where
  e := 35
  t := 44
  size := 1
  bytes := 24
  zero := .slice none 0 0
  enc := fun h => [h.val]
  ht := Try.underlying44
  info := by kernel_rfl
  hzs := rfl
  hsz := by decide
  hby := by decide
  henc := fun _ => rfl
  hone := fun x u h => by simp at h; subst h; rfl
/-- a mark -/
def mkInts (i k : Nat) : Int := -1000000 * (i : Int) - (k : Int) - 7
def mkInstrs (i k : Nat) : Ins := ⟨-1000 * (i : Int) - (k : Int) - 1, 0, 0, 0⟩
def marks {α : Type} (mk : Nat → Nat → α) (i f n : Nat) : List α := (List.range n).map fun t => mk i (f + t)
theorem marks_succ {α : Type} (mk : Nat → Nat → α) (i f n : Nat) : marks mk i f (n + 1) = marks mk i f n ++ [mk i (f + n)] := by simp [marks, List.range_succ]
theorem marks_len {α : Type} (mk : Nat → Nat → α) (i f n : Nat) : (marks mk i f n).length = n := by simp [marks]
theorem marks_add {α : Type} (mk : Nat → Nat → α) (i n m : Nat) : marks mk i 0 (n + m) = marks mk i 0 n ++ marks mk i n m := by
  induction m with
  | zero => simp [marks]
  | succ m ih => rw [← Nat.add_assoc, marks_succ, ih, marks_succ, List.append_assoc, Nat.zero_add]
theorem marks_get {α : Type} (mk : Nat → Nat → α) (i f n j : Nat) (h : j < (marks mk i f n).length) : (marks mk i f n)[j] = mk i (f + j) := by simp [marks]

set_option maxRecDepth 100000 in
set_option maxHeartbeats 1600000 in
theorem markInts_any (i f n : Nat) (w : World) (hi : i ≤ 1000) (hf : f ≤ 1000000) (hn : n ≤ 1000000) :
    Calls Try.prog 154 #[.int .i64 i, .int .i64 f, .int .i64 n] w fun e w' => ∃ v, e = .returned v ∧ Own intE w' w.heap.size v (marks mkInts i f n) ∧ Below w.heap.size w w' := by
  go_enter Try.func154, Try.ntmps154
  go_wp2_with fail
  go_loopw [7, 8] (fun v k wr => ∃ t : Nat, t ≤ n ∧ k = .int .i64 ((f + t : Nat) : Int) ∧ Own intE wr w.heap.size v (marks mkInts i f t) ∧ Below w.heap.size w wr) (fun _ k _ => f + n - (intOf k).toNat)
  case atStart => exact ⟨0, Nat.zero_le _, rfl, Own.nil _ _ _, Below.refl _ _⟩
  case round =>
    obtain ⟨t, ht, rfl, hown, hB⟩ := hrel
    have hlen := marks_len mkInts i f t
    by_cases hlt : t < n
    · have hlt' : ((f + t : Nat) : Int) < (f : Int) + (n : Int) := by omega
      have hms := marks_succ mkInts i f t
      have hmk : mkInts i (f + t) = (-1000000*(i:Int)-((f+t:Nat):Int)-7) := rfl
      rw [hmk] at hms
      generalize hk : f + t = k at *
      have hk0 : (k : Int) ≤ 2000000 := by omega
      have HK := Lib.hid hk; clear hk hmk
      have HMS := Lib.hid hms; clear hms
      have HOWN := Lib.hid hown; clear hown
      have HB := Lib.hid hB; clear hB
      have HLEN := Lib.hid hlen; clear hlen
      go_wp2_with (at_builtin; refine append_own intE rfl (.tmp 17) (.tmp 23) rfl w.heap.size (marks mkInts i f t) [(-1000000*(i:Int)-(k:Int)-7)] _ rfl (HOWN.out.alloc _) wr.heap.size 0 1 rfl (CellsAt.new _ _ _ _) ?c1 ?c2 ?_)
      case c1 => rw [HLEN.out]; simp; omega
      case c2 => have := HB.out.size; simp; omega
      intro v2 w2 hown2 hg2
      have hB2 := Lib.hid (below_grown (HB.out.alloc HB.out.size _) (HOWN.out.alloc _) hg2 (by have := HB.out.size; simp; omega) (Nat.le_refl _))
      have HO2 := Lib.hid hown2; clear hown2 hg2
      go_wp2_with fail
      go_roundw
      case rel => exact ⟨t + 1, by omega, by have := HK.out; first | go_num | (rw [← Nat.add_assoc, this]; go_num), by rw [HMS.out]; exact HO2.out, hB2.out⟩
      case measure => have := HK.out; simp [intOf]; omega
    · have hk' : t = n := by omega
      subst hk'
      have hge : ¬ ((f + t : Nat) : Int) < (f : Int) + (t : Int) := by omega
      have hP : ∀ v, Own intE wr w.heap.size v (marks mkInts i f t) → ∃ v', Ending.returned v = .returned v' ∧ Own intE wr w.heap.size v' (marks mkInts i f t) ∧ Below w.heap.size w wr := fun v hv => ⟨v, rfl, hv, hB⟩
      have HP := Lib.hid (hP _ hown)
      clear hP hown hB hlen hlt
      go_wp2_with fail
      go_ret
      exact HP.out
set_option maxRecDepth 100000 in
set_option maxHeartbeats 1600000 in
theorem markInstrs_any (i f n : Nat) (w : World) (hi : i ≤ 1000) (hf : f ≤ 1000000) (hn : n ≤ 1000000) :
    Calls Try.prog 155 #[.int .i64 i, .int .i64 f, .int .i64 n] w fun e w' => ∃ v, e = .returned v ∧ Own insE w' w.heap.size v (marks mkInstrs i f n) ∧ Below w.heap.size w w' := by
  go_enter Try.func155, Try.ntmps155
  go_wp2_with fail
  go_loopw [7, 8] (fun v k wr => ∃ t : Nat, t ≤ n ∧ k = .int .i64 ((f + t : Nat) : Int) ∧ Own insE wr w.heap.size v (marks mkInstrs i f t) ∧ Below w.heap.size w wr) (fun _ k _ => f + n - (intOf k).toNat)
  case atStart => exact ⟨0, Nat.zero_le _, rfl, Own.nil _ _ _, Below.refl _ _⟩
  case round =>
    obtain ⟨t, ht, rfl, hown, hB⟩ := hrel
    have hlen := marks_len mkInstrs i f t
    by_cases hlt : t < n
    · have hlt' : ((f + t : Nat) : Int) < (f : Int) + (n : Int) := by omega
      have hms := marks_succ mkInstrs i f t
      have hmk : mkInstrs i (f + t) = (⟨-1000*(i:Int)-((f+t:Nat):Int)-1,0,0,0⟩:Ins) := rfl
      rw [hmk] at hms
      generalize hk : f + t = k at *
      have hk0 : (k : Int) ≤ 2000000 := by omega
      have HK := Lib.hid hk; clear hk hmk
      have HMS := Lib.hid hms; clear hms
      have HOWN := Lib.hid hown; clear hown
      have HB := Lib.hid hB; clear hB
      have HLEN := Lib.hid hlen; clear hlen
      go_wp2_with (at_builtin; refine append_own insE rfl (.tmp 17) (.tmp 24) rfl w.heap.size (marks mkInstrs i f t) [(⟨-1000*(i:Int)-(k:Int)-1,0,0,0⟩:Ins)] _ rfl (HOWN.out.alloc _) wr.heap.size 0 1 rfl (CellsAt.new _ _ _ _) ?c1 ?c2 ?_)
      case c1 => rw [HLEN.out]; simp; omega
      case c2 => have := HB.out.size; simp; omega
      intro v2 w2 hown2 hg2
      have hB2 := Lib.hid (below_grown (HB.out.alloc HB.out.size _) (HOWN.out.alloc _) hg2 (by have := HB.out.size; simp; omega) (Nat.le_refl _))
      have HO2 := Lib.hid hown2; clear hown2 hg2
      go_wp2_with fail
      go_roundw
      case rel => exact ⟨t + 1, by omega, by have := HK.out; first | go_num | (rw [← Nat.add_assoc, this]; go_num), by rw [HMS.out]; exact HO2.out, hB2.out⟩
      case measure => have := HK.out; simp [intOf]; omega
    · have hk' : t = n := by omega
      subst hk'
      have hge : ¬ ((f + t : Nat) : Int) < (f : Int) + (t : Int) := by omega
      have hP : ∀ v, Own insE wr w.heap.size v (marks mkInstrs i f t) → ∃ v', Ending.returned v = .returned v' ∧ Own insE wr w.heap.size v' (marks mkInstrs i f t) ∧ Below w.heap.size w wr := fun v hv => ⟨v, rfl, hv, hB⟩
      have HP := Lib.hid (hP _ hown)
      clear hP hown hB hlen hlt
      go_wp2_with fail
      go_ret
      exact HP.out

theorem run_append_none {P : Program} {α : Type} (E : Elem P α) (w : World) (ty : TypeId) (b : Option Addr) (c : Nat) : (Builtin.append_ #[E.t, E.t] ty #[.slice none 0 0, .slice b 0 c]).run P w = .ok (.slice none 0 0) w := by
  obtain ⟨i0, hi, hz0, hz1, hz2⟩ := info_parts E.info
  cases b with
  | none => simp [Builtin.append_, run_underlying E.ht, sizeOf, typeInfo, hi, Builtin.lenOf, Builtin.firstCells]
  | some a =>
    have hf := run_firstCells_some (P := P) w i0.size 0 a 0 c [] (by simp) (by simp)
    simp [Builtin.append_, run_underlying E.ht, sizeOf, typeInfo, hi, Builtin.lenOf, hf]
theorem append_none_any {P : Program} {α : Type} (E : Elem P α) {ops : Array Oper} {rest : List Oper} {o : Oper} {a : Act} {Q : Exit → Act → World → Prop} {w : World} (hgd : o.guard = none) (s x : Operand)
    (ho : o.op = .call { callee := .builtin .append, args := #[s, x], argTypes := #[E.t, E.t] }) (hs : a.eval s = .slice none 0 0) (b : Option Addr) (c : Nat) (hx : a.eval x = .slice b 0 c)
    (h : wpList P ops Q rest (a.put o.dst (.slice none 0 0)) w) : wpList P ops Q (o :: rest) a w :=
  wpList_plain hgd fun _ hK => by
    have hr := run_append_none E w o.type b c
    unfold Oper.wp execOp
    simp only [ho, resolve, invoke, builtin, Sem.run_bind, Sem.run_pure, Result.andThen_ok, List.map_toArray, List.map_cons, List.map_nil, hs, hx, hr]
    exact hK _ _ h
theorem int_map (l : List Int) : l.flatMap intE.enc = l.map (Value.int .i64) := by
  induction l with
  | nil => rfl
  | cons x l ih => rw [List.flatMap_cons, ih]; rfl
theorem sl_cellsInts {w : World} {D : Nat → Prop} {a : Option Addr} {l : List Int} (h : IntSl w D a l) (hn : 1 ≤ l.length) : ∃ b o, a = some ⟨b, o, none⟩ ∧ CellsAt w b o (l.flatMap intE.enc) := by
  obtain ⟨b, o, rfl, _, _⟩ := h 0 (by omega)
  refine ⟨b, o, rfl, fun j u hj => ?_⟩
  rw [int_map] at hj
  rcases Nat.lt_or_ge j l.length with hlt | hge
  · obtain ⟨b', o', h1, _, h3⟩ := h j hlt
    injection h1 with h1
    injection h1 with h1 h2 _
    subst h1 h2
    rw [List.getElem?_map, List.getElem?_eq_getElem hlt] at hj
    injection hj with hj
    rw [← hj]; exact h3
  · rw [List.getElem?_eq_none (by simpa using hge)] at hj; cases hj
theorem sl_cellsInstrs {w : World} {D : Nat → Prop} {a : Option Addr} {l : List Ins} (h : InsSlD w D a l) (hn : 1 ≤ l.length) : ∃ b o, a = some ⟨b, o, none⟩ ∧ CellsAt w b o (l.flatMap insE.enc) := by
  obtain ⟨b, o, rfl, _, _⟩ := h 0 (by omega)
  refine ⟨b, o, rfl, fun j u hj => ?_⟩
  have hlen := insE.len l
  rcases Nat.lt_or_ge (j / 4) l.length with hlt | hge
  · obtain ⟨b', o', h1, _, h3⟩ := h (j / 4) hlt
    injection h1 with h1
    injection h1 with h1 h2 _
    subst h1 h2
    have hf := flat_cells l (j / 4) (j % 4) hlt (by omega)
    have ej : j / 4 * 4 + j % 4 = j := by omega
    rw [ej] at hf
    have hj : (l.flatMap Ins.cells)[j]? = some u := hj
    rw [hf] at hj
    obtain ⟨q0, q1, q2, q3⟩ := h3
    have hr : j % 4 < 4 := by omega
    have eo : o + j = o + j / 4 * 4 + j % 4 := by omega
    rw [eo]
    generalize j % 4 = r at *
    match r, hr, hj with
    | 0, _, hj => injection hj with hj; rw [← hj]; exact q0
    | 1, _, hj => injection hj with hj; rw [← hj]; exact q1
    | 2, _, hj => injection hj with hj; rw [← hj]; exact q2
    | 3, _, hj => injection hj with hj; rw [← hj]; exact q3
  · have : l.length * 4 ≤ j := by omega
    rw [List.getElem?_eq_none (by rw [hlen]; exact this)] at hj; cases hj
set_option maxRecDepth 100000 in
set_option maxHeartbeats 1600000 in
theorem copyInts_any (w : World) (a : Option Addr) (l : List Int) (c : Nat) (D : Nat → Prop) (hsl : IntSl w D a l) (hn : l.length ≤ 1000000) :
    Calls Try.prog 112 #[.slice a l.length c] w fun e w' => ∃ v, e = .returned v ∧ Own intE w' w.heap.size v l ∧ Below w.heap.size w w' := by
  by_cases h0 : l.length = 0
  · have hl : l = [] := List.length_eq_zero_iff.1 h0
    subst hl
    go_enter Try.func112, Try.ntmps112
    go_wp2_with (at_builtin; refine append_none_any intE rfl _ _ rfl rfl _ _ rfl ?_)
    go_wp2_with fail
    go_ret
    exact ⟨_, rfl, Own.nil _ _ _, Below.refl _ _⟩
  · obtain ⟨b, o, rfl, hcells⟩ := sl_cellsInts hsl (by omega)
    have HCELLS := Lib.hid hcells; clear hcells
    have HSL := Lib.hid hsl; clear hsl
    go_enter Try.func112, Try.ntmps112
    go_wp2_with (at_builtin; refine append_own intE rfl (.const (.slice none 0 0)) (.tmp 3) rfl w.heap.size [] l _ rfl (Own.nil _ _ _) b o c rfl HCELLS.out ?c1 ?c2 ?_)
    case c1 => simp; omega
    case c2 => exact Nat.le_refl _
    intro v2 w2 hown2 hg2
    have hB2 := Lib.hid (below_grown (Below.refl w.heap.size w) (Own.nil intE w w.heap.size) hg2 (Nat.le_refl _) (Nat.le_refl _))
    have HO2 := Lib.hid hown2; clear hown2 hg2
    go_wp2_with fail
    go_ret
    exact ⟨_, rfl, HO2.out, hB2.out⟩
set_option maxRecDepth 100000 in
set_option maxHeartbeats 1600000 in
theorem copyInstrs_any (w : World) (a : Option Addr) (l : List Ins) (c : Nat) (D : Nat → Prop) (hsl : InsSlD w D a l) (hn : l.length ≤ 1000000) :
    Calls Try.prog 87 #[.slice a l.length c] w fun e w' => ∃ v, e = .returned v ∧ Own insE w' w.heap.size v l ∧ Below w.heap.size w w' := by
  by_cases h0 : l.length = 0
  · have hl : l = [] := List.length_eq_zero_iff.1 h0
    subst hl
    go_enter Try.func87, Try.ntmps87
    go_wp2_with (at_builtin; refine append_none_any insE rfl _ _ rfl rfl _ _ rfl ?_)
    go_wp2_with fail
    go_ret
    exact ⟨_, rfl, Own.nil _ _ _, Below.refl _ _⟩
  · obtain ⟨b, o, rfl, hcells⟩ := sl_cellsInstrs hsl (by omega)
    have HCELLS := Lib.hid hcells; clear hcells
    have HSL := Lib.hid hsl; clear hsl
    go_enter Try.func87, Try.ntmps87
    go_wp2_with (at_builtin; refine append_own insE rfl (.const (.slice none 0 0)) (.tmp 3) rfl w.heap.size [] l _ rfl (Own.nil _ _ _) b o c rfl HCELLS.out ?c1 ?c2 ?_)
    case c1 => simp; omega
    case c2 => exact Nat.le_refl _
    intro v2 w2 hown2 hg2
    have hB2 := Lib.hid (below_grown (Below.refl w.heap.size w) (Own.nil insE w w.heap.size) hg2 (Nat.le_refl _) (Nat.le_refl _))
    have HO2 := Lib.hid hown2; clear hown2 hg2
    go_wp2_with fail
    go_ret
    exact ⟨_, rfl, HO2.out, hB2.out⟩

/-- the book's block -/
def bkObj (cs : Array Value) : Obj := .cells cs 49
/-- two fields of the book: heads of lists, and of their copies -/
def Two (w : World) (p i0 i1 : Nat) (v v' : Value) : Prop := w.cell? ⟨p, i0, none⟩ = some v ∧ w.cell? ⟨p, i1, none⟩ = some v'
set_option maxRecDepth 100000 in
set_option maxHeartbeats 3200000 in
theorem stillInts_any (w : World) (p B : Nat) (X X' : Nat → Prop) (v v' : Value) (hs hs' : List Hd) (ls : List (List Int)) (h2 : Two w p 0 1 v v') (hF : Fam intE intsE w B X v hs ls) (hF' : Fam intE intsE w B X' v' hs' ls)
    (hn : ls.length ≤ 1000) (hl : ∀ l ∈ ls, l.length ≤ 100000) :
    Calls Try.prog 90 #[.pointer (some ⟨p, 0, none⟩)] w fun e w' => e = .returned (.bool true) ∧ ∃ n, w' = w.drewN n := by
  obtain ⟨q0, q1⟩ := h2
  obtain ⟨a, c, rfl⟩ := hF.slice
  obtain ⟨a', c', rfl⟩ := hF'.slice
  have HF := Lib.hid hF; clear hF
  have HF' := Lib.hid hF'; clear hF'
  have HL := Lib.hid hl; clear hl
  go_enter Try.func90, Try.ntmps90
  go_wp2_with fail
  go_loopw [3] (fun i wr => ∃ k : Nat, k ≤ ls.length ∧ i = .int .i64 k ∧ ∃ n, wr = w.drewN n) (fun i _ => ls.length - (intOf i).toNat)
  case atStart => exact ⟨0, Nat.zero_le _, rfl, 0, rfl⟩
  case round =>
    obtain ⟨k, hk, rfl, n, hwr⟩ := hrel
    have r0 : wr.cell? ⟨p, 0, none⟩ = some (.slice a ls.length c) := by rw [hwr]; exact q0
    have r1 : wr.cell? ⟨p, 1, none⟩ = some (.slice a' ls.length c') := by rw [hwr]; exact q1
    by_cases hlt : k < ls.length
    · obtain ⟨g, c2, he, _, hj, hc, ho⟩ := HF.out.head rfl (fun _ => rfl) k hlt
      obtain ⟨g', c2', he', _, hj', hc', ho'⟩ := HF'.out.head rfl (fun _ => rfl) k hlt
      injection he with e1 e2 e3
      injection he' with e1' e2' e3'
      subst e1 e3 e1' e3'
      obtain ⟨x, y, hx, hsl⟩ := own_int ho
      obtain ⟨x', y', hx', hsl'⟩ := own_int ho'
      rw [hx] at hc
      rw [hx'] at hc'
      have hc : wr.cell? ⟨g, k, none⟩ = some (.slice x ls[k].length y) := by rw [hwr]; exact hc
      have hc' : wr.cell? ⟨g', k, none⟩ = some (.slice x' ls[k].length y') := by rw [hwr]; exact hc'
      have hlk := HL.out _ (List.getElem_mem hlt)
      have sm := fun m => sameInts_any (wr.drewN m) _ _ x x' ls[k] ls[k] y y' (show IntSl (wr.drewN m) _ x ls[k] from by rw [hwr]; exact hsl) (show IntSl (wr.drewN m) _ x' ls[k] from by rw [hwr]; exact hsl') (by omega) (by omega)
      rw [show decide (ls[k] = ls[k]) = true from by simp] at sm
      clear hx hx' hsl hsl' ho ho' hj hj'
      generalize ls[k] = l at *
      have SM := Lib.hid sm; clear sm
      have HWR := Lib.hid hwr; clear hwr
      go_wp2_with fail
      go_quiet ((go_at_call 54; exact Calls.quiet_of (SM.out _)))
      go_wp2_with fail
      go_roundw
      case rel => exact ⟨k + 1, by omega, by go_num, by rw [HWR.out]; exact ⟨_, by first | rfl | (simp; rfl)⟩⟩
      case measure => simp [intOf]; omega
    · skip
      have HWR := Lib.hid hwr; clear hwr
      go_wp2_with fail
      go_ret
      exact ⟨rfl, by rw [HWR.out]; exact ⟨_, rfl⟩⟩
set_option maxRecDepth 100000 in
set_option maxHeartbeats 3200000 in
theorem stillInstrs_any (w : World) (p B : Nat) (X X' : Nat → Prop) (v v' : Value) (hs hs' : List Hd) (ls : List (List Ins)) (h2 : Two w p 2 3 v v') (hF : Fam insE inssE w B X v hs ls) (hF' : Fam insE inssE w B X' v' hs' ls)
    (hn : ls.length ≤ 1000) (hl : ∀ l ∈ ls, l.length ≤ 100000) :
    Calls Try.prog 91 #[.pointer (some ⟨p, 0, none⟩)] w fun e w' => e = .returned (.bool true) ∧ ∃ n, w' = w.drewN n := by
  obtain ⟨q0, q1⟩ := h2
  obtain ⟨a, c, rfl⟩ := hF.slice
  obtain ⟨a', c', rfl⟩ := hF'.slice
  have HF := Lib.hid hF; clear hF
  have HF' := Lib.hid hF'; clear hF'
  have HL := Lib.hid hl; clear hl
  go_enter Try.func91, Try.ntmps91
  go_wp2_with fail
  go_loopw [3] (fun i wr => ∃ k : Nat, k ≤ ls.length ∧ i = .int .i64 k ∧ ∃ n, wr = w.drewN n) (fun i _ => ls.length - (intOf i).toNat)
  case atStart => exact ⟨0, Nat.zero_le _, rfl, 0, rfl⟩
  case round =>
    obtain ⟨k, hk, rfl, n, hwr⟩ := hrel
    have r0 : wr.cell? ⟨p, 2, none⟩ = some (.slice a ls.length c) := by rw [hwr]; exact q0
    have r1 : wr.cell? ⟨p, 3, none⟩ = some (.slice a' ls.length c') := by rw [hwr]; exact q1
    by_cases hlt : k < ls.length
    · obtain ⟨g, c2, he, _, hj, hc, ho⟩ := HF.out.head rfl (fun _ => rfl) k hlt
      obtain ⟨g', c2', he', _, hj', hc', ho'⟩ := HF'.out.head rfl (fun _ => rfl) k hlt
      injection he with e1 e2 e3
      injection he' with e1' e2' e3'
      subst e1 e3 e1' e3'
      obtain ⟨x, y, hx, hsl⟩ := own_insD ho
      obtain ⟨x', y', hx', hsl'⟩ := own_insD ho'
      rw [hx] at hc
      rw [hx'] at hc'
      have hc : wr.cell? ⟨g, k, none⟩ = some (.slice x ls[k].length y) := by rw [hwr]; exact hc
      have hc' : wr.cell? ⟨g', k, none⟩ = some (.slice x' ls[k].length y') := by rw [hwr]; exact hc'
      have hlk := HL.out _ (List.getElem_mem hlt)
      have sm := fun m => sameInstrs_any (wr.drewN m) _ _ x x' ls[k] ls[k] y y' (show InsSlD (wr.drewN m) _ x ls[k] from by rw [hwr]; exact hsl) (show InsSlD (wr.drewN m) _ x' ls[k] from by rw [hwr]; exact hsl') (by omega) (by omega)
      rw [show decide (ls[k] = ls[k]) = true from by simp] at sm
      clear hx hx' hsl hsl' ho ho' hj hj'
      generalize ls[k] = l at *
      have SM := Lib.hid sm; clear sm
      have HWR := Lib.hid hwr; clear hwr
      go_wp2_with fail
      go_quiet ((go_at_call 41; exact Calls.quiet_of (SM.out _)))
      go_wp2_with fail
      go_roundw
      case rel => exact ⟨k + 1, by omega, by go_num, by rw [HWR.out]; exact ⟨_, by first | rfl | (simp; rfl)⟩⟩
      case measure => simp [intOf]; omega
    · skip
      have HWR := Lib.hid hwr; clear hwr
      go_wp2_with fail
      go_ret
      exact ⟨rfl, by rw [HWR.out]; exact ⟨_, rfl⟩⟩
end Go.Proofs.Ytmmdppjbofbjhaa
