import Derived.Test.YtjcjhfnjamphlaaGreatZAd
import Derived.Test.YtjcjhfnjamphlaaGreatZAe
import Derived.BigRegion
import Derived.Deep.DeepCutAuto
import Derived.Deep.RegionLaw
import Derived.Deep.RegionHeld3
set_option linter.unusedVariables false
set_option linter.unusedSimpArgs false
namespace Go.Proofs.YtjcjhfnjamphlaaGreat
open Go.ChangeShapes Go.WideShapes Go.ChangeAt Go.RowKit
def intsE : Elem Tryz.prog Hd where
 e := 22
 t := 39
 size := 1
 bytes := 24
 zero := .slice none 0 0
 enc := fun h => [h.val]
 ht := Tryz.underlying39
 info := by kernel_rfl
 hzs := rfl
 hsz := by decide
 hby := by decide
 henc := fun _ => rfl
 hone := fun x u h => by simp at h; subst h; rfl
def inssE : Elem Tryz.prog Hd where
 e := 56
 t := 40
 size := 1
 bytes := 24
 zero := .slice none 0 0
 enc := fun h => [h.val]
 ht := Tryz.underlying40
 info := by kernel_rfl
 hzs := rfl
 hsz := by decide
 hby := by decide
 henc := fun _ => rfl
 hone := fun x u h => by simp at h; subst h; rfl
def mkInts (i k : Nat) : Int := -1000000 * (i : Int) - (k : Int) - 7
def mkInstrs (i k : Nat) : Ins := ⟨-1000 * (i : Int) - (k : Int) - 1, 0, 0, 0⟩
def marks {α : Type} (mk : Nat → Nat → α) (i f n : Nat) : List α := (List.range n).map fun t => mk i (f + t)
theorem marks_succ {α : Type} (mk : Nat → Nat → α) (i f n : Nat) : marks mk i f (n + 1) = marks mk i f n ++ [mk i (f + n)] := by simp [marks, List.range_succ]
theorem marks_len {α : Type} (mk : Nat → Nat → α) (i f n : Nat) : (marks mk i f n).length = n := by simp [marks]
theorem marks_add {α : Type} (mk : Nat → Nat → α) (i n m : Nat) : marks mk i 0 (n + m) = marks mk i 0 n ++ marks mk i n m := by
 induction m with
 | zero => simp [marks]
 | succ m ih => rw [← Nat.add_assoc, marks_succ, ih, marks_succ, List.append_assoc, Nat.zero_add]
theorem marks_get {α : Type} (mk : Nat → Nat → α) (i f n j : Nat) (h : j < (marks mk i f n).length) : (marks mk i f n)[j] = mk i (f + j) := by simp [marks]
set_option maxRecDepth 100000 in
set_option maxHeartbeats 1600000 in
theorem markInts_any (i f n : Nat) (w : World) (hi : i ≤ 1000) (hf : f ≤ 1000000) (hn : n ≤ 1000000) :
  Calls Tryz.prog 69 #[.int .i64 i, .int .i64 f, .int .i64 n] w fun e w' => ∃ v, e = .returned v ∧ Own intE w' w.heap.size v (marks mkInts i f n) ∧ Below w.heap.size w w' := by
 go_enter Tryz.func69, Tryz.ntmps69
 go_wp2_with fail
 go_loopw [7, 8] (fun v k wr => ∃ t : Nat, t ≤ n ∧ k = .int .i64 ((f + t : Nat) : Int) ∧ Own intE wr w.heap.size v (marks mkInts i f t) ∧ Below w.heap.size w wr) (fun _ k _ => f + n - (intOf k).toNat)
 case atStart => exact ⟨0, Nat.zero_le _, rfl, Own.nil _ _ _, Below.refl _ _⟩
 case round =>
  obtain ⟨t, ht, rfl, hown, hB⟩ := hrel
  have hlen := marks_len mkInts i f t
  by_cases hlt : t < n
  ·have hlt' : ((f + t : Nat) : Int) < (f : Int) + (n : Int) := by omega
   have hms := marks_succ mkInts i f t
   have hmk : mkInts i (f + t) = (-1000000*(i:Int)-((f+t:Nat):Int)-7) := rfl
   rw [hmk] at hms
   generalize hk : f + t = k at *
   have hk0 : (k : Int) ≤ 2000000 := by omega
   have HK := Lib.hid hk; clear hk hmk
   have HMS := Lib.hid hms; clear hms
   have HOWN := Lib.hid hown; clear hown
   have HB := Lib.hid hB; clear hB
   have HLEN := Lib.hid hlen; clear hlen
   go_wp2_with (at_builtin; refine append_own intE rfl (.tmp 17) (.tmp 23) rfl w.heap.size (marks mkInts i f t) [(-1000000*(i:Int)-(k:Int)-7)] _ rfl (HOWN.out.alloc _) wr.heap.size 0 1 rfl (CellsAt.new _ _ _ _) ?c1 ?c2 ?_)
   case c1 => rw [HLEN.out]; simp; omega
   case c2 => have := HB.out.size; simp; omega
   intro v2 w2 hown2 hg2
   have hB2 := Lib.hid (below_grown (HB.out.alloc HB.out.size _) (HOWN.out.alloc _) hg2 (by have := HB.out.size; simp; omega) (Nat.le_refl _))
   have HO2 := Lib.hid hown2; clear hown2 hg2
   go_wp2_with fail
   go_roundw
   case rel => exact ⟨t + 1, by omega, by have := HK.out; first | go_num | (rw [← Nat.add_assoc, this]; go_num), by rw [HMS.out]; exact HO2.out, hB2.out⟩
   case measure => have := HK.out; simp [intOf]; omega
  ·have hk' : t = n := by omega
   subst hk'
   have hge : ¬ ((f + t : Nat) : Int) < (f : Int) + (t : Int) := by omega
   have hP : ∀ v, Own intE wr w.heap.size v (marks mkInts i f t) → ∃ v', Ending.returned v = .returned v' ∧ Own intE wr w.heap.size v' (marks mkInts i f t) ∧ Below w.heap.size w wr := fun v hv => ⟨v, rfl, hv, hB⟩
   have HP := Lib.hid (hP _ hown)
   clear hP hown hB hlen hlt
   go_wp2_with fail
   go_ret
   exact HP.out
set_option maxRecDepth 100000 in
set_option maxHeartbeats 1600000 in
theorem markInstrs_any (i f n : Nat) (w : World) (hi : i ≤ 1000) (hf : f ≤ 1000000) (hn : n ≤ 1000000) :
  Calls Tryz.prog 70 #[.int .i64 i, .int .i64 f, .int .i64 n] w fun e w' => ∃ v, e = .returned v ∧ Own insE w' w.heap.size v (marks mkInstrs i f n) ∧ Below w.heap.size w w' := by
 go_enter Tryz.func70, Tryz.ntmps70
 go_wp2_with fail
 go_loopw [7, 8] (fun v k wr => ∃ t : Nat, t ≤ n ∧ k = .int .i64 ((f + t : Nat) : Int) ∧ Own insE wr w.heap.size v (marks mkInstrs i f t) ∧ Below w.heap.size w wr) (fun _ k _ => f + n - (intOf k).toNat)
 case atStart => exact ⟨0, Nat.zero_le _, rfl, Own.nil _ _ _, Below.refl _ _⟩
 case round =>
  obtain ⟨t, ht, rfl, hown, hB⟩ := hrel
  have hlen := marks_len mkInstrs i f t
  by_cases hlt : t < n
  ·have hlt' : ((f + t : Nat) : Int) < (f : Int) + (n : Int) := by omega
   have hms := marks_succ mkInstrs i f t
   have hmk : mkInstrs i (f + t) = (⟨-1000*(i:Int)-((f+t:Nat):Int)-1,0,0,0⟩:Ins) := rfl
   rw [hmk] at hms
   generalize hk : f + t = k at *
   have hk0 : (k : Int) ≤ 2000000 := by omega
   have HK := Lib.hid hk; clear hk hmk
   have HMS := Lib.hid hms; clear hms
   have HOWN := Lib.hid hown; clear hown
   have HB := Lib.hid hB; clear hB
   have HLEN := Lib.hid hlen; clear hlen
   go_wp2_with (at_builtin; refine append_own insE rfl (.tmp 17) (.tmp 24) rfl w.heap.size (marks mkInstrs i f t) [(⟨-1000*(i:Int)-(k:Int)-1,0,0,0⟩:Ins)] _ rfl (HOWN.out.alloc _) wr.heap.size 0 1 rfl (CellsAt.new _ _ _ _) ?c1 ?c2 ?_)
   case c1 => rw [HLEN.out]; simp; omega
   case c2 => have := HB.out.size; simp; omega
   intro v2 w2 hown2 hg2
   have hB2 := Lib.hid (below_grown (HB.out.alloc HB.out.size _) (HOWN.out.alloc _) hg2 (by have := HB.out.size; simp; omega) (Nat.le_refl _))
   have HO2 := Lib.hid hown2; clear hown2 hg2
   go_wp2_with fail
   go_roundw
   case rel => exact ⟨t + 1, by omega, by have := HK.out; first | go_num | (rw [← Nat.add_assoc, this]; go_num), by rw [HMS.out]; exact HO2.out, hB2.out⟩
   case measure => have := HK.out; simp [intOf]; omega
  ·have hk' : t = n := by omega
   subst hk'
   have hge : ¬ ((f + t : Nat) : Int) < (f : Int) + (t : Int) := by omega
   have hP : ∀ v, Own insE wr w.heap.size v (marks mkInstrs i f t) → ∃ v', Ending.returned v = .returned v' ∧ Own insE wr w.heap.size v' (marks mkInstrs i f t) ∧ Below w.heap.size w wr := fun v hv => ⟨v, rfl, hv, hB⟩
   have HP := Lib.hid (hP _ hown)
   clear hP hown hB hlen hlt
   go_wp2_with fail
   go_ret
   exact HP.out
theorem run_append_none {P : Program} {α : Type} (E : Elem P α) (w : World) (ty : TypeId) (b : Option Addr) (c : Nat) : (Builtin.append_ #[E.t, E.t] ty #[.slice none 0 0, .slice b 0 c]).run P w = .ok (.slice none 0 0) w := by
 obtain ⟨i0, hi, hz0, hz1, hz2⟩ := info_parts E.info
 cases b with
 | none => simp [Builtin.append_, run_underlying E.ht, sizeOf, typeInfo, hi, Builtin.lenOf, Builtin.firstCells]
 | some a =>
  have hf := run_firstCells_some (P := P) w i0.size 0 a 0 c [] (by simp) (by simp)
  simp [Builtin.append_, run_underlying E.ht, sizeOf, typeInfo, hi, Builtin.lenOf, hf]
theorem append_none_any {P : Program} {α : Type} (E : Elem P α) {ops : Array Oper} {rest : List Oper} {o : Oper} {a : Act} {Q : Exit → Act → World → Prop} {w : World} (hgd : o.guard = none) (s x : Operand)
  (ho : o.op = .call { callee := .builtin .append, args := #[s, x], argTypes := #[E.t, E.t] }) (hs : a.eval s = .slice none 0 0) (b : Option Addr) (c : Nat) (hx : a.eval x = .slice b 0 c)
  (h : wpList P ops Q rest (a.put o.dst (.slice none 0 0)) w) : wpList P ops Q (o :: rest) a w :=
 wpList_plain hgd fun _ hK => by
  have hr := run_append_none E w o.type b c
  unfold Oper.wp execOp
  simp only [ho, resolve, invoke, builtin, Sem.run_bind, Sem.run_pure, Result.andThen_ok, List.map_toArray, List.map_cons, List.map_nil, hs, hx, hr]
  exact hK _ _ h
theorem int_map (l : List Int) : l.flatMap intE.enc = l.map (Value.int .i64) := by
 induction l with
 | nil => rfl
 | cons x l ih => rw [List.flatMap_cons, ih]; rfl
theorem sl_cellsInts {w : World} {D : Nat → Prop} {a : Option Addr} {l : List Int} (h : IntSl w D a l) (hn : 1 ≤ l.length) : ∃ b o, a = some ⟨b, o, none⟩ ∧ CellsAt w b o (l.flatMap intE.enc) := by
 obtain ⟨b, o, rfl, _, _⟩ := h 0 (by omega)
 refine ⟨b, o, rfl, fun j u hj => ?_⟩
 rw [int_map] at hj
 rcases Nat.lt_or_ge j l.length with hlt | hge
 ·obtain ⟨b', o', h1, _, h3⟩ := h j hlt
  injection h1 with h1
  injection h1 with h1 h2 _
  subst h1 h2
  rw [List.getElem?_map, List.getElem?_eq_getElem hlt] at hj
  injection hj with hj
  rw [← hj]; exact h3
 ·rw [List.getElem?_eq_none (by simpa using hge)] at hj; cases hj
set_option maxRecDepth 100000 in
set_option maxHeartbeats 1600000 in
theorem copyInts_any (w : World) (a : Option Addr) (l : List Int) (c : Nat) (D : Nat → Prop) (hsl : IntSl w D a l) (hn : l.length ≤ 1000000) :
  Calls Tryz.prog 26 #[.slice a l.length c] w fun e w' => ∃ v, e = .returned v ∧ Own intE w' w.heap.size v l ∧ Below w.heap.size w w' := by
 by_cases h0 : l.length = 0
 ·have hl : l = [] := List.length_eq_zero_iff.1 h0
  subst hl
  go_enter Tryz.func26, Tryz.ntmps26
  go_wp2_with (at_builtin; refine append_none_any intE rfl _ _ rfl rfl _ _ rfl ?_)
  go_wp2_with fail
  go_ret
  exact ⟨_, rfl, Own.nil _ _ _, Below.refl _ _⟩
 ·obtain ⟨b, o, rfl, hcells⟩ := sl_cellsInts hsl (by omega)
  have HCELLS := Lib.hid hcells; clear hcells
  have HSL := Lib.hid hsl; clear hsl
  go_enter Tryz.func26, Tryz.ntmps26
  go_wp2_with (at_builtin; refine append_own intE rfl (.const (.slice none 0 0)) (.tmp 3) rfl w.heap.size [] l _ rfl (Own.nil _ _ _) b o c rfl HCELLS.out ?c1 ?c2 ?_)
  case c1 => simp; omega
  case c2 => exact Nat.le_refl _
  intro v2 w2 hown2 hg2
  have hB2 := Lib.hid (below_grown (Below.refl w.heap.size w) (Own.nil intE w w.heap.size) hg2 (Nat.le_refl _) (Nat.le_refl _))
  have HO2 := Lib.hid hown2; clear hown2 hg2
  go_wp2_with fail
  go_ret
  exact ⟨_, rfl, HO2.out, hB2.out⟩
def Two (w : World) (p i0 i1 : Nat) (v v' : Value) : Prop := w.cell? ⟨p, i0, none⟩ = some v ∧ w.cell? ⟨p, i1, none⟩ = some v'
set_option maxRecDepth 100000 in
set_option maxHeartbeats 3200000 in
theorem stillInts_any (w : World) (p B : Nat) (X X' : Nat → Prop) (v v' : Value) (hs hs' : List Hd) (ls : List (List Int)) (h2 : Two w p 0 1 v v') (hF : Fam intE intsE w B X v hs ls) (hF' : Fam intE intsE w B X' v' hs' ls)
  (hn : ls.length ≤ 1000) (hl : ∀ l ∈ ls, l.length ≤ 100000) :
  Calls Tryz.prog 30 #[.pointer (some ⟨p, 0, none⟩)] w fun e w' => e = .returned (.bool true) ∧ ∃ n, w' = w.drewN n := by
 obtain ⟨q0, q1⟩ := h2
 obtain ⟨a, c, rfl⟩ := hF.slice
 obtain ⟨a', c', rfl⟩ := hF'.slice
 have HF := Lib.hid hF; clear hF
 have HF' := Lib.hid hF'; clear hF'
 have HL := Lib.hid hl; clear hl
 go_enter Tryz.func30, Tryz.ntmps30
 go_wp2_with fail
 go_loopw [3] (fun i wr => ∃ k : Nat, k ≤ ls.length ∧ i = .int .i64 k ∧ ∃ n, wr = w.drewN n) (fun i _ => ls.length - (intOf i).toNat)
 case atStart => exact ⟨0, Nat.zero_le _, rfl, 0, rfl⟩
 case round =>
  obtain ⟨k, hk, rfl, n, hwr⟩ := hrel
  have r0 : wr.cell? ⟨p, 0, none⟩ = some (.slice a ls.length c) := by rw [hwr]; exact q0
  have r1 : wr.cell? ⟨p, 1, none⟩ = some (.slice a' ls.length c') := by rw [hwr]; exact q1
  by_cases hlt : k < ls.length
  ·obtain ⟨g, c2, he, _, hj, hc, ho⟩ := HF.out.head rfl (fun _ => rfl) k hlt
   obtain ⟨g', c2', he', _, hj', hc', ho'⟩ := HF'.out.head rfl (fun _ => rfl) k hlt
   injection he with e1 e2 e3
   injection he' with e1' e2' e3'
   subst e1 e3 e1' e3'
   obtain ⟨x, y, hx, hsl⟩ := own_int ho
   obtain ⟨x', y', hx', hsl'⟩ := own_int ho'
   rw [hx] at hc
   rw [hx'] at hc'
   have hc : wr.cell? ⟨g, k, none⟩ = some (.slice x ls[k].length y) := by rw [hwr]; exact hc
   have hc' : wr.cell? ⟨g', k, none⟩ = some (.slice x' ls[k].length y') := by rw [hwr]; exact hc'
   have hlk := HL.out _ (List.getElem_mem hlt)
   have sm := fun m => sameInts_any (wr.drewN m) _ _ x x' ls[k] ls[k] y y' (show IntSl (wr.drewN m) _ x ls[k] from by rw [hwr]; exact hsl) (show IntSl (wr.drewN m) _ x' ls[k] from by rw [hwr]; exact hsl') (by omega) (by omega)
   rw [show decide (ls[k] = ls[k]) = true from by simp] at sm
   clear hx hx' hsl hsl' ho ho' hj hj'
   generalize ls[k] = l at *
   have SM := Lib.hid sm; clear sm
   have HWR := Lib.hid hwr; clear hwr
   go_wp2_with fail
   go_quiet ((go_at_call 13; exact Calls.quiet_of (SM.out _)))
   go_wp2_with fail
   go_roundw
   case rel => exact ⟨k + 1, by omega, by go_num, by rw [HWR.out]; exact ⟨_, by first | rfl | (simp; rfl)⟩⟩
   case measure => simp [intOf]; omega
  ·skip
   have HWR := Lib.hid hwr; clear hwr
   go_wp2_with fail
   go_ret
   exact ⟨rfl, by rw [HWR.out]; exact ⟨_, rfl⟩⟩
set_option maxRecDepth 100000 in
set_option maxHeartbeats 3200000 in
theorem stillInstrs_any (w : World) (p B : Nat) (X X' : Nat → Prop) (v v' : Value) (hs hs' : List Hd) (ls : List (List Ins)) (h2 : Two w p 2 3 v v') (hF : Fam insE inssE w B X v hs ls) (hF' : Fam insE inssE w B X' v' hs' ls)
  (hn : ls.length ≤ 1000) (hl : ∀ l ∈ ls, l.length ≤ 100000) :
  Calls Tryz.prog 31 #[.pointer (some ⟨p, 0, none⟩)] w fun e w' => e = .returned (.bool true) ∧ ∃ n, w' = w.drewN n := by
 obtain ⟨q0, q1⟩ := h2
 obtain ⟨a, c, rfl⟩ := hF.slice
 obtain ⟨a', c', rfl⟩ := hF'.slice
 have HF := Lib.hid hF; clear hF
 have HF' := Lib.hid hF'; clear hF'
 have HL := Lib.hid hl; clear hl
 go_enter Tryz.func31, Tryz.ntmps31
 go_wp2_with fail
 go_loopw [3] (fun i wr => ∃ k : Nat, k ≤ ls.length ∧ i = .int .i64 k ∧ ∃ n, wr = w.drewN n) (fun i _ => ls.length - (intOf i).toNat)
 case atStart => exact ⟨0, Nat.zero_le _, rfl, 0, rfl⟩
 case round =>
  obtain ⟨k, hk, rfl, n, hwr⟩ := hrel
  have r0 : wr.cell? ⟨p, 2, none⟩ = some (.slice a ls.length c) := by rw [hwr]; exact q0
  have r1 : wr.cell? ⟨p, 3, none⟩ = some (.slice a' ls.length c') := by rw [hwr]; exact q1
  by_cases hlt : k < ls.length
  ·obtain ⟨g, c2, he, _, hj, hc, ho⟩ := HF.out.head rfl (fun _ => rfl) k hlt
   obtain ⟨g', c2', he', _, hj', hc', ho'⟩ := HF'.out.head rfl (fun _ => rfl) k hlt
   injection he with e1 e2 e3
   injection he' with e1' e2' e3'
   subst e1 e3 e1' e3'
   obtain ⟨x, y, hx, hsl⟩ := own_insD ho
   obtain ⟨x', y', hx', hsl'⟩ := own_insD ho'
   rw [hx] at hc
   rw [hx'] at hc'
   have hc : wr.cell? ⟨g, k, none⟩ = some (.slice x ls[k].length y) := by rw [hwr]; exact hc
   have hc' : wr.cell? ⟨g', k, none⟩ = some (.slice x' ls[k].length y') := by rw [hwr]; exact hc'
   have hlk := HL.out _ (List.getElem_mem hlt)
   have sm := fun m => sameInstrs_any (wr.drewN m) _ _ x x' ls[k] ls[k] y y' (show InsSlD (wr.drewN m) _ x ls[k] from by rw [hwr]; exact hsl) (show InsSlD (wr.drewN m) _ x' ls[k] from by rw [hwr]; exact hsl') (by omega) (by omega)
   rw [show decide (ls[k] = ls[k]) = true from by simp] at sm
   clear hx hx' hsl hsl' ho ho' hj hj'
   generalize ls[k] = l at *
   have SM := Lib.hid sm; clear sm
   have HWR := Lib.hid hwr; clear hwr
   go_wp2_with fail
   go_quiet ((go_at_call 64; exact Calls.quiet_of (SM.out _)))
   go_wp2_with fail
   go_roundw
   case rel => exact ⟨k + 1, by omega, by go_num, by rw [HWR.out]; exact ⟨_, by first | rfl | (simp; rfl)⟩⟩
   case measure => simp [intOf]; omega
  ·skip
   have HWR := Lib.hid hwr; clear hwr
   go_wp2_with fail
   go_ret
   exact ⟨rfl, by rw [HWR.out]; exact ⟨_, rfl⟩⟩
end Go.Proofs.YtjcjhfnjamphlaaGreat
namespace Go.Proofs.YtjcjhfnjamphlaaGreat
open Go.ChangeShapes Go.WideShapes Go.ChangeAt Go.RowKit
def Marked {α : Type} (S : World → (Nat → Prop) → Option Addr → List α → Prop) (mk : Nat → Nat → α) (w : World) (D : Nat → Prop) (v : Value) (ns : List Nat) : Prop :=
 ∃ a c, v = .slice a ns.length c ∧ ∀ j (hj : j < ns.length), ∃ b o, a = some ⟨b, o, none⟩ ∧ D b ∧ ∃ x y, w.cell? ⟨b, o + j, none⟩ = some (.slice x ns[j] y) ∧ S w D x (marks mk j 0 ns[j])
set_option maxRecDepth 100000 in
set_option maxHeartbeats 3200000 in
theorem markedInts_any (w : World) (D : Nat → Prop) (v : Value) (ns : List Nat) (hM : Marked IntSl mkInts w D v ns) (hn : ns.length ≤ 1000) (hl : ∀ n ∈ ns, n ≤ 200000) :
  Calls Tryz.prog 45 #[v] w fun e w' => e = .returned (.bool true) ∧ Below w.heap.size w w' := by
 obtain ⟨a, c, rfl, hM⟩ := hM
 have HM := Lib.hid hM; clear hM
 have HL := Lib.hid hl; clear hl
 go_enter Tryz.func45, Tryz.ntmps45
 go_wp2_with fail
 go_loopw [3] (fun i wr => ∃ k : Nat, k ≤ ns.length ∧ i = .int .i64 k ∧ Below w.heap.size w wr) (fun i _ => ns.length - (intOf i).toNat)
 case atStart => exact ⟨0, Nat.zero_le _, rfl, Below.refl _ _⟩
 case round =>
  obtain ⟨k, hk, rfl, hB⟩ := hrel
  by_cases hlt : k < ns.length
  ·obtain ⟨b, o, rfl, _, x, y, hc, hsl⟩ := HM.out k hlt
   have hc := below_cell hB hc
   have hlk := HL.out _ (List.getElem_mem hlt)
   generalize ns[k] = n at *
   have mk : ∀ W, Calls Tryz.prog 69 #[.int .i64 k, .int .i64 0, .int .i64 n] W fun e w' => ∃ x2 y2 D2, e = .returned (.slice x2 n y2) ∧ IntSl w' D2 x2 (marks mkInts k 0 n) ∧ Below W.heap.size W w' := fun W =>
    (markInts_any k 0 n W (by omega) (by omega) (by omega)).mono (by
     rintro e w' ⟨v, rfl, ho, hb⟩
     obtain ⟨x2, y2, rfl, hs⟩ := own_int ho
     exact ⟨x2, y2, _, by rw [marks_len], hs, hb⟩)
   have sm := fun (W : World) (hb : Below wr.heap.size wr W) (D' : Nat → Prop) x' y' (hs' : IntSl W D' x' (marks mkInts k 0 n)) => sameInts_any W D D' x x' (marks mkInts k 0 n) (marks mkInts k 0 n) y y' (hsl.fr ((Fr.of_below hB (fun _ => False)).trans (Fr.of_below hb (fun _ => False)) (fun _ _ h => h)) (fun _ _ h => h)) hs' (by rw [marks_len]; omega) (by rw [marks_len]; omega)
   have hml := marks_len mkInts k 0 n
   have hdd : decide (marks mkInts k 0 n = marks mkInts k 0 n) = true := by simp
   rw [hdd, hml] at sm
   clear hsl hdd
   generalize marks mkInts k 0 n = l at *
   have MK := Lib.hid mk; clear mk
   have SM := Lib.hid sm; clear sm
   have HB := Lib.hid hB; clear hB
   have HML := Lib.hid hml; clear hml
   go_wp2_with fail
   go_region_held3 (fun w' => w'.cell? ⟨b, o + k, none⟩ = some (.slice x n y)) (first | go_keep | exact kk) (first | (go_at_call 69; refine (MK.out _).mono ?_; rintro e W ⟨x2, y2, D2, rfl, hs2, hb⟩; have kk := below_cell hb (show wr.drew.cell? ⟨b, o + k, none⟩ = some (.slice x n y) from hc); have hbW := ((Below.refl wr.heap.size wr).drew).trans hb) | (go_at_call 13; refine (SM.out W hbW _ x2 y2 hs2).mono ?_; rintro e W2 ⟨rfl, n2, rfl⟩))
   have HBW := Lib.hid hbW; clear hbW
   clear hs2
   go_wp2_with fail
   go_roundw
   case rel => exact ⟨k + 1, by omega, by go_num, HB.out.trans ((below_drewN HBW.out _).mono HB.out.size)⟩
   case measure => simp [intOf]; omega
  ·skip
   have HB := Lib.hid hB; clear hB
   go_wp2_with fail
   go_ret
   exact ⟨rfl, HB.out⟩
set_option maxRecDepth 100000 in
set_option maxHeartbeats 3200000 in
theorem markedInstrs_any (w : World) (D : Nat → Prop) (v : Value) (ns : List Nat) (hM : Marked InsSlD mkInstrs w D v ns) (hn : ns.length ≤ 1000) (hl : ∀ n ∈ ns, n ≤ 200000) :
  Calls Tryz.prog 46 #[v] w fun e w' => e = .returned (.bool true) ∧ Below w.heap.size w w' := by
 obtain ⟨a, c, rfl, hM⟩ := hM
 have HM := Lib.hid hM; clear hM
 have HL := Lib.hid hl; clear hl
 go_enter Tryz.func46, Tryz.ntmps46
 go_wp2_with fail
 go_loopw [3] (fun i wr => ∃ k : Nat, k ≤ ns.length ∧ i = .int .i64 k ∧ Below w.heap.size w wr) (fun i _ => ns.length - (intOf i).toNat)
 case atStart => exact ⟨0, Nat.zero_le _, rfl, Below.refl _ _⟩
 case round =>
  obtain ⟨k, hk, rfl, hB⟩ := hrel
  by_cases hlt : k < ns.length
  ·obtain ⟨b, o, rfl, _, x, y, hc, hsl⟩ := HM.out k hlt
   have hc := below_cell hB hc
   have hlk := HL.out _ (List.getElem_mem hlt)
   generalize ns[k] = n at *
   have mk : ∀ W, Calls Tryz.prog 70 #[.int .i64 k, .int .i64 0, .int .i64 n] W fun e w' => ∃ x2 y2 D2, e = .returned (.slice x2 n y2) ∧ InsSlD w' D2 x2 (marks mkInstrs k 0 n) ∧ Below W.heap.size W w' := fun W =>
    (markInstrs_any k 0 n W (by omega) (by omega) (by omega)).mono (by
     rintro e w' ⟨v, rfl, ho, hb⟩
     obtain ⟨x2, y2, rfl, hs⟩ := own_insD ho
     exact ⟨x2, y2, _, by rw [marks_len], hs, hb⟩)
   have sm := fun (W : World) (hb : Below wr.heap.size wr W) (D' : Nat → Prop) x' y' (hs' : InsSlD W D' x' (marks mkInstrs k 0 n)) => sameInstrs_any W D D' x x' (marks mkInstrs k 0 n) (marks mkInstrs k 0 n) y y' (hsl.fr ((Fr.of_below hB (fun _ => False)).trans (Fr.of_below hb (fun _ => False)) (fun _ _ h => h)) (fun _ _ h => h)) hs' (by rw [marks_len]; omega) (by rw [marks_len]; omega)
   have hml := marks_len mkInstrs k 0 n
   have hdd : decide (marks mkInstrs k 0 n = marks mkInstrs k 0 n) = true := by simp
   rw [hdd, hml] at sm
   clear hsl hdd
   generalize marks mkInstrs k 0 n = l at *
   have MK := Lib.hid mk; clear mk
   have SM := Lib.hid sm; clear sm
   have HB := Lib.hid hB; clear hB
   have HML := Lib.hid hml; clear hml
   go_wp2_with fail
   go_region_held3 (fun w' => w'.cell? ⟨b, o + k, none⟩ = some (.slice x n y)) (first | go_keep | exact kk) (first | (go_at_call 70; refine (MK.out _).mono ?_; rintro e W ⟨x2, y2, D2, rfl, hs2, hb⟩; have kk := below_cell hb (show wr.drew.cell? ⟨b, o + k, none⟩ = some (.slice x n y) from hc); have hbW := ((Below.refl wr.heap.size wr).drew).trans hb) | (go_at_call 64; refine (SM.out W hbW _ x2 y2 hs2).mono ?_; rintro e W2 ⟨rfl, n2, rfl⟩))
   have HBW := Lib.hid hbW; clear hbW
   clear hs2
   go_wp2_with fail
   go_roundw
   case rel => exact ⟨k + 1, by omega, by go_num, HB.out.trans ((below_drewN HBW.out _).mono HB.out.size)⟩
   case measure => simp [intOf]; omega
  ·skip
   have HB := Lib.hid hB; clear hB
   go_wp2_with fail
   go_ret
   exact ⟨rfl, HB.out⟩
def mkd {α : Type} (mk : Nat → Nat → α) (i : Nat) (ls : List (List α)) : List (List α) := ls.mapIdx fun j l => if j < i then marks mk j 0 l.length else l
theorem mkd_len {α : Type} (mk : Nat → Nat → α) (i : Nat) (ls : List (List α)) : (mkd mk i ls).length = ls.length := by simp [mkd]
theorem mkd_get {α : Type} (mk : Nat → Nat → α) (i : Nat) (ls : List (List α)) (j : Nat) (h : j < (mkd mk i ls).length) (h' : j < ls.length) : (mkd mk i ls)[j] = if j < i then marks mk j 0 ls[j].length else ls[j] := by simp [mkd]
theorem mkd_zero {α : Type} (mk : Nat → Nat → α) (ls : List (List α)) : mkd mk 0 ls = ls := by
 apply List.ext_getElem (mkd_len _ _ _)
 intro j h1 h2
 rw [mkd_get mk 0 ls j h1 h2]; simp
theorem mkd_succ {α : Type} (mk : Nat → Nat → α) (i : Nat) (ls : List (List α)) (hi : i < ls.length) : (mkd mk i ls).set i (marks mk i 0 ls[i].length) = mkd mk (i + 1) ls := by
 apply List.ext_getElem (by simp [mkd_len])
 intro j h1 h2
 have h3 : j < ls.length := by simpa [mkd_len] using h2
 rw [mkd_get mk (i + 1) ls j h2 h3, List.getElem_set]
 by_cases hij : i = j
 ·subst hij; simp
 ·rw [if_neg hij, mkd_get mk i ls j (by simpa [mkd_len] using h3) h3]
  by_cases hlt : j < i
  ·rw [if_pos hlt, if_pos (by omega)]
  ·rw [if_neg hlt, if_neg (by omega)]
def part {α : Type} (mk : Nat → Nat → α) (i k : Nat) (l : List α) : List α := marks mk i 0 k ++ l.drop k
theorem part_len {α : Type} (mk : Nat → Nat → α) (i k : Nat) (l : List α) (h : k ≤ l.length) : (part mk i k l).length = l.length := by simp [part, marks_len]; omega
theorem part_zero {α : Type} (mk : Nat → Nat → α) (i : Nat) (l : List α) : part mk i 0 l = l := by simp [part, marks]
theorem part_all {α : Type} (mk : Nat → Nat → α) (i : Nat) (l : List α) : part mk i l.length l = marks mk i 0 l.length := by simp [part]
theorem part_succ {α : Type} (mk : Nat → Nat → α) (i k : Nat) (l : List α) (h : k < l.length) : (part mk i k l).set k (mk i k) = part mk i (k + 1) l := by
 unfold part
 rw [marks_succ, List.set_append_right _ _ (by rw [marks_len]; exact Nat.le_refl _), marks_len, Nat.sub_self, List.append_assoc, Nat.zero_add]
 congr 1
 rw [List.drop_eq_getElem_cons h]
 rfl
theorem set_int {w : World} {B g c : Nat} {l : List Int} (h : Own intE w B (.slice (some ⟨g, 0, none⟩) l.length c) l) (k : Nat) (hk : k < l.length) (x : Int) : Own intE (w.setCell ⟨g, k, none⟩ (.int .i64 x)) B (.slice (some ⟨g, 0, none⟩) l.length c) (l.set k x) := by
 have h1 := ownsRow_set (show w.ownsRow B intE.e intE.size _ l.length (l.flatMap intE.enc) from h) k (.int .i64 x)
 unfold Own
 rw [List.length_set]
 have e : ∀ l : List Int, l.flatMap intE.enc = l.map (Value.int .i64) := fun l => by
  induction l with
  | nil => rfl
  | cons x l ih => rw [List.flatMap_cons, ih]; rfl
 rw [e] at h1 ⊢
 rw [List.map_set]
 exact h1
theorem flat_set (l : List Ins) (k : Nat) (hk : k < l.length) (x : Ins) : ((((l.flatMap Ins.cells).set (k * 4) (.int .i64 x.op)).set (k * 4 + 1) (.int .i64 x.a)).set (k * 4 + 2) (.int .i64 x.b)).set (k * 4 + 3) (.int .i64 x.c) = (l.set k x).flatMap Ins.cells := by
 induction l generalizing k with
 | nil => cases hk
 | cons y l ih =>
  cases k with
  | zero => simp [Ins.cells]
  | succ k =>
   have h := ih k (by simpa using hk)
   simp only [List.flatMap_cons, List.set_cons_succ]
   have e : ∀ r, (k + 1) * 4 + r = (Ins.cells y).length + (k * 4 + r) := fun r => by simp [Ins.cells]; omega
   have e0 : (k + 1) * 4 = (Ins.cells y).length + k * 4 := by simp [Ins.cells]; omega
   rw [e 1, e 2, e 3, e0]
   simp only [List.set_append_right _ _ (Nat.le_add_right _ _), Nat.add_sub_cancel_left]
   rw [h]
theorem set_ins {w : World} {B g c : Nat} {l : List Ins} (h : Own insE w B (.slice (some ⟨g, 0, none⟩) l.length c) l) (k : Nat) (hk : k < l.length) (x : Ins) : Own insE ((((w.setCell ⟨g, k * 4, none⟩ (.int .i64 x.op)).setCell ⟨g, k * 4 + 1, none⟩ (.int .i64 x.a)).setCell ⟨g, k * 4 + 2, none⟩ (.int .i64 x.b)).setCell ⟨g, k * 4 + 3, none⟩ (.int .i64 x.c)) B (.slice (some ⟨g, 0, none⟩) l.length c) (l.set k x) := by
 have h1 := ownsRow_set (ownsRow_set (ownsRow_set (ownsRow_set (show w.ownsRow B insE.e insE.size _ l.length (l.flatMap insE.enc) from h) (k * 4) (.int .i64 x.op)) (k * 4 + 1) (.int .i64 x.a)) (k * 4 + 2) (.int .i64 x.b)) (k * 4 + 3) (.int .i64 x.c)
 unfold Own
 rw [List.length_set]
 have e := flat_set l k hk x
 have e2 : (l.set k x).flatMap insE.enc = (l.set k x).flatMap Ins.cells := rfl
 rw [e2, ← e]
 exact h1
end Go.Proofs.YtjcjhfnjamphlaaGreat
