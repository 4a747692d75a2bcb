/- Walks: image.Same; besombook.Room and Small. -/
import Derived.Test.YtmmdppjbofbjhaaSameB
namespace Go.Proofs.Ytmmdppjbofbjhaa
open Go.ChangeShapes Go.WideShapes Go.ChangeAt Go.RowKit

instance : DecidableEq Prg := fun ⟨a, b, c⟩ ⟨a', b', c'⟩ => if h : a = a' ∧ b = b' ∧ c = c' then isTrue (by obtain ⟨rfl, rfl, rfl⟩ := h; rfl) else isFalse (fun e => h (by injection e with h1 h2 h3; exact ⟨h1, h2, h3⟩))
theorem prg_eq (p q : Prg) : decide (p = q) = (decide (p.globals = q.globals) && decide (p.shapes = q.shapes) && decide (p.funcs = q.funcs)) := by
  obtain ⟨a, b, c⟩ := p
  obtain ⟨a', b', c'⟩ := q
  rw [Bool.eq_iff_iff]
  simp [and_assoc]
/-- how great its parts may be -/
def PrgOk (p : Prg) : Prop := bulk p ≤ 1000000
theorem sum_mem {α : Type} (g : α → Nat) (l : List α) (x : α) (h : x ∈ l) : g x ≤ (l.map g).sum := by
  obtain ⟨k, hk, rfl⟩ := List.mem_iff_getElem.1 h
  have := sum_take g l k hk
  omega
set_option maxRecDepth 100000 in
set_option maxHeartbeats 3200000 in
theorem same_any (w : World) (D D' : Nat → Prop) (p q : Prg) (c0 c1 c2 d0 d1 d2 : Value) (hp : PrgVal w D p c0 c1 c2) (hq : PrgVal w D' q d0 d1 d2) (hnp : PrgOk p) (hnq : PrgOk q) :
    Calls Try.prog 63 #[.agg #[c0, c1, c2], .agg #[d0, d1, d2]] w fun e w' => e = .returned (.bool (decide (p = q))) ∧ Below w.heap.size w w' := by
  obtain ⟨⟨a0, m0, rfl, hs0⟩, ⟨a1, m1, rfl, hs1⟩, a2, m2, rfl, hs2⟩ := hp
  obtain ⟨⟨b0, n0, rfl, ht0⟩, ⟨b1, n1, rfl, ht1⟩, b2, n2, rfl, ht2⟩ := hq
  unfold PrgOk bulk at hnp hnq
  have hsh := fun x hx => sum_mem shBulk p.shapes x hx
  have hsh' := fun x hx => sum_mem shBulk q.shapes x hx
  have hfn := fun x hx => sum_mem fnBulk p.funcs x hx
  have hfn' := fun x hx => sum_mem fnBulk q.funcs x hx
  have hb : Below w.heap.size w ((w.alloc (.cells #[.slice a0 p.globals.length m0, .slice a1 p.shapes.length m1, .slice a2 p.funcs.length m2] 71)).alloc (.cells #[.slice b0 q.globals.length n0, .slice b1 q.shapes.length n1, .slice b2 q.funcs.length n2] 71)) := ((Below.refl _ _).alloc (Nat.le_refl _) _).alloc (by simp) _
  have e0 := fun (w1 : World) (h : Below w.heap.size w w1) => eq_ints w1 D D' a0 b0 p.globals q.globals m0 n0 (hs0.fr (Fr.of_below h (fun _ => False)) (fun _ _ h => h)) (ht0.fr (Fr.of_below h (fun _ => False)) (fun _ _ h => h)) (by omega) (by omega)
  have e1 := fun (w1 : World) (h : Below w.heap.size w w1) => eq_shapes w1 D D' a1 b1 p.shapes q.shapes m1 n1 (hs1.fr (Fr.of_below h (fun _ => False)) (fun _ _ h => h)) (ht1.fr (Fr.of_below h (fun _ => False)) (fun _ _ h => h)) (by omega) (by omega) (fun x hx => by have := hsh x hx; unfold shBulk at this; unfold shBulk at hnp; omega) (fun x hx => by have := hsh' x hx; unfold shBulk at this; unfold shBulk at hnq; omega) _ rfl
  have e2 := fun (w1 : World) (h : Below w.heap.size w w1) => eq_funcs w1 D D' a2 b2 p.funcs q.funcs m2 n2 (hs2.fr (Fr.of_below h (fun _ => False)) (fun _ _ h => h)) (ht2.fr (Fr.of_below h (fun _ => False)) (fun _ _ h => h)) (by omega) (by omega) (fun x hx => by have := hfn x hx; omega) (fun x hx => by have := hfn' x hx; omega) _ rfl
  rw [prg_eq]
  clear hs0 hs1 hs2 ht0 ht1 ht2 hsh hsh' hfn hfn' hnp hnq
  generalize decide (p.globals = q.globals) = u0 at *
  generalize decide (p.shapes = q.shapes) = u1 at *
  generalize decide (p.funcs = q.funcs) = u2 at *
  have HB := Lib.hid hb; clear hb
  have E0 := Lib.hid e0; clear e0
  have E1 := Lib.hid e1; clear e1
  have E2 := Lib.hid e2; clear e2
  go_enter Try.func63, Try.ntmps63
  go_wp2_with fail
  refine (E0.out _ HB.out).mono ?_
  rintro e w1 ⟨rfl, n1, rfl⟩
  have HB1 := Lib.hid (below_drewN HB.out n1)
  cases u0
  · go_wp2_with fail
    go_ret
    exact ⟨rfl, HB1.out⟩
  go_wp2_with fail
  refine (E1.out _ HB1.out).mono ?_
  rintro e w2 ⟨rfl, hb2⟩
  have HB2 := Lib.hid (HB1.out.trans (hb2.mono HB1.out.size))
  have hc := fun o (v : Value) h => (show w2.cell? ⟨w.heap.size, o, none⟩ = some v from below_cell hb2 (by
    show World.cell? (World.alloc _ _) _ = _
    rw [cell_under _ _ (by simp), cell_new]; exact h))
  have hc' := fun o (v : Value) h => (show w2.cell? ⟨w.heap.size + 1, o, none⟩ = some v from below_cell hb2 (by
    show World.cell? (World.alloc _ _) _ = _
    rw [show w.heap.size + 1 = (w.alloc (.cells #[.slice a0 p.globals.length m0, .slice a1 p.shapes.length m1, .slice a2 p.funcs.length m2] 71)).heap.size from by simp, cell_new]; exact h))
  have q2 := hc 2 _ rfl
  have q3 := hc' 2 _ rfl
  clear hc hc' hb2
  cases u1
  · go_wp2_with fail
    go_ret
    exact ⟨rfl, HB2.out⟩
  go_wp2_with fail
  refine (E2.out _ HB2.out).mono ?_
  rintro e w3 ⟨rfl, hb3⟩
  have HB3 := Lib.hid (HB2.out.trans (hb3.mono HB2.out.size))
  clear hb3
  go_wp2_with fail
  go_ret
  exact ⟨by simp, HB3.out⟩

/-- how much room is left -/
def roomI (left : Int) : List Int → Int
  | [] => left
  | x :: l => if left < 0 ∨ left < x then -1 else roomI (left - x) l
def RoomPost (l : List Int) (left : Int) (w : World) (e : Ending) (w' : World) : Prop := e = .returned (.int .i64 (roomI left l)) ∧ w' = w
set_option maxRecDepth 100000 in
set_option maxHeartbeats 1600000 in
theorem room_any (w : World) (D : Nat → Prop) (a : Option Addr) (l : List Int) (c : Nat) (hl : IntSl w D a l) (left : Int) (h3 : left ≤ 3000) (h0 : -1 ≤ left) (hpos : ∀ x ∈ l, 0 ≤ x) (hn : l.length ≤ 1000) :
    Calls Try.prog 113 #[.int .i64 left, .slice a l.length c] w (RoomPost l left w) := by
  have HL := Lib.hid hl; clear hl
  have HPOS := Lib.hid hpos; clear hpos
  go_enter Try.func113, Try.ntmps113
  go_wp2_with fail
  go_loop [0, 5] (fun u i => ∃ (k : Nat) (L : Int), k ≤ l.length ∧ i = .int .i64 k ∧ u = .int .i64 L ∧ L ≤ 3000 ∧ -1 ≤ L ∧ roomI left l = roomI L (l.drop k)) (fun _ i => l.length - (intOf i).toNat)
  case atStart => exact ⟨0, left, Nat.zero_le _, rfl, rfl, h3, h0, by simp⟩
  case round =>
    obtain ⟨k, L, hk, rfl, rfl, hL3, hL0, hr⟩ := hrel
    by_cases hlt : k < l.length
    · obtain ⟨b, o, rfl, _, hx⟩ := HL.out k hlt
      have hp := HPOS.out l[k] (List.getElem_mem hlt)
      have hd : l.drop k = l[k] :: l.drop (k + 1) := (List.getElem_cons_drop (h := hlt)).symm
      rw [hd] at hr
      generalize l[k] = x at *
      clear hd
      have hr' : roomI left l = if L < 0 ∨ L < x then -1 else roomI (L - x) (l.drop (k + 1)) := hr
      clear hr
      by_cases h1 : L < 0
      · rw [if_pos (.inl h1)] at hr'
        have HP := Lib.hid (show RoomPost l left w (.returned (.int .i64 (-1))) w from ⟨by rw [hr'], rfl⟩)
        clear hr'
        go_wp2_with fail
        go_ret
        exact HP.out
      have h1' : decide (L < 0) = false := by simpa using h1
      by_cases h2 : L < x
      · rw [if_pos (.inr h2)] at hr'
        have HP := Lib.hid (show RoomPost l left w (.returned (.int .i64 (-1))) w from ⟨by rw [hr'], rfl⟩)
        clear hr'
        go_wp2_with fail
        go_ret
        exact HP.out
      rw [if_neg (by omega)] at hr'
      have HR' := Lib.hid hr'; clear hr'
      go_wp2_with fail
      go_round
      case rel => exact ⟨k + 1, L - x, by omega, by go_num, rfl, by omega, by omega, HR'.out⟩
      case measure => simp [intOf]; omega
    · have hk' : k = l.length := by omega
      rw [hk', List.drop_length] at hr
      have HP := Lib.hid (show RoomPost l left w (.returned (.int .i64 L)) w from ⟨by rw [hr]; rfl, rfl⟩)
      clear hr
      go_wp2_with fail
      go_ret
      exact HP.out
end Go.Proofs.Ytmmdppjbofbjhaa
