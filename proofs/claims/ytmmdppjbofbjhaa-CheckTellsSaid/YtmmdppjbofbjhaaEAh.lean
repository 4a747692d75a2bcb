/- Walks: image.Same; besombook.Room and Small. Walk: besombook.Small. Types, and what their cells read as; lists of them that one owns. Nothing of the program stands here. Walks: whether two lists are alike, as the references and the book ask. -/
import Derived.Test.YtmmdppjbofbjhaaEAg
import Derived.Test.YtmmdppjbofbjhaaEAd
namespace Go.Proofs.Ytmmdppjbofbjhaa
open Go.ChangeShapes Go.WideShapes Go.ChangeAt Go.RowKit

instance : DecidableEq Prg := fun ⟨a, b, c⟩ ⟨a', b', c'⟩ => if h : a = a' ∧ b = b' ∧ c = c' then isTrue (by obtain ⟨rfl, rfl, rfl⟩ := h; rfl) else isFalse (fun e => h (by injection e with h1 h2 h3; exact ⟨h1, h2, h3⟩))
theorem prg_eq (p q : Prg) : decide (p = q) = (decide (p.globals = q.globals) && decide (p.shapes = q.shapes) && decide (p.funcs = q.funcs)) := by
  obtain ⟨a, b, c⟩ := p
  obtain ⟨a', b', c'⟩ := q
  rw [Bool.eq_iff_iff]
  simp [and_assoc]
/-- how great its parts may be -/
def PrgOk (p : Prg) : Prop := bulk p ≤ 1000000
theorem sum_mem {α : Type} (g : α → Nat) (l : List α) (x : α) (h : x ∈ l) : g x ≤ (l.map g).sum := by
  obtain ⟨k, hk, rfl⟩ := List.mem_iff_getElem.1 h
  have := sum_take g l k hk
  omega
set_option maxRecDepth 100000 in
set_option maxHeartbeats 3200000 in
theorem same_any (w : World) (D D' : Nat → Prop) (p q : Prg) (c0 c1 c2 d0 d1 d2 : Value) (hp : PrgVal w D p c0 c1 c2) (hq : PrgVal w D' q d0 d1 d2) (hnp : PrgOk p) (hnq : PrgOk q) :
    Calls Try.prog 63 #[.agg #[c0, c1, c2], .agg #[d0, d1, d2]] w fun e w' => e = .returned (.bool (decide (p = q))) ∧ Below w.heap.size w w' := by
  obtain ⟨⟨a0, m0, rfl, hs0⟩, ⟨a1, m1, rfl, hs1⟩, a2, m2, rfl, hs2⟩ := hp
  obtain ⟨⟨b0, n0, rfl, ht0⟩, ⟨b1, n1, rfl, ht1⟩, b2, n2, rfl, ht2⟩ := hq
  unfold PrgOk bulk at hnp hnq
  have hsh := fun x hx => sum_mem shBulk p.shapes x hx
  have hsh' := fun x hx => sum_mem shBulk q.shapes x hx
  have hfn := fun x hx => sum_mem fnBulk p.funcs x hx
  have hfn' := fun x hx => sum_mem fnBulk q.funcs x hx
  have hb : Below w.heap.size w ((w.alloc (.cells #[.slice a0 p.globals.length m0, .slice a1 p.shapes.length m1, .slice a2 p.funcs.length m2] 71)).alloc (.cells #[.slice b0 q.globals.length n0, .slice b1 q.shapes.length n1, .slice b2 q.funcs.length n2] 71)) := ((Below.refl _ _).alloc (Nat.le_refl _) _).alloc (by simp) _
  have e0 := fun (w1 : World) (h : Below w.heap.size w w1) => eq_ints w1 D D' a0 b0 p.globals q.globals m0 n0 (hs0.fr (Fr.of_below h (fun _ => False)) (fun _ _ h => h)) (ht0.fr (Fr.of_below h (fun _ => False)) (fun _ _ h => h)) (by omega) (by omega)
  have e1 := fun (w1 : World) (h : Below w.heap.size w w1) => eq_shapes w1 D D' a1 b1 p.shapes q.shapes m1 n1 (hs1.fr (Fr.of_below h (fun _ => False)) (fun _ _ h => h)) (ht1.fr (Fr.of_below h (fun _ => False)) (fun _ _ h => h)) (by omega) (by omega) (fun x hx => by have := hsh x hx; unfold shBulk at this; unfold shBulk at hnp; omega) (fun x hx => by have := hsh' x hx; unfold shBulk at this; unfold shBulk at hnq; omega) _ rfl
  have e2 := fun (w1 : World) (h : Below w.heap.size w w1) => eq_funcs w1 D D' a2 b2 p.funcs q.funcs m2 n2 (hs2.fr (Fr.of_below h (fun _ => False)) (fun _ _ h => h)) (ht2.fr (Fr.of_below h (fun _ => False)) (fun _ _ h => h)) (by omega) (by omega) (fun x hx => by have := hfn x hx; omega) (fun x hx => by have := hfn' x hx; omega) _ rfl
  rw [prg_eq]
  clear hs0 hs1 hs2 ht0 ht1 ht2 hsh hsh' hfn hfn' hnp hnq
  generalize decide (p.globals = q.globals) = u0 at *
  generalize decide (p.shapes = q.shapes) = u1 at *
  generalize decide (p.funcs = q.funcs) = u2 at *
  have HB := Lib.hid hb; clear hb
  have E0 := Lib.hid e0; clear e0
  have E1 := Lib.hid e1; clear e1
  have E2 := Lib.hid e2; clear e2
  go_enter Try.func63, Try.ntmps63
  go_wp2_with fail
  refine (E0.out _ HB.out).mono ?_
  rintro e w1 ⟨rfl, n1, rfl⟩
  have HB1 := Lib.hid (below_drewN HB.out n1)
  cases u0
  · go_wp2_with fail
    go_ret
    exact ⟨rfl, HB1.out⟩
  go_wp2_with fail
  refine (E1.out _ HB1.out).mono ?_
  rintro e w2 ⟨rfl, hb2⟩
  have HB2 := Lib.hid (HB1.out.trans (hb2.mono HB1.out.size))
  have hc := fun o (v : Value) h => (show w2.cell? ⟨w.heap.size, o, none⟩ = some v from below_cell hb2 (by
    show World.cell? (World.alloc _ _) _ = _
    rw [cell_under _ _ (by simp), cell_new]; exact h))
  have hc' := fun o (v : Value) h => (show w2.cell? ⟨w.heap.size + 1, o, none⟩ = some v from below_cell hb2 (by
    show World.cell? (World.alloc _ _) _ = _
    rw [show w.heap.size + 1 = (w.alloc (.cells #[.slice a0 p.globals.length m0, .slice a1 p.shapes.length m1, .slice a2 p.funcs.length m2] 71)).heap.size from by simp, cell_new]; exact h))
  have q2 := hc 2 _ rfl
  have q3 := hc' 2 _ rfl
  clear hc hc' hb2
  cases u1
  · go_wp2_with fail
    go_ret
    exact ⟨rfl, HB2.out⟩
  go_wp2_with fail
  refine (E2.out _ HB2.out).mono ?_
  rintro e w3 ⟨rfl, hb3⟩
  have HB3 := Lib.hid (HB2.out.trans (hb3.mono HB2.out.size))
  clear hb3
  go_wp2_with fail
  go_ret
  exact ⟨by simp, HB3.out⟩

/-- how much room is left -/
def roomI (left : Int) : List Int → Int
  | [] => left
  | x :: l => if left < 0 ∨ left < x then -1 else roomI (left - x) l
def RoomPost (l : List Int) (left : Int) (w : World) (e : Ending) (w' : World) : Prop := e = .returned (.int .i64 (roomI left l)) ∧ w' = w
set_option maxRecDepth 100000 in
set_option maxHeartbeats 1600000 in
theorem room_any (w : World) (D : Nat → Prop) (a : Option Addr) (l : List Int) (c : Nat) (hl : IntSl w D a l) (left : Int) (h3 : left ≤ 3000) (h0 : -1 ≤ left) (hpos : ∀ x ∈ l, 0 ≤ x) (hn : l.length ≤ 1000) :
    Calls Try.prog 113 #[.int .i64 left, .slice a l.length c] w (RoomPost l left w) := by
  have HL := Lib.hid hl; clear hl
  have HPOS := Lib.hid hpos; clear hpos
  go_enter Try.func113, Try.ntmps113
  go_wp2_with fail
  go_loop [0, 5] (fun u i => ∃ (k : Nat) (L : Int), k ≤ l.length ∧ i = .int .i64 k ∧ u = .int .i64 L ∧ L ≤ 3000 ∧ -1 ≤ L ∧ roomI left l = roomI L (l.drop k)) (fun _ i => l.length - (intOf i).toNat)
  case atStart => exact ⟨0, left, Nat.zero_le _, rfl, rfl, h3, h0, by simp⟩
  case round =>
    obtain ⟨k, L, hk, rfl, rfl, hL3, hL0, hr⟩ := hrel
    by_cases hlt : k < l.length
    · obtain ⟨b, o, rfl, _, hx⟩ := HL.out k hlt
      have hp := HPOS.out l[k] (List.getElem_mem hlt)
      have hd : l.drop k = l[k] :: l.drop (k + 1) := (List.getElem_cons_drop (h := hlt)).symm
      rw [hd] at hr
      generalize l[k] = x at *
      clear hd
      have hr' : roomI left l = if L < 0 ∨ L < x then -1 else roomI (L - x) (l.drop (k + 1)) := hr
      clear hr
      by_cases h1 : L < 0
      · rw [if_pos (.inl h1)] at hr'
        have HP := Lib.hid (show RoomPost l left w (.returned (.int .i64 (-1))) w from ⟨by rw [hr'], rfl⟩)
        clear hr'
        go_wp2_with fail
        go_ret
        exact HP.out
      have h1' : decide (L < 0) = false := by simpa using h1
      by_cases h2 : L < x
      · rw [if_pos (.inr h2)] at hr'
        have HP := Lib.hid (show RoomPost l left w (.returned (.int .i64 (-1))) w from ⟨by rw [hr'], rfl⟩)
        clear hr'
        go_wp2_with fail
        go_ret
        exact HP.out
      rw [if_neg (by omega)] at hr'
      have HR' := Lib.hid hr'; clear hr'
      go_wp2_with fail
      go_round
      case rel => exact ⟨k + 1, L - x, by omega, by go_num, rfl, by omega, by omega, HR'.out⟩
      case measure => simp [intOf]; omega
    · have hk' : k = l.length := by omega
      rw [hk', List.drop_length] at hr
      have HP := Lib.hid (show RoomPost l left w (.returned (.int .i64 L)) w from ⟨by rw [hr]; rfl, rfl⟩)
      clear hr
      go_wp2_with fail
      go_ret
      exact HP.out
end Go.Proofs.Ytmmdppjbofbjhaa
namespace Go.Proofs.Ytmmdppjbofbjhaa
open Go.ChangeShapes Go.WideShapes Go.ChangeAt Go.RowKit

def rm (b : Nat) : Int := if b ≤ 3000 then 3000 - (b : Int) else -1
theorem rm_bd (b : Nat) : rm b ≤ 3000 ∧ -1 ≤ rm b := by unfold rm; split <;> omega
theorem rm_pos (b : Nat) : 0 ≤ rm b ↔ b ≤ 3000 := by unfold rm; split <;> omega
theorem room_rm (l : List Nat) : ∀ b, b ≤ 3000 → roomI (rm b) (l.map Int.ofNat) = rm (b + l.sum) := by
  induction l with
  | nil => intro b _; simp [roomI]
  | cons x l ih =>
    intro b hb
    have e : rm b = 3000 - (b : Int) := by unfold rm; rw [if_pos hb]
    rw [List.map_cons]
    unfold roomI
    rw [e]
    by_cases h : 3000 - (b : Int) < Int.ofNat x
    · rw [if_pos (.inr h)]
      have : ¬ b + (x :: l).sum ≤ 3000 := by simp at *; omega
      unfold rm
      rw [if_neg this]
    · rw [if_neg (by simp at *; omega)]
      have h2 : b + x ≤ 3000 := by simp at h; omega
      have h3 := ih (b + x) h2
      have e2 : rm (b + x) = 3000 - (b : Int) - Int.ofNat x := by unfold rm; rw [if_pos h2]; simp; omega
      rw [e2] at h3
      rw [h3, List.sum_cons, Nat.add_assoc]
/-- Room on a new literal slice -/
theorem room_new (w : World) (g : Nat) (hg : g = w.heap.size) (l : List Nat) (hl : l.length ≤ 100) (b : Nat) (hb : b ≤ 3000) :
    Calls Try.prog 113 #[.int .i64 (rm b), .slice (some ⟨g, 0, none⟩) l.length l.length] (w.alloc (.cells ((l.map Int.ofNat).map (Value.int .i64)).toArray 3)) fun e w' => e = .returned (.int .i64 (rm (b + l.sum))) ∧ w' = w.alloc (.cells ((l.map Int.ofNat).map (Value.int .i64)).toArray 3) := by
  subst hg
  have h := room_any (w.alloc (.cells ((l.map Int.ofNat).map (Value.int .i64)).toArray 3)) _ _ (l.map Int.ofNat) l.length (int_new w (l.map Int.ofNat)) (rm b) (rm_bd b).1 (rm_bd b).2 (fun x hx => by
    obtain ⟨y, _, rfl⟩ := List.mem_map.1 hx
    exact Int.natCast_nonneg y) (by simp; omega)
  unfold RoomPost at h
  rw [room_rm l b hb, List.length_map] at h
  exact h
def shSum (p : Prg) (k : Nat) : Nat := p.globals.length + p.shapes.length + p.funcs.length + ((p.shapes.take k).map shBulk).sum
def fnSum (p : Prg) (k : Nat) : Nat := shSum p p.shapes.length + ((p.funcs.take k).map fnBulk).sum
theorem shSum_succ (p : Prg) (k : Nat) (hk : k < p.shapes.length) : shSum p (k + 1) = shSum p k + p.shapes[k].length := by
  unfold shSum; rw [take_snoc _ k hk, List.map_append, List.sum_append]; simp [shBulk]; try omega
theorem fnSum_succ (p : Prg) (k : Nat) (hk : k < p.funcs.length) : fnSum p (k + 1) = fnSum p k + (p.funcs[k].args.length + (p.funcs[k].objects.length + p.funcs[k].code.length)) := by
  unfold fnSum; rw [take_snoc _ k hk, List.map_append, List.sum_append]; simp [fnBulk]; try omega
theorem shSum_le (p : Prg) (k : Nat) : shSum p k ≤ bulk p := by
  unfold shSum bulk
  have : ((p.shapes.take k).map shBulk).sum ≤ (p.shapes.map shBulk).sum := by
    have h : (p.shapes.map shBulk).sum = ((p.shapes.take k).map shBulk).sum + ((p.shapes.drop k).map shBulk).sum := by
      rw [← List.sum_append, ← List.map_append, List.take_append_drop]
    omega
  omega
theorem fnSum_le (p : Prg) (k : Nat) : fnSum p k ≤ bulk p := by
  unfold fnSum shSum bulk
  rw [List.take_length]
  have : ((p.funcs.take k).map fnBulk).sum ≤ (p.funcs.map fnBulk).sum := by
    have h : (p.funcs.map fnBulk).sum = ((p.funcs.take k).map fnBulk).sum + ((p.funcs.drop k).map fnBulk).sum := by
      rw [← List.sum_append, ← List.map_append, List.take_append_drop]
    omega
  omega
theorem fnSum_all (p : Prg) : fnSum p p.funcs.length = bulk p := by
  unfold fnSum shSum bulk; rw [List.take_length, List.take_length]; try omega
theorem shSum_shapes (p : Prg) (k : Nat) (h : shSum p k ≤ 3000) : p.shapes.length ≤ 3000 ∧ p.funcs.length ≤ 3000 := by
  unfold shSum at h; omega

set_option maxRecDepth 100000 in
set_option maxHeartbeats 3200000 in
theorem small_any (w : World) (D : Nat → Prop) (pr : Prg) (c0 c1 c2 : Value) (hv : PrgVal w D pr c0 c1 c2) :
    Calls Try.prog 56 #[.agg #[c0, c1, c2]] w fun e w' => e = .returned (.bool (decide (bulk pr ≤ 3000))) ∧ Below w.heap.size w w' := by
  obtain ⟨⟨a0, n0, rfl, _⟩, ⟨a1, n1, rfl, hs1⟩, a2, n2, rfl, hs2⟩ := hv
  have r0 := fun w g hg => room_new w g hg [pr.globals.length, pr.shapes.length, pr.funcs.length] (by simp) 0 (by omega)
  have e0 : 0 + [pr.globals.length, pr.shapes.length, pr.funcs.length].sum = shSum pr 0 := by simp [shSum]; try omega
  rw [e0] at r0
  have hr0 : rm 0 = 3000 := rfl
  rw [hr0] at r0
  have m0 : (([pr.globals.length, pr.shapes.length, pr.funcs.length].map Int.ofNat).map (Value.int .i64)).toArray = #[.int .i64 pr.globals.length, .int .i64 pr.shapes.length, .int .i64 pr.funcs.length] := rfl
  rw [m0] at r0
  have r1 := fun (n : Nat) (w : World) b hb => room_new w _ rfl [n] (by simp) b hb
  have r3 := fun (n m l : Nat) (w : World) b hb => room_new w _ rfl [n, m, l] (by simp) b hb
  have HR0 := Lib.hid r0; have HR1 := Lib.hid r1; have HR3 := Lib.hid r3
  clear r0 r1 r3 e0 hr0 m0
  have hbx : ∀ wr, Below (w.heap.size + 1) (w.alloc (.cells #[.slice a0 pr.globals.length n0, .slice a1 pr.shapes.length n1, .slice a2 pr.funcs.length n2] 71)) wr → wr.cell? ⟨w.heap.size, 1, none⟩ = some (.slice a1 pr.shapes.length n1) ∧ wr.cell? ⟨w.heap.size, 2, none⟩ = some (.slice a2 pr.funcs.length n2) ∧ Below w.heap.size w wr := fun wr h =>
    ⟨by rw [h.cell (by simp)]; exact cell_new w _ _ _ 1, by rw [h.cell (by simp)]; exact cell_new w _ _ _ 2, ((Below.refl _ _).alloc (Nat.le_refl _) _).trans (h.mono (by simp))⟩
  have HBX := Lib.hid hbx; clear hbx
  have HS1 := Lib.hid hs1; clear hs1
  have HS2 := Lib.hid hs2; clear hs2
  go_enter Try.func56, Try.ntmps56
  go_wp2_with fail
  refine (HR0.out _ _ (by simp)).mono ?_
  rintro e w1 ⟨rfl, rfl⟩
  have bd0 := rm_bd (shSum pr 0)
  have hB0 : Below (w.heap.size + 1) (w.alloc (.cells #[.slice a0 pr.globals.length n0, .slice a1 pr.shapes.length n1, .slice a2 pr.funcs.length n2] 71)) ((w.alloc (.cells #[.slice a0 pr.globals.length n0, .slice a1 pr.shapes.length n1, .slice a2 pr.funcs.length n2] 71)).alloc (.cells #[.int .i64 pr.globals.length, .int .i64 pr.shapes.length, .int .i64 pr.funcs.length] 3)) := (Below.refl _ _).alloc (by simp) _
  have HB0 := Lib.hid hB0; clear hB0
  go_wp2_with fail
  go_loopw [3, 4] (fun u i wr => ∃ k : Nat, k ≤ pr.shapes.length ∧ i = .int .i64 k ∧ u = .int .i64 (rm (shSum pr k)) ∧ Below (w.heap.size + 1) (w.alloc (.cells #[.slice a0 pr.globals.length n0, .slice a1 pr.shapes.length n1, .slice a2 pr.funcs.length n2] 71)) wr) (fun _ i _ => pr.shapes.length - (intOf i).toNat)
  case atStart => exact ⟨0, Nat.zero_le _, rfl, rfl, HB0.out⟩
  case round =>
    obtain ⟨k, hk, rfl, rfl, hB⟩ := hrel
    obtain ⟨q1, q2, hbw⟩ := HBX.out wr hB
    have bd := rm_bd (shSum pr k)
    have hp := rm_pos (shSum pr k)
    by_cases hgo : k < pr.shapes.length ∧ shSum pr k ≤ 3000
    · obtain ⟨hlt, hle⟩ := hgo
      have hpos : 0 ≤ rm (shSum pr k) := hp.2 hle
      obtain ⟨b, o, rfl, _, x1, x2, hx, _⟩ := HS1.out k hlt
      have hx := below_cell hbw hx
      have hc := HR1.out pr.shapes[k].length wr (shSum pr k) hle
      have hlen3 := shSum_shapes pr k hle
      have hsu : shSum pr k + [pr.shapes[k].length].sum = shSum pr (k + 1) := by rw [shSum_succ pr k hlt]; simp
      rw [hsu] at hc
      have bd2 := rm_bd (shSum pr (k + 1))
      generalize rm (shSum pr k) = r at *
      clear hle hsu hp hbw
      have hB2 := hB.alloc (by have := hB.size; simpa using this) (.cells #[.int .i64 pr.shapes[k].length] 3)
      have HC := Lib.hid hc; clear hc
      have HB2 := Lib.hid hB2; clear hB2
      clear hB
      go_wp2_with fail
      refine HC.out.mono ?_
      rintro e w3 ⟨rfl, rfl⟩
      go_wp2_with fail
      go_roundw
      case rel => exact ⟨k + 1, by omega, by go_num, rfl, HB2.out⟩
      case measure => simp [intOf]; omega
    · have hX : ∃ X, X = shSum pr k ∧ (X = fnSum pr 0 ∨ 3000 < X) ∧ X ≤ bulk pr := by
        refine ⟨_, rfl, ?_, shSum_le pr k⟩
        by_cases h : shSum pr k ≤ 3000
        · have hk2 : k = pr.shapes.length := by omega
          exact .inl (by rw [hk2]; simp [fnSum])
        · exact .inr (by omega)
      obtain ⟨X, hXe, hX1, hX2⟩ := hX
      have hstop : ¬ (k < pr.shapes.length ∧ 0 ≤ rm X) := fun h => hgo ⟨h.1, by rw [← hXe]; exact (rm_pos X).1 h.2⟩
      rw [← hXe] at bd hp ⊢
      clear hgo hXe hp hbw
      have hX3 := rm_pos X
      generalize hr : rm X = r at *
      have HR := Lib.hid hr; clear hr
      have HX1 := Lib.hid hX1; clear hX1
      have HX2 := Lib.hid hX2; clear hX2
      have HX3 := Lib.hid hX3; clear hX3
      have HB := Lib.hid hB; clear hB
      have fin : ∀ wr2, Below (w.heap.size + 1) (w.alloc (.cells #[.slice a0 pr.globals.length n0, .slice a1 pr.shapes.length n1, .slice a2 pr.funcs.length n2] 71)) wr2 → ∀ j Y, (Y = fnSum pr j ∨ 3000 < Y) → Y ≤ bulk pr → ¬ (j < pr.funcs.length ∧ Y ≤ 3000) → j ≤ pr.funcs.length → decide (0 ≤ rm Y) = decide (bulk pr ≤ 3000) ∧ Below w.heap.size w wr2 := by
        intro wr2 hb2 j Y h1 h2 h3 h4
        refine ⟨?_, (HBX.out wr2 hb2).2.2⟩
        have h5 := rm_pos Y
        by_cases hY : Y ≤ 3000
        · have hj : j = pr.funcs.length := by omega
          have hYe : Y = bulk pr := by
            rcases h1 with h1 | h1
            · rw [h1, hj, fnSum_all]
            · omega
          rw [hYe] at h5 hY ⊢
          simp [h5, hY]
        · have : ¬ bulk pr ≤ 3000 := by omega
          simp [h5, hY, this]
      have FIN := Lib.hid fin; clear fin
      by_cases hlt : k < pr.shapes.length
      all_goals
        first | have hneg : r < 0 := (by omega) | skip
        clear hstop
        go_wp2_with fail
        go_loopw [3, 5] (fun u i wr => ∃ (j : Nat) (Y : Nat), j ≤ pr.funcs.length ∧ i = .int .i64 j ∧ u = .int .i64 (rm Y) ∧ (Y = fnSum pr j ∨ 3000 < Y) ∧ Y ≤ bulk pr ∧ Below (w.heap.size + 1) (w.alloc (.cells #[.slice a0 pr.globals.length n0, .slice a1 pr.shapes.length n1, .slice a2 pr.funcs.length n2] 71)) wr) (fun _ i _ => pr.funcs.length - (intOf i).toNat)
        case atStart => exact ⟨0, X, Nat.zero_le _, rfl, by rw [HR.out], HX1.out, HX2.out, HB.out⟩
        case round =>
          obtain ⟨j, Y, hj, rfl, rfl, hY1, hY2, hB2⟩ := hrel
          obtain ⟨_, t2, hbw⟩ := HBX.out _ hB2
          have bdY := rm_bd Y
          have hpY := rm_pos Y
          by_cases hgo : j < pr.funcs.length ∧ Y ≤ 3000
          · obtain ⟨hlt2, hle⟩ := hgo
            have hYe : Y = fnSum pr j := by omega
            have hpos : 0 ≤ rm Y := hpY.2 hle
            obtain ⟨b, o, rfl, _, x0, x1, x2, x3, x4, p0, p1, p2, p3, p4, ⟨e1, e2, ⟨y0, z0, e3, _⟩, ⟨y3, z3, e4, _⟩, y4, z4, e5, _⟩⟩ := HS2.out j hlt2
            have p0 := below_cell hbw p0
            have p1 := below_cell hbw p1
            have p2 := below_cell hbw p2
            have p3 := below_cell hbw p3
            have p4 := below_cell hbw p4
            have hc := fun g hg => room_new (wr.alloc (.cells #[x0, x1, x2, x3, x4] 86)) g hg [pr.funcs[j].args.length, pr.funcs[j].objects.length, pr.funcs[j].code.length] (by simp) Y hle
            have hsu : Y + [pr.funcs[j].args.length, pr.funcs[j].objects.length, pr.funcs[j].code.length].sum = fnSum pr (j + 1) := by rw [fnSum_succ pr j hlt2, hYe]; simp
            rw [hsu] at hc
            have hle2 := fnSum_le pr (j + 1)
            have bd2 := rm_bd (fnSum pr (j + 1))
            have hB3 := (hB2.alloc (by have := hB2.size; simpa using this) (.cells #[x0, x1, x2, x3, x4] 86)).alloc (by have := hB2.size; simp at *; omega) (.cells #[.int .i64 pr.funcs[j].args.length, .int .i64 pr.funcs[j].objects.length, .int .i64 pr.funcs[j].code.length] 3)
            subst e1 e2 e3 e4 e5
            have hfl : pr.funcs.length ≤ 3000 := by
              have h1 : fnSum pr j ≤ 3000 := by omega
              unfold fnSum shSum at h1; omega
            clear hsu hpY hbw hB2 hY1 hY2 hYe hle
            generalize rm Y = y at *
            have HC := Lib.hid hc; clear hc
            have HB3 := Lib.hid hB3; clear hB3
            have HLE2 := Lib.hid hle2; clear hle2
            go_wp2_with fail
            refine (HC.out _ (by simp)).mono ?_
            rintro e w3 ⟨rfl, rfl⟩
            go_wp2_with fail
            go_roundw
            case rel => exact ⟨j + 1, fnSum pr (j + 1), by omega, by go_num, rfl, .inl rfl, HLE2.out, HB3.out⟩
            case measure => simp [intOf]; omega
          · have hF := FIN.out _ hB2 j Y hY1 hY2 hgo hj
            have hstop : ¬ (j < pr.funcs.length ∧ 0 ≤ rm Y) := fun h => hgo ⟨h.1, hpY.1 h.2⟩
            clear hgo hpY hbw hY1 hY2 hB2
            generalize rm Y = y at *
            by_cases hlt2 : j < pr.funcs.length
            all_goals
              first | have hneg2 : y < 0 := (by omega) | skip
              clear hstop
              have HF := Lib.hid hF; clear hF
              by_cases hy : 0 ≤ y
              all_goals
                first
                | (exfalso; omega)
                | (go_wp2_with fail
                   go_ret
                   exact ⟨by rw [← HF.out.1]; simp [hy], HF.out.2⟩)
end Go.Proofs.Ytmmdppjbofbjhaa
namespace Go.Proofs.Ytmmdppjbofbjhaa
open Go.RowKit

/-- cells that stay -/
def Stay (D : Nat → Prop) (w w' : World) : Prop := ∀ b o v, D b → w.cell? ⟨b, o, none⟩ = some v → w'.cell? ⟨b, o, none⟩ = some v
theorem Fr.stay {F : Nat → Prop} {w w' : World} (h : Fr F w w') {D : Nat → Prop} (hd : ∀ k, D k → ¬ F k) : Stay D w w' := fun b _ _ hb hc => h.cell hc (hd b hb)
theorem stay_below {w w' : World} (h : Below w.heap.size w w') (D : Nat → Prop) : Stay D w w' := fun _ _ _ _ hc => below_cell h hc
theorem Stay.of_grown {w w' : World} {row : Option Nat} (hg : w.grownBy w' row) {D : Nat → Prop} (hd : ∀ k, D k → row ≠ some k) : Stay D w w' := fun b _ _ hb hc => cell_grown hg hc (hd b hb)

/-- a type: how many cells its values have, and what cells read as; what they lead to lies in D -/
structure Ty (α : Type) where
  size : Nat
  rd : World → (Nat → Prop) → List Value → α → Prop
  len : ∀ {w D cs x}, rd w D cs x → cs.length = size
  fr : ∀ {w w' : World} {D D' : Nat → Prop} {cs x}, rd w D cs x → Stay D w w' → (∀ k, D k → D' k) → rd w' D' cs x
  one : ∀ {w D cs x}, rd w D cs x → ∀ u ∈ cs, u.oneCell' = true
namespace Ty
def int : Ty Int where
  size := 1
  rd _ _ cs x := cs = [.int .i64 x]
  len h := by rw [h]; rfl
  fr h _ _ := h
  one h u hu := by rw [h] at hu; simp at hu; subst hu; rfl
def bool : Ty Bool where
  size := 1
  rd _ _ cs x := cs = [.bool x]
  len h := by rw [h]; rfl
  fr h _ _ := h
  one h u hu := by rw [h] at hu; simp at hu; subst hu; rfl
def str : Ty ByteArray where
  size := 1
  rd _ _ cs x := cs = [.string x]
  len h := by rw [h]; rfl
  fr h _ _ := h
  one h u hu := by rw [h] at hu; simp at hu; subst hu; rfl
def pair {α β : Type} (s : Ty α) (t : Ty β) : Ty (α × β) where
  size := s.size + t.size
  rd w D cs x := ∃ c d, cs = c ++ d ∧ s.rd w D c x.1 ∧ t.rd w D d x.2
  len := fun ⟨_, _, h, h1, h2⟩ => by rw [h, List.length_append, s.len h1, t.len h2]
  fr := fun ⟨_, _, h, h1, h2⟩ hs hd => ⟨_, _, h, s.fr h1 hs hd, t.fr h2 hs hd⟩
  one := fun ⟨_, _, h, h1, h2⟩ u hu => by
    rw [h] at hu
    rcases List.mem_append.1 hu with hu | hu
    · exact s.one h1 u hu
    · exact t.one h2 u hu
def iso {α β : Type} (t : Ty α) (f : β → α) : Ty β where
  size := t.size
  rd w D cs x := t.rd w D cs (f x)
  len h := t.len h
  fr h hs hd := t.fr h hs hd
  one h := t.one h
end Ty
/-- the cells of element j of a list that lies at a -/
def At {α : Type} (t : Ty α) (w : World) (D : Nat → Prop) (a : Option Addr) (j : Nat) (x : α) : Prop :=
  ∃ b o, a = some ⟨b, o, none⟩ ∧ D b ∧ ∃ es, t.rd w D es x ∧ ∀ r u, es[r]? = some u → w.cell? ⟨b, o + j * t.size + r, none⟩ = some u
/-- a list lies at a -/
def Sl {α : Type} (t : Ty α) (w : World) (D : Nat → Prop) (a : Option Addr) (l : List α) : Prop := ∀ j (hj : j < l.length), At t w D a j l[j]
theorem At.fr {α : Type} {t : Ty α} {w w' : World} {D D' : Nat → Prop} {a : Option Addr} {j : Nat} {x : α} (h : At t w D a j x) (hs : Stay D w w') (hd : ∀ k, D k → D' k) : At t w' D' a j x := by
  obtain ⟨b, o, h1, h2, es, h3, h4⟩ := h
  exact ⟨b, o, h1, hd b h2, es, t.fr h3 hs hd, fun r u hu => hs _ _ _ h2 (h4 r u hu)⟩
theorem Sl.fr {α : Type} {t : Ty α} {w w' : World} {D D' : Nat → Prop} {a : Option Addr} {l : List α} (h : Sl t w D a l) (hs : Stay D w w') (hd : ∀ k, D k → D' k) : Sl t w' D' a l := fun j hj => (h j hj).fr hs hd
theorem Sl.below {α : Type} {t : Ty α} {w w' : World} {D : Nat → Prop} {a : Option Addr} {l : List α} (h : Sl t w D a l) (hb : Below w.heap.size w w') : Sl t w' D a l := h.fr (stay_below hb D) (fun _ h => h)
theorem Sl.dom {α : Type} {t : Ty α} {w : World} {D D' : Nat → Prop} {a : Option Addr} {l : List α} (h : Sl t w D a l) (hd : ∀ k, D k → D' k) : Sl t w D' a l := h.fr (fun _ _ _ _ h => h) hd
theorem Sl.nil {α : Type} (t : Ty α) (w : World) (D : Nat → Prop) (a : Option Addr) : Sl t w D a [] := fun j hj => by cases hj
def Ty.list {α : Type} (t : Ty α) : Ty (List α) where
  size := 1
  rd w D cs l := ∃ a c, cs = [.slice a l.length c] ∧ Sl t w D a l
  len := fun ⟨_, _, h, _⟩ => by rw [h]; rfl
  fr := fun ⟨_, _, h, h1⟩ hs hd => ⟨_, _, h, h1.fr hs hd⟩
  one := fun ⟨_, _, h, _⟩ u hu => by rw [h] at hu; simp at hu; subst hu; rfl
theorem Ty.below {α : Type} {t : Ty α} {w w' : World} {D : Nat → Prop} {cs : List Value} {x : α} (h : t.rd w D cs x) (hb : Below w.heap.size w w') : t.rd w' D cs x := t.fr h (stay_below hb D) (fun _ h => h)
theorem Ty.dom {α : Type} {t : Ty α} {w : World} {D D' : Nat → Prop} {cs : List Value} {x : α} (h : t.rd w D cs x) (hd : ∀ k, D k → D' k) : t.rd w D' cs x := t.fr h (fun _ _ _ _ h => h) hd

/-- cells of an element, as they lie -/
def Raw (n : Nat) : Type := { cs : List Value // cs.length = n ∧ ∀ u ∈ cs, u.oneCell' = true }
/-- an element type of the program -/
structure Slot (P : Program) where
  e : TypeId
  t : TypeId
  size : Nat
  bytes : Nat
  zero : Value
  ht : P.underlying t = some (.slice e)
  info : (P.info? e).map (fun i => (i.zero, i.size, i.bytes)) = some (some zero, size, bytes)
  hzs : zero.cells.size = size
  hsz : 0 < size
  hby : bytes ≤ 1000
variable {P : Program}
def Slot.elem (S : Slot P) : Elem P (Raw S.size) where
  e := S.e
  t := S.t
  size := S.size
  bytes := S.bytes
  zero := S.zero
  enc := Subtype.val
  ht := S.ht
  info := S.info
  hzs := S.hzs
  hsz := S.hsz
  hby := S.hby
  henc x := x.2.1
  hone x := x.2.2
/-- a list that one owns, from block B on; what its elements lead to lies in D -/
def OwnT (S : Slot P) {α : Type} (t : Ty α) (w : World) (B : Nat) (D : Nat → Prop) (v : Value) (l : List α) : Prop :=
  ∃ rs : List (Raw S.size), Own S.elem w B v rs ∧ rs.length = l.length ∧ (∀ j (h : j < rs.length) (h' : j < l.length), t.rd w D rs[j].1 l[j]) ∧ ∀ k, D k → v.ownBlock ≠ some k
variable {S : Slot P} {α : Type} {t : Ty α}
theorem OwnT.nil (S : Slot P) (t : Ty α) (w : World) (B : Nat) (D : Nat → Prop) : OwnT S t w B D (.slice none 0 0) [] := ⟨[], Own.nil _ _ _, rfl, fun j hj _ => (by cases hj), fun k _ h => (by simp [Value.ownBlock] at h)⟩
theorem OwnT.lt {w : World} {B : Nat} {D : Nat → Prop} {v : Value} {l : List α} (h : OwnT S t w B D v l) {k : Nat} (hk : v.ownBlock = some k) : B ≤ k ∧ k < w.heap.size := by
  obtain ⟨rs, h1, _⟩ := h
  exact h1.lt hk
theorem OwnT.off {w : World} {B : Nat} {D : Nat → Prop} {v : Value} {l : List α} (h : OwnT S t w B D v l) {k : Nat} (hk : D k) : v.ownBlock ≠ some k := h.choose_spec.2.2.2 k hk
theorem OwnT.fr {F : Nat → Prop} {w w' : World} {B : Nat} {D D' : Nat → Prop} {v : Value} {l : List α} (h : OwnT S t w B D v l) (hf : Fr F w w') (hn : ∀ k, v.ownBlock = some k → ¬ F k) (hd : ∀ k, D k → ¬ F k) (hd1 : ∀ k, D k → D' k) (hd2 : ∀ k, D' k → v.ownBlock ≠ some k) : OwnT S t w' B D' v l := by
  obtain ⟨rs, h1, h2, h3, _⟩ := h
  exact ⟨rs, h1.fr hf hn, h2, fun j hj hj' => t.fr (h3 j hj hj') (hf.stay hd) hd1, hd2⟩
theorem OwnT.below {w w' : World} {B : Nat} {D : Nat → Prop} {v : Value} {l : List α} (h : OwnT S t w B D v l) (hb : Below w.heap.size w w') : OwnT S t w' B D v l :=
  h.fr (Fr.of_below hb (fun _ => False)) (fun _ _ h => h) (fun _ _ h => h) (fun _ h => h) (fun _ hk => h.off hk)
theorem OwnT.base {w : World} {B B' : Nat} {D : Nat → Prop} {v : Value} {l : List α} (h : OwnT S t w B D v l) (hb : ∀ k, v.ownBlock = some k → B' ≤ k) : OwnT S t w B' D v l := by
  obtain ⟨rs, h1, h2⟩ := h
  exact ⟨rs, h1.base hb, h2⟩
theorem OwnT.slice {w : World} {B : Nat} {D : Nat → Prop} {v : Value} {l : List α} (h : OwnT S t w B D v l) : ∃ a c, v = .slice a l.length c := by
  obtain ⟨rs, h1, h2, _⟩ := h
  obtain ⟨a, c, h3, _⟩ := own_elems h1
  exact ⟨a, c, by rw [h3, h2]⟩
/-- to be read -/
theorem OwnT.rd {w : World} {B : Nat} {D : Nat → Prop} {v : Value} {l : List α} (h : OwnT S t w B D v l) (ht : t.size = S.size) : ∃ a c, v = .slice a l.length c ∧ Sl t w (fun k => D k ∨ v.ownBlock = some k) a l := by
  obtain ⟨rs, h1, h2, h3, h4⟩ := h
  obtain ⟨a, c, h5, h6⟩ := own_elems h1
  refine ⟨a, c, by rw [h5, h2], fun j hj => ?_⟩
  obtain ⟨b, h7, h8, h9⟩ := h6 j (by omega)
  refine ⟨b, 0, h7, .inr h8, rs[j].1, Ty.dom (h3 j (by omega) hj) (fun _ h => .inl h), fun r u hu => ?_⟩
  rw [ht, Nat.zero_add]
  exact h9 r u hu
theorem snoc_get {α : Type} (l : List α) (x : α) (j : Nat) (h : j < (l ++ [x]).length) : (∃ h' : j < l.length, (l ++ [x])[j] = l[j]) ∨ (j = l.length ∧ (l ++ [x])[j] = x) := by
  by_cases hlt : j < l.length
  · exact .inl ⟨hlt, List.getElem_append_left hlt⟩
  · have : j = l.length := by simp at h; omega
    subst this
    exact .inr ⟨rfl, by simp⟩
theorem OwnT.snoc {w w' : World} {B : Nat} {D : Nat → Prop} {v v' : Value} {l : List α} {x : α} {rs : List (Raw S.size)} {r : Raw S.size} (h2 : rs.length = l.length) (h3 : ∀ j (h : j < rs.length) (h' : j < l.length), t.rd w D rs[j].1 l[j]) (h4 : ∀ k, D k → v.ownBlock ≠ some k)
    (hx : t.rd w D r.1 x) (hD : ∀ k, D k → k < w.heap.size) (ho : Own S.elem w' B v' (rs ++ [r])) (hg : w.grownBy w' v.ownBlock) (hf : Fresh w v v') : OwnT S t w' B D v' (l ++ [x]) := by
  have hst : Stay D w w' := Stay.of_grown hg h4
  refine ⟨rs ++ [r], ho, by simp [h2], fun j hj hj' => ?_, fun k hk e => ?_⟩
  · rcases snoc_get rs r j hj with ⟨h5, h6⟩ | ⟨h5, h6⟩
    · rcases snoc_get l x j hj' with ⟨h7, h8⟩ | ⟨h7, h8⟩
      · rw [h6, h8]; exact t.fr (h3 j h5 h7) hst (fun _ h => h)
      · omega
    · rcases snoc_get l x j hj' with ⟨h7, h8⟩ | ⟨h7, h8⟩
      · omega
      · rw [h6, h8]; exact t.fr hx hst (fun _ h => h)
  · rcases hf k e with h | h
    · exact h4 k hk h
    · have := hD k hk; omega
/-- an append of one more element -/
theorem run_appendT (w : World) (ty : TypeId) (B : Nat) (D : Nat → Prop) (l : List α) (y : α) (cs : List Value) (v : Value) (hown : OwnT S t w B D v l) (b of c : Nat)
    (hm : CellsAt w b of cs) (hcs : t.rd w D cs y) (hsz : t.size = S.size) (hD : ∀ k, D k → k < w.heap.size) (hlen : l.length + 1 ≤ 100000000) (hB : B ≤ w.heap.size) :
    ∃ a' c' w', (Builtin.append_ #[S.t, S.t] ty #[v, .slice (some ⟨b, of, none⟩) 1 c]).run P w = .ok (.slice a' (l.length + 1) c') w' ∧ OwnT S t w' B D (.slice a' (l.length + 1) c') (l ++ [y]) ∧ w.grownBy w' v.ownBlock ∧ Fresh w v (.slice a' (l.length + 1) c') := by
  obtain ⟨rs, h1, h2, h3, h4⟩ := hown
  have hcl : cs.length = S.size := by rw [t.len hcs, hsz]
  obtain ⟨v', w', hr, h5, h6, h7⟩ := run_append_fresh S.elem w ty B rs [⟨cs, hcl, t.one hcs⟩] v h1 b of c (by show CellsAt w b of (cs ++ []); rw [List.append_nil]; exact hm) (by show rs.length + 1 ≤ _; omega) hB
  have hT := OwnT.snoc h2 h3 h4 (r := ⟨cs, hcl, t.one hcs⟩) hcs hD h5 h6 h7
  obtain ⟨a', c', rfl⟩ := hT.slice
  rw [List.length_append, List.length_singleton] at *
  exact ⟨a', c', w', hr, hT, h6, h7⟩
/-- as an operation -/
theorem appendT {ops : Array Oper} {rest : List Oper} {o : Oper} {a : Act} {Q : Exit → Act → World → Prop} {w : World} (hgd : o.guard = none) (s x : Operand)
    (ho : o.op = .call { callee := .builtin .append, args := #[s, x], argTypes := #[S.t, S.t] })
    (B : Nat) (D : Nat → Prop) (l : List α) (y : α) (cs : List Value) (v : Value) (hs : a.eval s = v) (hown : OwnT S t w B D v l) (b of c : Nat) (hx : a.eval x = .slice (some ⟨b, of, none⟩) 1 c)
    (hm : CellsAt w b of cs) (hcs : t.rd w D cs y) (hsz : t.size = S.size) (hD : ∀ k, D k → k < w.heap.size) (hlen : l.length + 1 ≤ 100000000) (hB : B ≤ w.heap.size)
    (h : ∀ a' c' w', OwnT S t w' B D (.slice a' (l.length + 1) c') (l ++ [y]) → w.grownBy w' v.ownBlock → Fresh w v (.slice a' (l.length + 1) c') → wpList P ops Q rest (a.put o.dst (.slice a' (l.length + 1) c')) w') : wpList P ops Q (o :: rest) a w :=
  wpList_plain hgd fun _ hK => by
    obtain ⟨a', c', w', hr, h2, h3, h4⟩ := run_appendT w o.type B D l y cs v hown b of c hm hcs hsz hD hlen hB
    unfold Oper.wp execOp
    simp only [ho, resolve, invoke, builtin, Sem.run_bind, Sem.run_pure, Result.andThen_ok, List.map_toArray, List.map_cons, List.map_nil, hs, hx, hr]
    exact hK _ _ (h a' c' w' h2 h3 h4)
/-- as an operation inside a region that draws its order -/
theorem step_appendT {ops : Array Oper} {o : Oper} {a : Act} {w : World} {K : Act → World → Prop} {Q : Exit → Act → World → Prop} {F : Prop} (hgd : o.guard = none) (s x : Operand)
    (ho : o.op = .call { callee := .builtin .append, args := #[s, x], argTypes := #[S.t, S.t] })
    (B : Nat) (D : Nat → Prop) (l : List α) (y : α) (cs : List Value) (v : Value) (hs : a.eval s = v) (hown : OwnT S t w B D v l) (b of c : Nat) (hx : a.eval x = .slice (some ⟨b, of, none⟩) 1 c)
    (hm : CellsAt w b of cs) (hcs : t.rd w D cs y) (hsz : t.size = S.size) (hD : ∀ k, D k → k < w.heap.size) (hlen : l.length + 1 ≤ 100000000) (hB : B ≤ w.heap.size)
    (h : ∀ a' c' w', OwnT S t w' B D (.slice a' (l.length + 1) c') (l ++ [y]) → w.grownBy w' v.ownBlock → Fresh w v (.slice a' (l.length + 1) c') → K (a.put o.dst (.slice a' (l.length + 1) c')) w') : if Region.wanted o (yielded ops a.tmps) = true then Oper.wp P o a w K Q else F := by
  have hw : Region.wanted o (yielded ops a.tmps) = true := by simp [Region.wanted, hgd]
  rw [if_pos hw]
  obtain ⟨a', c', w', hr, h2, h3, h4⟩ := run_appendT w o.type B D l y cs v hown b of c hm hcs hsz hD hlen hB
  unfold Oper.wp execOp
  simp only [ho, resolve, invoke, builtin, Sem.run_bind, Sem.run_pure, Result.andThen_ok, List.map_toArray, List.map_cons, List.map_nil, hs, hx, hr]
  exact h a' c' w' h2 h3 h4
end Go.Proofs.Ytmmdppjbofbjhaa
namespace Go.Proofs.Ytmmdppjbofbjhaa
open Go.ChangeShapes Go.WideShapes Go.ChangeAt Go.RowKit

set_option maxRecDepth 100000 in
set_option maxHeartbeats 1600000 in
theorem rints_any (w : World) (D D' : Nat → Prop) (a a' : Option Addr) (l m : List Int) (c c' : Nat) (hl : IntSl w D a l) (hm : IntSl w D' a' m) (hn : l.length ≤ 1000000) (hn' : m.length ≤ 1000000) :
    Calls Try.prog 123 #[.slice a l.length c, .slice a' m.length c'] w fun e w' => e = .returned (.bool (decide (l = m))) ∧ ∃ n, w' = w.drewN n := by
  by_cases hlen : l.length = m.length
  case neg =>
    have h1 : ((l.length : Int) != (m.length : Int)) = true := by rw [bne_iff_ne]; omega
    have h2 : decide (l = m) = false := by simp; intro h; rw [h] at hlen; exact hlen rfl
    rw [h2]
    clear h2 hlen
    go_enter Try.func123, Try.ntmps123
    go_wp2_with fail
    go_ret
    exact ⟨rfl, 0, rfl⟩
  have h1 : ((l.length : Int) != (m.length : Int)) = false := by rw [bne_eq_false_iff_eq]; omega
  have HLEN := Lib.hid hlen; clear hlen
  have HL := Lib.hid hl; clear hl
  have HM := Lib.hid hm; clear hm
  go_enter Try.func123, Try.ntmps123
  go_wp2_with fail
  clear h1
  go_loopw [5] (fun i wr => ∃ k : Nat, k ≤ l.length ∧ i = .int .i64 k ∧ l.take k = m.take k ∧ ∃ n, wr = w.drewN n) (fun i _ => l.length - (intOf i).toNat)
  case atStart => exact ⟨0, Nat.zero_le _, rfl, rfl, 0, rfl⟩
  case round =>
    obtain ⟨k, hk, rfl, ht, n, hwr⟩ := hrel
    by_cases hlt : k < l.length
    · have hlt2 : k < m.length := by have := HLEN.out; omega
      obtain ⟨b, o, rfl, _, hx⟩ := HL.out k hlt
      obtain ⟨b', o', rfl, _, hy⟩ := HM.out k hlt2
      have hx1 : wr.cell? ⟨b, o + k, none⟩ = some (.int .i64 l[k]) := by rw [hwr]; exact hx
      have hy1 : wr.cell? ⟨b', o' + k, none⟩ = some (.int .i64 m[k]) := by rw [hwr]; exact hy
      have hs := take_eq_step l m k hlt hlt2 ht
      have hne := ne_of_get l m k hlt hlt2
      clear hx hy ht
      generalize l[k] = x at *
      generalize m[k] = y at *
      have HS := Lib.hid hs; clear hs
      have HWR := Lib.hid hwr; clear hwr
      have HNE := Lib.hid hne; clear hne
      by_cases hxy : x = y
      · subst hxy
        go_wp2_with fail
        go_quiet (fail)
        go_wp2_with fail
        go_roundw
        case rel => exact ⟨k + 1, by omega, by go_num, by first | exact HS.out rfl | exact HS.out trivial, by rw [HWR.out]; exact ⟨_, by first | rfl | (simp; rfl)⟩⟩
        case measure => simp [intOf]; omega
      · have hb : (x != y) = true := by rw [bne_iff_ne]; exact hxy
        have hb2 : (x == y) = false := by simpa using hxy
        have hd : decide (l = m) = false := by simpa using HNE.out hxy
        have HD := Lib.hid hd; clear hd hxy
        go_wp2_with fail
        go_quiet (fail)
        go_wp2_with fail
        go_ret
        exact ⟨by rw [HD.out]; rfl, by rw [HWR.out]; exact ⟨_, by first | rfl | (simp; rfl)⟩⟩
    · have hd : decide (l = m) = true := by
        have h := HLEN.out
        have hk2 : k = l.length := by omega
        rw [hk2, List.take_length, List.take_of_length_le (by omega)] at ht
        simpa using ht
      have HD := Lib.hid hd
      have HWR := Lib.hid hwr; clear hwr
      clear hd ht
      go_wp2_with fail
      go_ret
      exact ⟨by rw [HD.out]; rfl, by rw [HWR.out]; exact ⟨_, rfl⟩⟩
set_option maxRecDepth 100000 in
set_option maxHeartbeats 1600000 in
theorem sameInts_any (w : World) (D D' : Nat → Prop) (a a' : Option Addr) (l m : List Int) (c c' : Nat) (hl : IntSl w D a l) (hm : IntSl w D' a' m) (hn : l.length ≤ 1000000) (hn' : m.length ≤ 1000000) :
    Calls Try.prog 54 #[.slice a l.length c, .slice a' m.length c'] w fun e w' => e = .returned (.bool (decide (l = m))) ∧ ∃ n, w' = w.drewN n := by
  by_cases hlen : l.length = m.length
  case neg =>
    have h1 : ((l.length : Int) != (m.length : Int)) = true := by rw [bne_iff_ne]; omega
    have h2 : decide (l = m) = false := by simp; intro h; rw [h] at hlen; exact hlen rfl
    rw [h2]
    clear h2 hlen
    go_enter Try.func54, Try.ntmps54
    go_wp2_with fail
    go_ret
    exact ⟨rfl, 0, rfl⟩
  have h1 : ((l.length : Int) != (m.length : Int)) = false := by rw [bne_eq_false_iff_eq]; omega
  have HLEN := Lib.hid hlen; clear hlen
  have HL := Lib.hid hl; clear hl
  have HM := Lib.hid hm; clear hm
  go_enter Try.func54, Try.ntmps54
  go_wp2_with fail
  clear h1
  go_loopw [5] (fun i wr => ∃ k : Nat, k ≤ l.length ∧ i = .int .i64 k ∧ l.take k = m.take k ∧ ∃ n, wr = w.drewN n) (fun i _ => l.length - (intOf i).toNat)
  case atStart => exact ⟨0, Nat.zero_le _, rfl, rfl, 0, rfl⟩
  case round =>
    obtain ⟨k, hk, rfl, ht, n, hwr⟩ := hrel
    by_cases hlt : k < l.length
    · have hlt2 : k < m.length := by have := HLEN.out; omega
      obtain ⟨b, o, rfl, _, hx⟩ := HL.out k hlt
      obtain ⟨b', o', rfl, _, hy⟩ := HM.out k hlt2
      have hx1 : wr.cell? ⟨b, o + k, none⟩ = some (.int .i64 l[k]) := by rw [hwr]; exact hx
      have hy1 : wr.cell? ⟨b', o' + k, none⟩ = some (.int .i64 m[k]) := by rw [hwr]; exact hy
      have hs := take_eq_step l m k hlt hlt2 ht
      have hne := ne_of_get l m k hlt hlt2
      clear hx hy ht
      generalize l[k] = x at *
      generalize m[k] = y at *
      have HS := Lib.hid hs; clear hs
      have HWR := Lib.hid hwr; clear hwr
      have HNE := Lib.hid hne; clear hne
      by_cases hxy : x = y
      · subst hxy
        go_wp2_with fail
        go_quiet (fail)
        go_wp2_with fail
        go_roundw
        case rel => exact ⟨k + 1, by omega, by go_num, by first | exact HS.out rfl | exact HS.out trivial, by rw [HWR.out]; exact ⟨_, by first | rfl | (simp; rfl)⟩⟩
        case measure => simp [intOf]; omega
      · have hb : (x != y) = true := by rw [bne_iff_ne]; exact hxy
        have hb2 : (x == y) = false := by simpa using hxy
        have hd : decide (l = m) = false := by simpa using HNE.out hxy
        have HD := Lib.hid hd; clear hd hxy
        go_wp2_with fail
        go_quiet (fail)
        go_wp2_with fail
        go_ret
        exact ⟨by rw [HD.out]; rfl, by rw [HWR.out]; exact ⟨_, by first | rfl | (simp; rfl)⟩⟩
    · have hd : decide (l = m) = true := by
        have h := HLEN.out
        have hk2 : k = l.length := by omega
        rw [hk2, List.take_length, List.take_of_length_le (by omega)] at ht
        simpa using ht
      have HD := Lib.hid hd
      have HWR := Lib.hid hwr; clear hwr
      clear hd ht
      go_wp2_with fail
      go_ret
      exact ⟨by rw [HD.out]; rfl, by rw [HWR.out]; exact ⟨_, rfl⟩⟩
set_option maxRecDepth 100000 in
set_option maxHeartbeats 1600000 in
theorem sameInstrs_any (w : World) (D D' : Nat → Prop) (a a' : Option Addr) (l m : List Ins) (c c' : Nat) (hl : InsSlD w D a l) (hm : InsSlD w D' a' m) (hn : l.length ≤ 1000000) (hn' : m.length ≤ 1000000) :
    Calls Try.prog 41 #[.slice a l.length c, .slice a' m.length c'] w fun e w' => e = .returned (.bool (decide (l = m))) ∧ ∃ n, w' = w.drewN n := by
  by_cases hlen : l.length = m.length
  case neg =>
    have h1 : ((l.length : Int) != (m.length : Int)) = true := by rw [bne_iff_ne]; omega
    have h2 : decide (l = m) = false := by simp; intro h; rw [h] at hlen; exact hlen rfl
    rw [h2]
    clear h2 hlen
    go_enter Try.func41, Try.ntmps41
    go_wp2_with fail
    go_ret
    exact ⟨rfl, 0, rfl⟩
  have h1 : ((l.length : Int) != (m.length : Int)) = false := by rw [bne_eq_false_iff_eq]; omega
  have HLEN := Lib.hid hlen; clear hlen
  have HL := Lib.hid hl; clear hl
  have HM := Lib.hid hm; clear hm
  go_enter Try.func41, Try.ntmps41
  go_wp2_with fail
  clear h1
  go_loopw [5] (fun i wr => ∃ k : Nat, k ≤ l.length ∧ i = .int .i64 k ∧ l.take k = m.take k ∧ ∃ n, wr = w.drewN n) (fun i _ => l.length - (intOf i).toNat)
  case atStart => exact ⟨0, Nat.zero_le _, rfl, rfl, 0, rfl⟩
  case round =>
    obtain ⟨k, hk, rfl, ht, n, hwr⟩ := hrel
    by_cases hlt : k < l.length
    · have hlt2 : k < m.length := by have := HLEN.out; omega
      obtain ⟨b, o, rfl, _, hx⟩ := HL.out k hlt
      obtain ⟨b', o', rfl, _, hy⟩ := HM.out k hlt2
      obtain ⟨p0, p1, p2, p3⟩ : InsAt wr b (o + k * 4) l[k] := by rw [hwr]; exact hx
      obtain ⟨r0, r1, r2, r3⟩ : InsAt wr b' (o' + k * 4) m[k] := by rw [hwr]; exact hy
      have hs := take_eq_step l m k hlt hlt2 ht
      have hne := ne_of_get l m k hlt hlt2
      clear hx hy ht
      generalize l[k] = x at *
      generalize m[k] = y at *
      have HS := Lib.hid hs; clear hs
      have HWR := Lib.hid hwr; clear hwr
      have HNE := Lib.hid hne; clear hne
      by_cases hxy : x = y
      · subst hxy
        go_wp2_with fail
        go_quiet (fail)
        go_wp2_with fail
        go_roundw
        case rel => exact ⟨k + 1, by omega, by go_num, by first | exact HS.out rfl | exact HS.out trivial, by rw [HWR.out]; exact ⟨_, by first | rfl | (simp; rfl)⟩⟩
        case measure => simp [intOf]; omega
      · have hd : decide (l = m) = false := by simpa using HNE.out hxy
        have HD := Lib.hid hd
        clear hd
        obtain ⟨x0, x1, x2, x3⟩ := x
        obtain ⟨y0, y1, y2, y3⟩ := y
        dsimp only at p0 p1 p2 p3 r0 r1 r2 r3
        clear HNE HS
        by_cases e0 : x0 = y0
        case neg =>
          have d0 : (x0 == y0) = false := by simpa using e0
          clear e0 hxy
          go_wp2_with fail
          go_quiet (fail)
          go_wp2_with fail
          go_ret
          exact ⟨by rw [HD.out]; rfl, by rw [HWR.out]; exact ⟨_, by first | rfl | (simp; rfl)⟩⟩
        subst e0
        by_cases e1 : x1 = y1
        case neg =>
          have d1 : (x1 == y1) = false := by simpa using e1
          clear e1 hxy
          go_wp2_with fail
          go_quiet (fail)
          go_wp2_with fail
          go_ret
          exact ⟨by rw [HD.out]; rfl, by rw [HWR.out]; exact ⟨_, by first | rfl | (simp; rfl)⟩⟩
        subst e1
        by_cases e2 : x2 = y2
        case neg =>
          have d2 : (x2 == y2) = false := by simpa using e2
          clear e2 hxy
          go_wp2_with fail
          go_quiet (fail)
          go_wp2_with fail
          go_ret
          exact ⟨by rw [HD.out]; rfl, by rw [HWR.out]; exact ⟨_, by first | rfl | (simp; rfl)⟩⟩
        subst e2
        by_cases e3 : x3 = y3
        case neg =>
          have d3 : (x3 == y3) = false := by simpa using e3
          clear e3 hxy
          go_wp2_with fail
          go_quiet (fail)
          go_wp2_with fail
          go_ret
          exact ⟨by rw [HD.out]; rfl, by rw [HWR.out]; exact ⟨_, by first | rfl | (simp; rfl)⟩⟩
        exact absurd (by rw [e3]) hxy
    · have hd : decide (l = m) = true := by
        have h := HLEN.out
        have hk2 : k = l.length := by omega
        rw [hk2, List.take_length, List.take_of_length_le (by omega)] at ht
        simpa using ht
      have HD := Lib.hid hd
      have HWR := Lib.hid hwr; clear hwr
      clear hd ht
      go_wp2_with fail
      go_ret
      exact ⟨by rw [HD.out]; rfl, by rw [HWR.out]; exact ⟨_, rfl⟩⟩
end Go.Proofs.Ytmmdppjbofbjhaa
