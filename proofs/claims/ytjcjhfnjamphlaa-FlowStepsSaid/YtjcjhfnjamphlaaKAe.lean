/- Walks: whether two programs are alike (package image). Walks: image.Same; besombook.Room and Small. Walk: besombook.Small. Walks: whether two lists are alike, as the references and the book ask. Walk: the first call of chapter 10's statements. -/
import Derived.Test.YtjcjhfnjamphlaaKAc
import Derived.Test.YtjcjhfnjamphlaaKAd
set_option linter.unusedVariables false
set_option linter.unusedSimpArgs false
namespace Go.Proofs.Ytjcjhfnjamphlaa
open Go.ChangeShapes Go.WideShapes Go.ChangeAt Go.RowKit
instance : DecidableEq Ins := fun ⟨a, b, c, d⟩ ⟨a', b', c', d'⟩ => if h : a = a' ∧ b = b' ∧ c = c' ∧ d = d' then isTrue (by obtain ⟨rfl, rfl, rfl, rfl⟩ := h; rfl) else isFalse (fun e => h (by injection e with h1 h2 h3 h4; exact ⟨h1, h2, h3, h4⟩))
instance : DecidableEq Fun := fun ⟨a, b, c, d, x⟩ ⟨a', b', c', d', x'⟩ => if h : a = a' ∧ b = b' ∧ c = c' ∧ d = d' ∧ x = x' then isTrue (by obtain ⟨rfl, rfl, rfl, rfl, rfl⟩ := h; rfl) else isFalse (fun e => h (by injection e with h1 h2 h3 h4 h5; exact ⟨h1, h2, h3, h4, h5⟩))
theorem take_eq_step {α : Type} (l m : List α) (k : Nat) (h1 : k < l.length) (h2 : k < m.length) (h : l.take k = m.take k) (hx : l[k] = m[k]) : l.take (k + 1) = m.take (k + 1) := by
  rw [take_snoc l k h1, take_snoc m k h2, h, hx]
theorem ne_of_get {α : Type} (l m : List α) (k : Nat) (h1 : k < l.length) (h2 : k < m.length) (hx : l[k] ≠ m[k]) : l ≠ m := fun h => by subst h; exact hx rfl

set_option maxRecDepth 100000 in
set_option maxHeartbeats 1600000 in
theorem eq_ints (w : World) (D D' : Nat → Prop) (a a' : Option Addr) (l m : List Int) (c c' : Nat) (hl : IntSl w D a l) (hm : IntSl w D' a' m) (hn : l.length ≤ 1000000) (hn' : m.length ≤ 1000000) :
    Calls Try.prog 72 #[.slice a l.length c, .slice a' m.length c'] w fun e w' => e = .returned (.bool (decide (l = m))) ∧ ∃ n, w' = w.drewN n := by
  by_cases hlen : l.length = m.length
  case neg =>
    have h1 : ((l.length : Int) != (m.length : Int)) = true := by rw [bne_iff_ne]; omega
    have h2 : decide (l = m) = false := by simp; intro h; rw [h] at hlen; exact hlen rfl
    rw [h2]
    clear h2 hlen
    go_enter Try.func72, Try.ntmps72
    go_wp2_with fail
    go_ret
    exact ⟨rfl, 0, rfl⟩
  have h1 : ((l.length : Int) != (m.length : Int)) = false := by rw [bne_eq_false_iff_eq]; omega
  have HLEN := Lib.hid hlen; clear hlen
  have HL := Lib.hid hl; clear hl
  have HM := Lib.hid hm; clear hm
  go_enter Try.func72, Try.ntmps72
  go_wp2_with fail
  clear h1
  go_loopw [13] (fun i wr => ∃ k : Nat, k ≤ l.length ∧ i = .int .i64 k ∧ l.take k = m.take k ∧ ∃ n, wr = w.drewN n) (fun i _ => l.length - (intOf i).toNat)
  case atStart => exact ⟨0, Nat.zero_le _, rfl, rfl, 0, rfl⟩
  case round =>
    obtain ⟨k, hk, rfl, ht, n, hwr⟩ := hrel
    by_cases hlt : k < l.length
    · have hlt2 : k < m.length := by have := HLEN.out; omega
      obtain ⟨b, o, rfl, _, hx⟩ := HL.out k hlt
      obtain ⟨b', o', rfl, _, hy⟩ := HM.out k hlt2
      have hx1 : wr.cell? ⟨b, o + k, none⟩ = some (.int .i64 l[k]) := by rw [hwr]; exact hx
      have hy1 : wr.cell? ⟨b', o' + k, none⟩ = some (.int .i64 m[k]) := by rw [hwr]; exact hy
      have hs := take_eq_step l m k hlt hlt2 ht
      have hne := ne_of_get l m k hlt hlt2
      clear hx hy ht
      generalize l[k] = x at *
      generalize m[k] = y at *
      have HS := Lib.hid hs; clear hs
      have HWR := Lib.hid hwr; clear hwr
      have HNE := Lib.hid hne; clear hne
      by_cases hxy : x = y
      · subst hxy
        go_wp2_with fail
        go_quiet (fail)
        go_wp2_with fail
        go_roundw
        case rel => exact ⟨k + 1, by omega, by go_num, by first | exact HS.out rfl | exact HS.out trivial, by rw [HWR.out]; exact ⟨_, by first | rfl | (simp; rfl)⟩⟩
        case measure => simp [intOf]; omega
      · have hb : (x != y) = true := by rw [bne_iff_ne]; exact hxy
        have hd : decide (l = m) = false := by simpa using HNE.out hxy
        have HD := Lib.hid hd; clear hd hxy
        go_wp2_with fail
        go_quiet (fail)
        go_wp2_with fail
        go_ret
        exact ⟨by rw [HD.out]; rfl, by rw [HWR.out]; exact ⟨_, by first | rfl | (simp; rfl)⟩⟩
    · have hd : decide (l = m) = true := by
        have h := HLEN.out
        have hk2 : k = l.length := by omega
        rw [hk2, List.take_length, List.take_of_length_le (by omega)] at ht
        simpa using ht
      have HD := Lib.hid hd
      have HWR := Lib.hid hwr; clear hwr
      clear hd ht
      go_wp2_with fail
      go_ret
      exact ⟨by rw [HD.out]; rfl, by rw [HWR.out]; exact ⟨_, rfl⟩⟩
end Go.Proofs.Ytjcjhfnjamphlaa
namespace Go.Proofs.Ytjcjhfnjamphlaa
open Go.ChangeShapes Go.WideShapes Go.ChangeAt Go.RowKit
instance : DecidableEq Prg := fun ⟨a, b, c⟩ ⟨a', b', c'⟩ => if h : a = a' ∧ b = b' ∧ c = c' then isTrue (by obtain ⟨rfl, rfl, rfl⟩ := h; rfl) else isFalse (fun e => h (by injection e with h1 h2 h3; exact ⟨h1, h2, h3⟩))
/-- how much room is left -/
def roomI (left : Int) : List Int → Int
  | [] => left
  | x :: l => if left < 0 ∨ left < x then -1 else roomI (left - x) l
def RoomPost (l : List Int) (left : Int) (w : World) (e : Ending) (w' : World) : Prop := e = .returned (.int .i64 (roomI left l)) ∧ w' = w
set_option maxRecDepth 100000 in
set_option maxHeartbeats 1600000 in
theorem room_any (w : World) (D : Nat → Prop) (a : Option Addr) (l : List Int) (c : Nat) (hl : IntSl w D a l) (left : Int) (h3 : left ≤ 3000) (h0 : -1 ≤ left) (hpos : ∀ x ∈ l, 0 ≤ x) (hn : l.length ≤ 1000) :
    Calls Try.prog 22 #[.int .i64 left, .slice a l.length c] w (RoomPost l left w) := by
  have HL := Lib.hid hl; clear hl
  have HPOS := Lib.hid hpos; clear hpos
  go_enter Try.func22, Try.ntmps22
  go_wp2_with fail
  go_loop [0, 5] (fun u i => ∃ (k : Nat) (L : Int), k ≤ l.length ∧ i = .int .i64 k ∧ u = .int .i64 L ∧ L ≤ 3000 ∧ -1 ≤ L ∧ roomI left l = roomI L (l.drop k)) (fun _ i => l.length - (intOf i).toNat)
  case atStart => exact ⟨0, left, Nat.zero_le _, rfl, rfl, h3, h0, by simp⟩
  case round =>
    obtain ⟨k, L, hk, rfl, rfl, hL3, hL0, hr⟩ := hrel
    by_cases hlt : k < l.length
    · obtain ⟨b, o, rfl, _, hx⟩ := HL.out k hlt
      have hp := HPOS.out l[k] (List.getElem_mem hlt)
      have hd : l.drop k = l[k] :: l.drop (k + 1) := (List.getElem_cons_drop (h := hlt)).symm
      rw [hd] at hr
      generalize l[k] = x at *
      clear hd
      have hr' : roomI left l = if L < 0 ∨ L < x then -1 else roomI (L - x) (l.drop (k + 1)) := hr
      clear hr
      by_cases h1 : L < 0
      · rw [if_pos (.inl h1)] at hr'
        have HP := Lib.hid (show RoomPost l left w (.returned (.int .i64 (-1))) w from ⟨by rw [hr'], rfl⟩)
        clear hr'
        go_wp2_with fail
        go_ret
        exact HP.out
      have h1' : decide (L < 0) = false := by simpa using h1
      by_cases h2 : L < x
      · rw [if_pos (.inr h2)] at hr'
        have HP := Lib.hid (show RoomPost l left w (.returned (.int .i64 (-1))) w from ⟨by rw [hr'], rfl⟩)
        clear hr'
        go_wp2_with fail
        go_ret
        exact HP.out
      rw [if_neg (by omega)] at hr'
      have HR' := Lib.hid hr'; clear hr'
      go_wp2_with fail
      go_round
      case rel => exact ⟨k + 1, L - x, by omega, by go_num, rfl, by omega, by omega, HR'.out⟩
      case measure => simp [intOf]; omega
    · have hk' : k = l.length := by omega
      rw [hk', List.drop_length] at hr
      have HP := Lib.hid (show RoomPost l left w (.returned (.int .i64 L)) w from ⟨by rw [hr]; rfl, rfl⟩)
      clear hr
      go_wp2_with fail
      go_ret
      exact HP.out
end Go.Proofs.Ytjcjhfnjamphlaa
namespace Go.Proofs.Ytjcjhfnjamphlaa
open Go.ChangeShapes Go.WideShapes Go.ChangeAt Go.RowKit
def rm (b : Nat) : Int := if b ≤ 3000 then 3000 - (b : Int) else -1
theorem rm_bd (b : Nat) : rm b ≤ 3000 ∧ -1 ≤ rm b := by unfold rm; split <;> omega
theorem rm_pos (b : Nat) : 0 ≤ rm b ↔ b ≤ 3000 := by unfold rm; split <;> omega
theorem room_rm (l : List Nat) : ∀ b, b ≤ 3000 → roomI (rm b) (l.map Int.ofNat) = rm (b + l.sum) := by
  induction l with
  | nil => intro b _; simp [roomI]
  | cons x l ih =>
    intro b hb
    have e : rm b = 3000 - (b : Int) := by unfold rm; rw [if_pos hb]
    rw [List.map_cons]
    unfold roomI
    rw [e]
    by_cases h : 3000 - (b : Int) < Int.ofNat x
    · rw [if_pos (.inr h)]
      have : ¬ b + (x :: l).sum ≤ 3000 := by simp at *; omega
      unfold rm
      rw [if_neg this]
    · rw [if_neg (by simp at *; omega)]
      have h2 : b + x ≤ 3000 := by simp at h; omega
      have h3 := ih (b + x) h2
      have e2 : rm (b + x) = 3000 - (b : Int) - Int.ofNat x := by unfold rm; rw [if_pos h2]; simp; omega
      rw [e2] at h3
      rw [h3, List.sum_cons, Nat.add_assoc]
/-- Room on a new literal slice -/
theorem room_new (w : World) (g : Nat) (hg : g = w.heap.size) (l : List Nat) (hl : l.length ≤ 100) (b : Nat) (hb : b ≤ 3000) :
    Calls Try.prog 22 #[.int .i64 (rm b), .slice (some ⟨g, 0, none⟩) l.length l.length] (w.alloc (.cells ((l.map Int.ofNat).map (Value.int .i64)).toArray 3)) fun e w' => e = .returned (.int .i64 (rm (b + l.sum))) ∧ w' = w.alloc (.cells ((l.map Int.ofNat).map (Value.int .i64)).toArray 3) := by
  subst hg
  have h := room_any (w.alloc (.cells ((l.map Int.ofNat).map (Value.int .i64)).toArray 3)) _ _ (l.map Int.ofNat) l.length (int_new w (l.map Int.ofNat)) (rm b) (rm_bd b).1 (rm_bd b).2 (fun x hx => by
    obtain ⟨y, _, rfl⟩ := List.mem_map.1 hx
    exact Int.natCast_nonneg y) (by simp; omega)
  unfold RoomPost at h
  rw [room_rm l b hb, List.length_map] at h
  exact h
def shSum (p : Prg) (k : Nat) : Nat := p.globals.length + p.shapes.length + p.funcs.length + ((p.shapes.take k).map shBulk).sum
def fnSum (p : Prg) (k : Nat) : Nat := shSum p p.shapes.length + ((p.funcs.take k).map fnBulk).sum
theorem shSum_succ (p : Prg) (k : Nat) (hk : k < p.shapes.length) : shSum p (k + 1) = shSum p k + p.shapes[k].length := by
  unfold shSum; rw [take_snoc _ k hk, List.map_append, List.sum_append]; simp [shBulk]; try omega
theorem fnSum_succ (p : Prg) (k : Nat) (hk : k < p.funcs.length) : fnSum p (k + 1) = fnSum p k + (p.funcs[k].args.length + (p.funcs[k].objects.length + p.funcs[k].code.length)) := by
  unfold fnSum; rw [take_snoc _ k hk, List.map_append, List.sum_append]; simp [fnBulk]; try omega
theorem shSum_le (p : Prg) (k : Nat) : shSum p k ≤ bulk p := by
  unfold shSum bulk
  have : ((p.shapes.take k).map shBulk).sum ≤ (p.shapes.map shBulk).sum := by
    have h : (p.shapes.map shBulk).sum = ((p.shapes.take k).map shBulk).sum + ((p.shapes.drop k).map shBulk).sum := by
      rw [← List.sum_append, ← List.map_append, List.take_append_drop]
    omega
  omega
theorem fnSum_le (p : Prg) (k : Nat) : fnSum p k ≤ bulk p := by
  unfold fnSum shSum bulk
  rw [List.take_length]
  have : ((p.funcs.take k).map fnBulk).sum ≤ (p.funcs.map fnBulk).sum := by
    have h : (p.funcs.map fnBulk).sum = ((p.funcs.take k).map fnBulk).sum + ((p.funcs.drop k).map fnBulk).sum := by
      rw [← List.sum_append, ← List.map_append, List.take_append_drop]
    omega
  omega
theorem fnSum_all (p : Prg) : fnSum p p.funcs.length = bulk p := by
  unfold fnSum shSum bulk; rw [List.take_length, List.take_length]; try omega
theorem shSum_shapes (p : Prg) (k : Nat) (h : shSum p k ≤ 3000) : p.shapes.length ≤ 3000 ∧ p.funcs.length ≤ 3000 := by
  unfold shSum at h; omega

set_option maxRecDepth 100000 in
set_option maxHeartbeats 3200000 in
theorem small_any (w : World) (D : Nat → Prop) (pr : Prg) (c0 c1 c2 : Value) (hv : PrgVal w D pr c0 c1 c2) :
    Calls Try.prog 7 #[.agg #[c0, c1, c2]] w fun e w' => e = .returned (.bool (decide (bulk pr ≤ 3000))) ∧ Below w.heap.size w w' := by
  obtain ⟨⟨a0, n0, rfl, _⟩, ⟨a1, n1, rfl, hs1⟩, a2, n2, rfl, hs2⟩ := hv
  have r0 := fun w g hg => room_new w g hg [pr.globals.length, pr.shapes.length, pr.funcs.length] (by simp) 0 (by omega)
  have e0 : 0 + [pr.globals.length, pr.shapes.length, pr.funcs.length].sum = shSum pr 0 := by simp [shSum]; try omega
  rw [e0] at r0
  have hr0 : rm 0 = 3000 := rfl
  rw [hr0] at r0
  have m0 : (([pr.globals.length, pr.shapes.length, pr.funcs.length].map Int.ofNat).map (Value.int .i64)).toArray = #[.int .i64 pr.globals.length, .int .i64 pr.shapes.length, .int .i64 pr.funcs.length] := rfl
  rw [m0] at r0
  have r1 := fun (n : Nat) (w : World) b hb => room_new w _ rfl [n] (by simp) b hb
  have r3 := fun (n m l : Nat) (w : World) b hb => room_new w _ rfl [n, m, l] (by simp) b hb
  have HR0 := Lib.hid r0; have HR1 := Lib.hid r1; have HR3 := Lib.hid r3
  clear r0 r1 r3 e0 hr0 m0
  have hbx : ∀ wr, Below (w.heap.size + 1) (w.alloc (.cells #[.slice a0 pr.globals.length n0, .slice a1 pr.shapes.length n1, .slice a2 pr.funcs.length n2] 26)) wr → wr.cell? ⟨w.heap.size, 1, none⟩ = some (.slice a1 pr.shapes.length n1) ∧ wr.cell? ⟨w.heap.size, 2, none⟩ = some (.slice a2 pr.funcs.length n2) ∧ Below w.heap.size w wr := fun wr h =>
    ⟨by rw [h.cell (by simp)]; exact cell_new w _ _ _ 1, by rw [h.cell (by simp)]; exact cell_new w _ _ _ 2, ((Below.refl _ _).alloc (Nat.le_refl _) _).trans (h.mono (by simp))⟩
  have HBX := Lib.hid hbx; clear hbx
  have HS1 := Lib.hid hs1; clear hs1
  have HS2 := Lib.hid hs2; clear hs2
  go_enter Try.func7, Try.ntmps7
  go_wp2_with fail
  refine (HR0.out _ _ (by simp)).mono ?_
  rintro e w1 ⟨rfl, rfl⟩
  have bd0 := rm_bd (shSum pr 0)
  have hB0 : Below (w.heap.size + 1) (w.alloc (.cells #[.slice a0 pr.globals.length n0, .slice a1 pr.shapes.length n1, .slice a2 pr.funcs.length n2] 26)) ((w.alloc (.cells #[.slice a0 pr.globals.length n0, .slice a1 pr.shapes.length n1, .slice a2 pr.funcs.length n2] 26)).alloc (.cells #[.int .i64 pr.globals.length, .int .i64 pr.shapes.length, .int .i64 pr.funcs.length] 3)) := (Below.refl _ _).alloc (by simp) _
  have HB0 := Lib.hid hB0; clear hB0
  go_wp2_with fail
  go_loopw [3, 4] (fun u i wr => ∃ k : Nat, k ≤ pr.shapes.length ∧ i = .int .i64 k ∧ u = .int .i64 (rm (shSum pr k)) ∧ Below (w.heap.size + 1) (w.alloc (.cells #[.slice a0 pr.globals.length n0, .slice a1 pr.shapes.length n1, .slice a2 pr.funcs.length n2] 26)) wr) (fun _ i _ => pr.shapes.length - (intOf i).toNat)
  case atStart => exact ⟨0, Nat.zero_le _, rfl, rfl, HB0.out⟩
  case round =>
    obtain ⟨k, hk, rfl, rfl, hB⟩ := hrel
    obtain ⟨q1, q2, hbw⟩ := HBX.out wr hB
    have bd := rm_bd (shSum pr k)
    have hp := rm_pos (shSum pr k)
    by_cases hgo : k < pr.shapes.length ∧ shSum pr k ≤ 3000
    · obtain ⟨hlt, hle⟩ := hgo
      have hpos : 0 ≤ rm (shSum pr k) := hp.2 hle
      obtain ⟨b, o, rfl, _, x1, x2, hx, _⟩ := HS1.out k hlt
      have hx := below_cell hbw hx
      have hc := HR1.out pr.shapes[k].length wr (shSum pr k) hle
      have hlen3 := shSum_shapes pr k hle
      have hsu : shSum pr k + [pr.shapes[k].length].sum = shSum pr (k + 1) := by rw [shSum_succ pr k hlt]; simp
      rw [hsu] at hc
      have bd2 := rm_bd (shSum pr (k + 1))
      generalize rm (shSum pr k) = r at *
      clear hle hsu hp hbw
      have hB2 := hB.alloc (by have := hB.size; simpa using this) (.cells #[.int .i64 pr.shapes[k].length] 3)
      have HC := Lib.hid hc; clear hc
      have HB2 := Lib.hid hB2; clear hB2
      clear hB
      go_wp2_with fail
      refine HC.out.mono ?_
      rintro e w3 ⟨rfl, rfl⟩
      go_wp2_with fail
      go_roundw
      case rel => exact ⟨k + 1, by omega, by go_num, rfl, HB2.out⟩
      case measure => simp [intOf]; omega
    · have hX : ∃ X, X = shSum pr k ∧ (X = fnSum pr 0 ∨ 3000 < X) ∧ X ≤ bulk pr := by
        refine ⟨_, rfl, ?_, shSum_le pr k⟩
        by_cases h : shSum pr k ≤ 3000
        · have hk2 : k = pr.shapes.length := by omega
          exact .inl (by rw [hk2]; simp [fnSum])
        · exact .inr (by omega)
      obtain ⟨X, hXe, hX1, hX2⟩ := hX
      have hstop : ¬ (k < pr.shapes.length ∧ 0 ≤ rm X) := fun h => hgo ⟨h.1, by rw [← hXe]; exact (rm_pos X).1 h.2⟩
      rw [← hXe] at bd hp ⊢
      clear hgo hXe hp hbw
      have hX3 := rm_pos X
      generalize hr : rm X = r at *
      have HR := Lib.hid hr; clear hr
      have HX1 := Lib.hid hX1; clear hX1
      have HX2 := Lib.hid hX2; clear hX2
      have HX3 := Lib.hid hX3; clear hX3
      have HB := Lib.hid hB; clear hB
      have fin : ∀ wr2, Below (w.heap.size + 1) (w.alloc (.cells #[.slice a0 pr.globals.length n0, .slice a1 pr.shapes.length n1, .slice a2 pr.funcs.length n2] 26)) wr2 → ∀ j Y, (Y = fnSum pr j ∨ 3000 < Y) → Y ≤ bulk pr → ¬ (j < pr.funcs.length ∧ Y ≤ 3000) → j ≤ pr.funcs.length → decide (0 ≤ rm Y) = decide (bulk pr ≤ 3000) ∧ Below w.heap.size w wr2 := by
        intro wr2 hb2 j Y h1 h2 h3 h4
        refine ⟨?_, (HBX.out wr2 hb2).2.2⟩
        have h5 := rm_pos Y
        by_cases hY : Y ≤ 3000
        · have hj : j = pr.funcs.length := by omega
          have hYe : Y = bulk pr := by
            rcases h1 with h1 | h1
            · rw [h1, hj, fnSum_all]
            · omega
          rw [hYe] at h5 hY ⊢
          simp [h5, hY]
        · have : ¬ bulk pr ≤ 3000 := by omega
          simp [h5, hY, this]
      have FIN := Lib.hid fin; clear fin
      by_cases hlt : k < pr.shapes.length
      all_goals
        first | have hneg : r < 0 := (by omega) | skip
        clear hstop
        go_wp2_with fail
        go_loopw [3, 5] (fun u i wr => ∃ (j : Nat) (Y : Nat), j ≤ pr.funcs.length ∧ i = .int .i64 j ∧ u = .int .i64 (rm Y) ∧ (Y = fnSum pr j ∨ 3000 < Y) ∧ Y ≤ bulk pr ∧ Below (w.heap.size + 1) (w.alloc (.cells #[.slice a0 pr.globals.length n0, .slice a1 pr.shapes.length n1, .slice a2 pr.funcs.length n2] 26)) wr) (fun _ i _ => pr.funcs.length - (intOf i).toNat)
        case atStart => exact ⟨0, X, Nat.zero_le _, rfl, by rw [HR.out], HX1.out, HX2.out, HB.out⟩
        case round =>
          obtain ⟨j, Y, hj, rfl, rfl, hY1, hY2, hB2⟩ := hrel
          obtain ⟨_, t2, hbw⟩ := HBX.out _ hB2
          have bdY := rm_bd Y
          have hpY := rm_pos Y
          by_cases hgo : j < pr.funcs.length ∧ Y ≤ 3000
          · obtain ⟨hlt2, hle⟩ := hgo
            have hYe : Y = fnSum pr j := by omega
            have hpos : 0 ≤ rm Y := hpY.2 hle
            obtain ⟨b, o, rfl, _, x0, x1, x2, x3, x4, p0, p1, p2, p3, p4, ⟨e1, e2, ⟨y0, z0, e3, _⟩, ⟨y3, z3, e4, _⟩, y4, z4, e5, _⟩⟩ := HS2.out j hlt2
            have p0 := below_cell hbw p0
            have p1 := below_cell hbw p1
            have p2 := below_cell hbw p2
            have p3 := below_cell hbw p3
            have p4 := below_cell hbw p4
            have hc := fun g hg => room_new (wr.alloc (.cells #[x0, x1, x2, x3, x4] 41)) g hg [pr.funcs[j].args.length, pr.funcs[j].objects.length, pr.funcs[j].code.length] (by simp) Y hle
            have hsu : Y + [pr.funcs[j].args.length, pr.funcs[j].objects.length, pr.funcs[j].code.length].sum = fnSum pr (j + 1) := by rw [fnSum_succ pr j hlt2, hYe]; simp
            rw [hsu] at hc
            have hle2 := fnSum_le pr (j + 1)
            have bd2 := rm_bd (fnSum pr (j + 1))
            have hB3 := (hB2.alloc (by have := hB2.size; simpa using this) (.cells #[x0, x1, x2, x3, x4] 41)).alloc (by have := hB2.size; simp at *; omega) (.cells #[.int .i64 pr.funcs[j].args.length, .int .i64 pr.funcs[j].objects.length, .int .i64 pr.funcs[j].code.length] 3)
            subst e1 e2 e3 e4 e5
            have hfl : pr.funcs.length ≤ 3000 := by
              have h1 : fnSum pr j ≤ 3000 := by omega
              unfold fnSum shSum at h1; omega
            clear hsu hpY hbw hB2 hY1 hY2 hYe hle
            generalize rm Y = y at *
            have HC := Lib.hid hc; clear hc
            have HB3 := Lib.hid hB3; clear hB3
            have HLE2 := Lib.hid hle2; clear hle2
            go_wp2_with fail
            refine (HC.out _ (by simp)).mono ?_
            rintro e w3 ⟨rfl, rfl⟩
            go_wp2_with fail
            go_roundw
            case rel => exact ⟨j + 1, fnSum pr (j + 1), by omega, by go_num, rfl, .inl rfl, HLE2.out, HB3.out⟩
            case measure => simp [intOf]; omega
          · have hF := FIN.out _ hB2 j Y hY1 hY2 hgo hj
            have hstop : ¬ (j < pr.funcs.length ∧ 0 ≤ rm Y) := fun h => hgo ⟨h.1, hpY.1 h.2⟩
            clear hgo hpY hbw hY1 hY2 hB2
            generalize rm Y = y at *
            by_cases hlt2 : j < pr.funcs.length
            all_goals
              first | have hneg2 : y < 0 := (by omega) | skip
              clear hstop
              have HF := Lib.hid hF; clear hF
              by_cases hy : 0 ≤ y
              all_goals
                first
                | (exfalso; omega)
                | (go_wp2_with fail
                   go_ret
                   exact ⟨by rw [← HF.out.1]; simp [hy], HF.out.2⟩)
end Go.Proofs.Ytjcjhfnjamphlaa
namespace Go.Proofs.Ytjcjhfnjamphlaa
open Go.ChangeShapes Go.WideShapes Go.ChangeAt Go.RowKit
set_option maxRecDepth 100000 in
set_option maxHeartbeats 1600000 in
theorem sameInts_any (w : World) (D D' : Nat → Prop) (a a' : Option Addr) (l m : List Int) (c c' : Nat) (hl : IntSl w D a l) (hm : IntSl w D' a' m) (hn : l.length ≤ 1000000) (hn' : m.length ≤ 1000000) :
    Calls Try.prog 13 #[.slice a l.length c, .slice a' m.length c'] w fun e w' => e = .returned (.bool (decide (l = m))) ∧ ∃ n, w' = w.drewN n := by
  by_cases hlen : l.length = m.length
  case neg =>
    have h1 : ((l.length : Int) != (m.length : Int)) = true := by rw [bne_iff_ne]; omega
    have h2 : decide (l = m) = false := by simp; intro h; rw [h] at hlen; exact hlen rfl
    rw [h2]
    clear h2 hlen
    go_enter Try.func13, Try.ntmps13
    go_wp2_with fail
    go_ret
    exact ⟨rfl, 0, rfl⟩
  have h1 : ((l.length : Int) != (m.length : Int)) = false := by rw [bne_eq_false_iff_eq]; omega
  have HLEN := Lib.hid hlen; clear hlen
  have HL := Lib.hid hl; clear hl
  have HM := Lib.hid hm; clear hm
  go_enter Try.func13, Try.ntmps13
  go_wp2_with fail
  clear h1
  go_loopw [5] (fun i wr => ∃ k : Nat, k ≤ l.length ∧ i = .int .i64 k ∧ l.take k = m.take k ∧ ∃ n, wr = w.drewN n) (fun i _ => l.length - (intOf i).toNat)
  case atStart => exact ⟨0, Nat.zero_le _, rfl, rfl, 0, rfl⟩
  case round =>
    obtain ⟨k, hk, rfl, ht, n, hwr⟩ := hrel
    by_cases hlt : k < l.length
    · have hlt2 : k < m.length := by have := HLEN.out; omega
      obtain ⟨b, o, rfl, _, hx⟩ := HL.out k hlt
      obtain ⟨b', o', rfl, _, hy⟩ := HM.out k hlt2
      have hx1 : wr.cell? ⟨b, o + k, none⟩ = some (.int .i64 l[k]) := by rw [hwr]; exact hx
      have hy1 : wr.cell? ⟨b', o' + k, none⟩ = some (.int .i64 m[k]) := by rw [hwr]; exact hy
      have hs := take_eq_step l m k hlt hlt2 ht
      have hne := ne_of_get l m k hlt hlt2
      clear hx hy ht
      generalize l[k] = x at *
      generalize m[k] = y at *
      have HS := Lib.hid hs; clear hs
      have HWR := Lib.hid hwr; clear hwr
      have HNE := Lib.hid hne; clear hne
      by_cases hxy : x = y
      · subst hxy
        go_wp2_with fail
        go_quiet (fail)
        go_wp2_with fail
        go_roundw
        case rel => exact ⟨k + 1, by omega, by go_num, by first | exact HS.out rfl | exact HS.out trivial, by rw [HWR.out]; exact ⟨_, by first | rfl | (simp; rfl)⟩⟩
        case measure => simp [intOf]; omega
      · have hb : (x != y) = true := by rw [bne_iff_ne]; exact hxy
        have hb2 : (x == y) = false := by simpa using hxy
        have hd : decide (l = m) = false := by simpa using HNE.out hxy
        have HD := Lib.hid hd; clear hd hxy
        go_wp2_with fail
        go_quiet (fail)
        go_wp2_with fail
        go_ret
        exact ⟨by rw [HD.out]; rfl, by rw [HWR.out]; exact ⟨_, by first | rfl | (simp; rfl)⟩⟩
    · have hd : decide (l = m) = true := by
        have h := HLEN.out
        have hk2 : k = l.length := by omega
        rw [hk2, List.take_length, List.take_of_length_le (by omega)] at ht
        simpa using ht
      have HD := Lib.hid hd
      have HWR := Lib.hid hwr; clear hwr
      clear hd ht
      go_wp2_with fail
      go_ret
      exact ⟨by rw [HD.out]; rfl, by rw [HWR.out]; exact ⟨_, rfl⟩⟩
end Go.Proofs.Ytjcjhfnjamphlaa
namespace Go.Proofs.Ytjcjhfnjamphlaa
open Go.ChangeShapes Go.WideShapes Go.ChangeAt Go.RowKit
/-- the three blocks of that program -/
def wA (w : World) : World := ((w.alloc (.cells #[.int .i64 27, .int .i64 0, .int .i64 0, .int .i64 0] 47)).alloc (.cells #[.slice none 0 0, .int .i64 0, .int .i64 0, .slice none 0 0, .slice (some ⟨w.heap.size, 0, none⟩) 1 1] 41)).alloc (.cells #[.slice none 0 0, .slice none 0 0, .slice (some ⟨w.heap.size + 1, 0, none⟩) 1 1] 26)
end Go.Proofs.Ytjcjhfnjamphlaa
