/- Walks: whether two programs are alike (package image). Walk: besombook.Small. Walks: whether two lists are alike, as the references and the book ask. -/
import Derived.Test.YtjcjhfnjamphlaaJAe
import Derived.Test.YtjcjhfnjamphlaaJAc
set_option linter.unusedVariables false
set_option linter.unusedSimpArgs false
namespace Go.Proofs.Ytjcjhfnjamphlaa
open Go.ChangeShapes Go.WideShapes Go.ChangeAt Go.RowKit
instance : DecidableEq Ins := fun ⟨a, b, c, d⟩ ⟨a', b', c', d'⟩ => if h : a = a' ∧ b = b' ∧ c = c' ∧ d = d' then isTrue (by obtain ⟨rfl, rfl, rfl, rfl⟩ := h; rfl) else isFalse (fun e => h (by injection e with h1 h2 h3 h4; exact ⟨h1, h2, h3, h4⟩))
instance : DecidableEq Fun := fun ⟨a, b, c, d, x⟩ ⟨a', b', c', d', x'⟩ => if h : a = a' ∧ b = b' ∧ c = c' ∧ d = d' ∧ x = x' then isTrue (by obtain ⟨rfl, rfl, rfl, rfl, rfl⟩ := h; rfl) else isFalse (fun e => h (by injection e with h1 h2 h3 h4 h5; exact ⟨h1, h2, h3, h4, h5⟩))
theorem take_eq_step {α : Type} (l m : List α) (k : Nat) (h1 : k < l.length) (h2 : k < m.length) (h : l.take k = m.take k) (hx : l[k] = m[k]) : l.take (k + 1) = m.take (k + 1) := by
  rw [take_snoc l k h1, take_snoc m k h2, h, hx]
theorem ne_of_get {α : Type} (l m : List α) (k : Nat) (h1 : k < l.length) (h2 : k < m.length) (hx : l[k] ≠ m[k]) : l ≠ m := fun h => by subst h; exact hx rfl

set_option maxRecDepth 100000 in
set_option maxHeartbeats 1600000 in
theorem eq_ints (w : World) (D D' : Nat → Prop) (a a' : Option Addr) (l m : List Int) (c c' : Nat) (hl : IntSl w D a l) (hm : IntSl w D' a' m) (hn : l.length ≤ 1000000) (hn' : m.length ≤ 1000000) :
    Calls Try.prog 72 #[.slice a l.length c, .slice a' m.length c'] w fun e w' => e = .returned (.bool (decide (l = m))) ∧ ∃ n, w' = w.drewN n := by
  by_cases hlen : l.length = m.length
  case neg =>
    have h1 : ((l.length : Int) != (m.length : Int)) = true := by rw [bne_iff_ne]; omega
    have h2 : decide (l = m) = false := by simp; intro h; rw [h] at hlen; exact hlen rfl
    rw [h2]
    clear h2 hlen
    go_enter Try.func72, Try.ntmps72
    go_wp2_with fail
    go_ret
    exact ⟨rfl, 0, rfl⟩
  have h1 : ((l.length : Int) != (m.length : Int)) = false := by rw [bne_eq_false_iff_eq]; omega
  have HLEN := Lib.hid hlen; clear hlen
  have HL := Lib.hid hl; clear hl
  have HM := Lib.hid hm; clear hm
  go_enter Try.func72, Try.ntmps72
  go_wp2_with fail
  clear h1
  go_loopw [13] (fun i wr => ∃ k : Nat, k ≤ l.length ∧ i = .int .i64 k ∧ l.take k = m.take k ∧ ∃ n, wr = w.drewN n) (fun i _ => l.length - (intOf i).toNat)
  case atStart => exact ⟨0, Nat.zero_le _, rfl, rfl, 0, rfl⟩
  case round =>
    obtain ⟨k, hk, rfl, ht, n, hwr⟩ := hrel
    by_cases hlt : k < l.length
    · have hlt2 : k < m.length := by have := HLEN.out; omega
      obtain ⟨b, o, rfl, _, hx⟩ := HL.out k hlt
      obtain ⟨b', o', rfl, _, hy⟩ := HM.out k hlt2
      have hx1 : wr.cell? ⟨b, o + k, none⟩ = some (.int .i64 l[k]) := by rw [hwr]; exact hx
      have hy1 : wr.cell? ⟨b', o' + k, none⟩ = some (.int .i64 m[k]) := by rw [hwr]; exact hy
      have hs := take_eq_step l m k hlt hlt2 ht
      have hne := ne_of_get l m k hlt hlt2
      clear hx hy ht
      generalize l[k] = x at *
      generalize m[k] = y at *
      have HS := Lib.hid hs; clear hs
      have HWR := Lib.hid hwr; clear hwr
      have HNE := Lib.hid hne; clear hne
      by_cases hxy : x = y
      · subst hxy
        go_wp2_with fail
        go_quiet (fail)
        go_wp2_with fail
        go_roundw
        case rel => exact ⟨k + 1, by omega, by go_num, by first | exact HS.out rfl | exact HS.out trivial, by rw [HWR.out]; exact ⟨_, by first | rfl | (simp; rfl)⟩⟩
        case measure => simp [intOf]; omega
      · have hb : (x != y) = true := by rw [bne_iff_ne]; exact hxy
        have hd : decide (l = m) = false := by simpa using HNE.out hxy
        have HD := Lib.hid hd; clear hd hxy
        go_wp2_with fail
        go_quiet (fail)
        go_wp2_with fail
        go_ret
        exact ⟨by rw [HD.out]; rfl, by rw [HWR.out]; exact ⟨_, by first | rfl | (simp; rfl)⟩⟩
    · have hd : decide (l = m) = true := by
        have h := HLEN.out
        have hk2 : k = l.length := by omega
        rw [hk2, List.take_length, List.take_of_length_le (by omega)] at ht
        simpa using ht
      have HD := Lib.hid hd
      have HWR := Lib.hid hwr; clear hwr
      clear hd ht
      go_wp2_with fail
      go_ret
      exact ⟨by rw [HD.out]; rfl, by rw [HWR.out]; exact ⟨_, rfl⟩⟩
end Go.Proofs.Ytjcjhfnjamphlaa
namespace Go.Proofs.Ytjcjhfnjamphlaa
open Go.ChangeShapes Go.WideShapes Go.ChangeAt Go.RowKit
def rm (b : Nat) : Int := if b ≤ 3000 then 3000 - (b : Int) else -1
end Go.Proofs.Ytjcjhfnjamphlaa
namespace Go.Proofs.Ytjcjhfnjamphlaa
open Go.ChangeShapes Go.WideShapes Go.ChangeAt Go.RowKit
set_option maxRecDepth 100000 in
set_option maxHeartbeats 1600000 in
theorem sameInts_any (w : World) (D D' : Nat → Prop) (a a' : Option Addr) (l m : List Int) (c c' : Nat) (hl : IntSl w D a l) (hm : IntSl w D' a' m) (hn : l.length ≤ 1000000) (hn' : m.length ≤ 1000000) :
    Calls Try.prog 13 #[.slice a l.length c, .slice a' m.length c'] w fun e w' => e = .returned (.bool (decide (l = m))) ∧ ∃ n, w' = w.drewN n := by
  by_cases hlen : l.length = m.length
  case neg =>
    have h1 : ((l.length : Int) != (m.length : Int)) = true := by rw [bne_iff_ne]; omega
    have h2 : decide (l = m) = false := by simp; intro h; rw [h] at hlen; exact hlen rfl
    rw [h2]
    clear h2 hlen
    go_enter Try.func13, Try.ntmps13
    go_wp2_with fail
    go_ret
    exact ⟨rfl, 0, rfl⟩
  have h1 : ((l.length : Int) != (m.length : Int)) = false := by rw [bne_eq_false_iff_eq]; omega
  have HLEN := Lib.hid hlen; clear hlen
  have HL := Lib.hid hl; clear hl
  have HM := Lib.hid hm; clear hm
  go_enter Try.func13, Try.ntmps13
  go_wp2_with fail
  clear h1
  go_loopw [5] (fun i wr => ∃ k : Nat, k ≤ l.length ∧ i = .int .i64 k ∧ l.take k = m.take k ∧ ∃ n, wr = w.drewN n) (fun i _ => l.length - (intOf i).toNat)
  case atStart => exact ⟨0, Nat.zero_le _, rfl, rfl, 0, rfl⟩
  case round =>
    obtain ⟨k, hk, rfl, ht, n, hwr⟩ := hrel
    by_cases hlt : k < l.length
    · have hlt2 : k < m.length := by have := HLEN.out; omega
      obtain ⟨b, o, rfl, _, hx⟩ := HL.out k hlt
      obtain ⟨b', o', rfl, _, hy⟩ := HM.out k hlt2
      have hx1 : wr.cell? ⟨b, o + k, none⟩ = some (.int .i64 l[k]) := by rw [hwr]; exact hx
      have hy1 : wr.cell? ⟨b', o' + k, none⟩ = some (.int .i64 m[k]) := by rw [hwr]; exact hy
      have hs := take_eq_step l m k hlt hlt2 ht
      have hne := ne_of_get l m k hlt hlt2
      clear hx hy ht
      generalize l[k] = x at *
      generalize m[k] = y at *
      have HS := Lib.hid hs; clear hs
      have HWR := Lib.hid hwr; clear hwr
      have HNE := Lib.hid hne; clear hne
      by_cases hxy : x = y
      · subst hxy
        go_wp2_with fail
        go_quiet (fail)
        go_wp2_with fail
        go_roundw
        case rel => exact ⟨k + 1, by omega, by go_num, by first | exact HS.out rfl | exact HS.out trivial, by rw [HWR.out]; exact ⟨_, by first | rfl | (simp; rfl)⟩⟩
        case measure => simp [intOf]; omega
      · have hb : (x != y) = true := by rw [bne_iff_ne]; exact hxy
        have hb2 : (x == y) = false := by simpa using hxy
        have hd : decide (l = m) = false := by simpa using HNE.out hxy
        have HD := Lib.hid hd; clear hd hxy
        go_wp2_with fail
        go_quiet (fail)
        go_wp2_with fail
        go_ret
        exact ⟨by rw [HD.out]; rfl, by rw [HWR.out]; exact ⟨_, by first | rfl | (simp; rfl)⟩⟩
    · have hd : decide (l = m) = true := by
        have h := HLEN.out
        have hk2 : k = l.length := by omega
        rw [hk2, List.take_length, List.take_of_length_le (by omega)] at ht
        simpa using ht
      have HD := Lib.hid hd
      have HWR := Lib.hid hwr; clear hwr
      clear hd ht
      go_wp2_with fail
      go_ret
      exact ⟨by rw [HD.out]; rfl, by rw [HWR.out]; exact ⟨_, rfl⟩⟩
end Go.Proofs.Ytjcjhfnjamphlaa
