/- Walks: whether two lists are alike, as the references and the book ask. -/
import Derived.Test.YtmmdppjbofbjhaaSmallB
import Derived.Test.YtmmdppjbofbjhaaTy
namespace Go.Proofs.Ytmmdppjbofbjhaa
open Go.ChangeShapes Go.WideShapes Go.ChangeAt Go.RowKit

set_option maxRecDepth 100000 in
set_option maxHeartbeats 1600000 in
theorem rints_any (w : World) (D D' : Nat → Prop) (a a' : Option Addr) (l m : List Int) (c c' : Nat) (hl : IntSl w D a l) (hm : IntSl w D' a' m) (hn : l.length ≤ 1000000) (hn' : m.length ≤ 1000000) :
    Calls Try.prog 123 #[.slice a l.length c, .slice a' m.length c'] w fun e w' => e = .returned (.bool (decide (l = m))) ∧ ∃ n, w' = w.drewN n := by
  by_cases hlen : l.length = m.length
  case neg =>
    have h1 : ((l.length : Int) != (m.length : Int)) = true := by rw [bne_iff_ne]; omega
    have h2 : decide (l = m) = false := by simp; intro h; rw [h] at hlen; exact hlen rfl
    rw [h2]
    clear h2 hlen
    go_enter Try.func123, Try.ntmps123
    go_wp2_with fail
    go_ret
    exact ⟨rfl, 0, rfl⟩
  have h1 : ((l.length : Int) != (m.length : Int)) = false := by rw [bne_eq_false_iff_eq]; omega
  have HLEN := Lib.hid hlen; clear hlen
  have HL := Lib.hid hl; clear hl
  have HM := Lib.hid hm; clear hm
  go_enter Try.func123, Try.ntmps123
  go_wp2_with fail
  clear h1
  go_loopw [5] (fun i wr => ∃ k : Nat, k ≤ l.length ∧ i = .int .i64 k ∧ l.take k = m.take k ∧ ∃ n, wr = w.drewN n) (fun i _ => l.length - (intOf i).toNat)
  case atStart => exact ⟨0, Nat.zero_le _, rfl, rfl, 0, rfl⟩
  case round =>
    obtain ⟨k, hk, rfl, ht, n, hwr⟩ := hrel
    by_cases hlt : k < l.length
    · have hlt2 : k < m.length := by have := HLEN.out; omega
      obtain ⟨b, o, rfl, _, hx⟩ := HL.out k hlt
      obtain ⟨b', o', rfl, _, hy⟩ := HM.out k hlt2
      have hx1 : wr.cell? ⟨b, o + k, none⟩ = some (.int .i64 l[k]) := by rw [hwr]; exact hx
      have hy1 : wr.cell? ⟨b', o' + k, none⟩ = some (.int .i64 m[k]) := by rw [hwr]; exact hy
      have hs := take_eq_step l m k hlt hlt2 ht
      have hne := ne_of_get l m k hlt hlt2
      clear hx hy ht
      generalize l[k] = x at *
      generalize m[k] = y at *
      have HS := Lib.hid hs; clear hs
      have HWR := Lib.hid hwr; clear hwr
      have HNE := Lib.hid hne; clear hne
      by_cases hxy : x = y
      · subst hxy
        go_wp2_with fail
        go_quiet (fail)
        go_wp2_with fail
        go_roundw
        case rel => exact ⟨k + 1, by omega, by go_num, by first | exact HS.out rfl | exact HS.out trivial, by rw [HWR.out]; exact ⟨_, by first | rfl | (simp; rfl)⟩⟩
        case measure => simp [intOf]; omega
      · have hb : (x != y) = true := by rw [bne_iff_ne]; exact hxy
        have hb2 : (x == y) = false := by simpa using hxy
        have hd : decide (l = m) = false := by simpa using HNE.out hxy
        have HD := Lib.hid hd; clear hd hxy
        go_wp2_with fail
        go_quiet (fail)
        go_wp2_with fail
        go_ret
        exact ⟨by rw [HD.out]; rfl, by rw [HWR.out]; exact ⟨_, by first | rfl | (simp; rfl)⟩⟩
    · have hd : decide (l = m) = true := by
        have h := HLEN.out
        have hk2 : k = l.length := by omega
        rw [hk2, List.take_length, List.take_of_length_le (by omega)] at ht
        simpa using ht
      have HD := Lib.hid hd
      have HWR := Lib.hid hwr; clear hwr
      clear hd ht
      go_wp2_with fail
      go_ret
      exact ⟨by rw [HD.out]; rfl, by rw [HWR.out]; exact ⟨_, rfl⟩⟩
set_option maxRecDepth 100000 in
set_option maxHeartbeats 1600000 in
theorem sameInts_any (w : World) (D D' : Nat → Prop) (a a' : Option Addr) (l m : List Int) (c c' : Nat) (hl : IntSl w D a l) (hm : IntSl w D' a' m) (hn : l.length ≤ 1000000) (hn' : m.length ≤ 1000000) :
    Calls Try.prog 54 #[.slice a l.length c, .slice a' m.length c'] w fun e w' => e = .returned (.bool (decide (l = m))) ∧ ∃ n, w' = w.drewN n := by
  by_cases hlen : l.length = m.length
  case neg =>
    have h1 : ((l.length : Int) != (m.length : Int)) = true := by rw [bne_iff_ne]; omega
    have h2 : decide (l = m) = false := by simp; intro h; rw [h] at hlen; exact hlen rfl
    rw [h2]
    clear h2 hlen
    go_enter Try.func54, Try.ntmps54
    go_wp2_with fail
    go_ret
    exact ⟨rfl, 0, rfl⟩
  have h1 : ((l.length : Int) != (m.length : Int)) = false := by rw [bne_eq_false_iff_eq]; omega
  have HLEN := Lib.hid hlen; clear hlen
  have HL := Lib.hid hl; clear hl
  have HM := Lib.hid hm; clear hm
  go_enter Try.func54, Try.ntmps54
  go_wp2_with fail
  clear h1
  go_loopw [5] (fun i wr => ∃ k : Nat, k ≤ l.length ∧ i = .int .i64 k ∧ l.take k = m.take k ∧ ∃ n, wr = w.drewN n) (fun i _ => l.length - (intOf i).toNat)
  case atStart => exact ⟨0, Nat.zero_le _, rfl, rfl, 0, rfl⟩
  case round =>
    obtain ⟨k, hk, rfl, ht, n, hwr⟩ := hrel
    by_cases hlt : k < l.length
    · have hlt2 : k < m.length := by have := HLEN.out; omega
      obtain ⟨b, o, rfl, _, hx⟩ := HL.out k hlt
      obtain ⟨b', o', rfl, _, hy⟩ := HM.out k hlt2
      have hx1 : wr.cell? ⟨b, o + k, none⟩ = some (.int .i64 l[k]) := by rw [hwr]; exact hx
      have hy1 : wr.cell? ⟨b', o' + k, none⟩ = some (.int .i64 m[k]) := by rw [hwr]; exact hy
      have hs := take_eq_step l m k hlt hlt2 ht
      have hne := ne_of_get l m k hlt hlt2
      clear hx hy ht
      generalize l[k] = x at *
      generalize m[k] = y at *
      have HS := Lib.hid hs; clear hs
      have HWR := Lib.hid hwr; clear hwr
      have HNE := Lib.hid hne; clear hne
      by_cases hxy : x = y
      · subst hxy
        go_wp2_with fail
        go_quiet (fail)
        go_wp2_with fail
        go_roundw
        case rel => exact ⟨k + 1, by omega, by go_num, by first | exact HS.out rfl | exact HS.out trivial, by rw [HWR.out]; exact ⟨_, by first | rfl | (simp; rfl)⟩⟩
        case measure => simp [intOf]; omega
      · have hb : (x != y) = true := by rw [bne_iff_ne]; exact hxy
        have hb2 : (x == y) = false := by simpa using hxy
        have hd : decide (l = m) = false := by simpa using HNE.out hxy
        have HD := Lib.hid hd; clear hd hxy
        go_wp2_with fail
        go_quiet (fail)
        go_wp2_with fail
        go_ret
        exact ⟨by rw [HD.out]; rfl, by rw [HWR.out]; exact ⟨_, by first | rfl | (simp; rfl)⟩⟩
    · have hd : decide (l = m) = true := by
        have h := HLEN.out
        have hk2 : k = l.length := by omega
        rw [hk2, List.take_length, List.take_of_length_le (by omega)] at ht
        simpa using ht
      have HD := Lib.hid hd
      have HWR := Lib.hid hwr; clear hwr
      clear hd ht
      go_wp2_with fail
      go_ret
      exact ⟨by rw [HD.out]; rfl, by rw [HWR.out]; exact ⟨_, rfl⟩⟩
set_option maxRecDepth 100000 in
set_option maxHeartbeats 1600000 in
theorem sameInstrs_any (w : World) (D D' : Nat → Prop) (a a' : Option Addr) (l m : List Ins) (c c' : Nat) (hl : InsSlD w D a l) (hm : InsSlD w D' a' m) (hn : l.length ≤ 1000000) (hn' : m.length ≤ 1000000) :
    Calls Try.prog 41 #[.slice a l.length c, .slice a' m.length c'] w fun e w' => e = .returned (.bool (decide (l = m))) ∧ ∃ n, w' = w.drewN n := by
  by_cases hlen : l.length = m.length
  case neg =>
    have h1 : ((l.length : Int) != (m.length : Int)) = true := by rw [bne_iff_ne]; omega
    have h2 : decide (l = m) = false := by simp; intro h; rw [h] at hlen; exact hlen rfl
    rw [h2]
    clear h2 hlen
    go_enter Try.func41, Try.ntmps41
    go_wp2_with fail
    go_ret
    exact ⟨rfl, 0, rfl⟩
  have h1 : ((l.length : Int) != (m.length : Int)) = false := by rw [bne_eq_false_iff_eq]; omega
  have HLEN := Lib.hid hlen; clear hlen
  have HL := Lib.hid hl; clear hl
  have HM := Lib.hid hm; clear hm
  go_enter Try.func41, Try.ntmps41
  go_wp2_with fail
  clear h1
  go_loopw [5] (fun i wr => ∃ k : Nat, k ≤ l.length ∧ i = .int .i64 k ∧ l.take k = m.take k ∧ ∃ n, wr = w.drewN n) (fun i _ => l.length - (intOf i).toNat)
  case atStart => exact ⟨0, Nat.zero_le _, rfl, rfl, 0, rfl⟩
  case round =>
    obtain ⟨k, hk, rfl, ht, n, hwr⟩ := hrel
    by_cases hlt : k < l.length
    · have hlt2 : k < m.length := by have := HLEN.out; omega
      obtain ⟨b, o, rfl, _, hx⟩ := HL.out k hlt
      obtain ⟨b', o', rfl, _, hy⟩ := HM.out k hlt2
      obtain ⟨p0, p1, p2, p3⟩ : InsAt wr b (o + k * 4) l[k] := by rw [hwr]; exact hx
      obtain ⟨r0, r1, r2, r3⟩ : InsAt wr b' (o' + k * 4) m[k] := by rw [hwr]; exact hy
      have hs := take_eq_step l m k hlt hlt2 ht
      have hne := ne_of_get l m k hlt hlt2
      clear hx hy ht
      generalize l[k] = x at *
      generalize m[k] = y at *
      have HS := Lib.hid hs; clear hs
      have HWR := Lib.hid hwr; clear hwr
      have HNE := Lib.hid hne; clear hne
      by_cases hxy : x = y
      · subst hxy
        go_wp2_with fail
        go_quiet (fail)
        go_wp2_with fail
        go_roundw
        case rel => exact ⟨k + 1, by omega, by go_num, by first | exact HS.out rfl | exact HS.out trivial, by rw [HWR.out]; exact ⟨_, by first | rfl | (simp; rfl)⟩⟩
        case measure => simp [intOf]; omega
      · have hd : decide (l = m) = false := by simpa using HNE.out hxy
        have HD := Lib.hid hd
        clear hd
        obtain ⟨x0, x1, x2, x3⟩ := x
        obtain ⟨y0, y1, y2, y3⟩ := y
        dsimp only at p0 p1 p2 p3 r0 r1 r2 r3
        clear HNE HS
        by_cases e0 : x0 = y0
        case neg =>
          have d0 : (x0 == y0) = false := by simpa using e0
          clear e0 hxy
          go_wp2_with fail
          go_quiet (fail)
          go_wp2_with fail
          go_ret
          exact ⟨by rw [HD.out]; rfl, by rw [HWR.out]; exact ⟨_, by first | rfl | (simp; rfl)⟩⟩
        subst e0
        by_cases e1 : x1 = y1
        case neg =>
          have d1 : (x1 == y1) = false := by simpa using e1
          clear e1 hxy
          go_wp2_with fail
          go_quiet (fail)
          go_wp2_with fail
          go_ret
          exact ⟨by rw [HD.out]; rfl, by rw [HWR.out]; exact ⟨_, by first | rfl | (simp; rfl)⟩⟩
        subst e1
        by_cases e2 : x2 = y2
        case neg =>
          have d2 : (x2 == y2) = false := by simpa using e2
          clear e2 hxy
          go_wp2_with fail
          go_quiet (fail)
          go_wp2_with fail
          go_ret
          exact ⟨by rw [HD.out]; rfl, by rw [HWR.out]; exact ⟨_, by first | rfl | (simp; rfl)⟩⟩
        subst e2
        by_cases e3 : x3 = y3
        case neg =>
          have d3 : (x3 == y3) = false := by simpa using e3
          clear e3 hxy
          go_wp2_with fail
          go_quiet (fail)
          go_wp2_with fail
          go_ret
          exact ⟨by rw [HD.out]; rfl, by rw [HWR.out]; exact ⟨_, by first | rfl | (simp; rfl)⟩⟩
        exact absurd (by rw [e3]) hxy
    · have hd : decide (l = m) = true := by
        have h := HLEN.out
        have hk2 : k = l.length := by omega
        rw [hk2, List.take_length, List.take_of_length_le (by omega)] at ht
        simpa using ht
      have HD := Lib.hid hd
      have HWR := Lib.hid hwr; clear hwr
      clear hd ht
      go_wp2_with fail
      go_ret
      exact ⟨by rw [HD.out]; rfl, by rw [HWR.out]; exact ⟨_, rfl⟩⟩
end Go.Proofs.Ytmmdppjbofbjhaa
