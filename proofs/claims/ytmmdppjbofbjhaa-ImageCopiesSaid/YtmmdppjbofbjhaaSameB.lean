/- Walks: whether two programs are alike (package image): shapes, functions, programs. -/
import Derived.Test.YtmmdppjbofbjhaaSame
namespace Go.Proofs.Ytmmdppjbofbjhaa
open Go.ChangeShapes Go.WideShapes Go.ChangeAt Go.RowKit

set_option maxRecDepth 100000 in
set_option maxHeartbeats 1600000 in
theorem same_shape (w : World) (D D' : Nat → Prop) (a a' : Option Addr) (l m : List Int) (c c' : Nat) (hl : IntSl w D a l) (hm : IntSl w D' a' m) (hn : l.length ≤ 1000000) (hn' : m.length ≤ 1000000) :
    Calls Try.prog 126 #[.agg #[.slice a l.length c], .agg #[.slice a' m.length c']] w fun e w' => e = .returned (.bool (decide (l = m))) ∧ Below w.heap.size w w' := by
  have hf : Fr (fun _ => False) w ((w.alloc (.cells #[.slice a l.length c] 84)).alloc (.cells #[.slice a' m.length c'] 84)) := ((Fr.refl _ _).alloc _).alloc _
  have he := eq_ints _ D D' a a' l m c c' (hl.fr hf (fun _ _ h => h)) (hm.fr hf (fun _ _ h => h)) hn hn'
  have hb : Below w.heap.size w ((w.alloc (.cells #[.slice a l.length c] 84)).alloc (.cells #[.slice a' m.length c'] 84)) := ((Below.refl _ _).alloc (Nat.le_refl _) _).alloc (by simp) _
  clear hl hm hf hn hn'
  have HE := Lib.hid he; clear he
  have HB := Lib.hid hb; clear hb
  go_enter Try.func126, Try.ntmps126
  go_wp2_with fail
  refine HE.out.mono ?_
  rintro e w1 ⟨rfl, n, rfl⟩
  go_wp2_with fail
  go_ret
  exact ⟨rfl, below_drewN HB.out n⟩

def FvVal (c0 c1 c2 c3 c4 : Value) : Value := .agg #[c0, c1, c2, c3, c4]
set_option maxRecDepth 100000 in
set_option maxHeartbeats 3200000 in
theorem alike_any (w : World) (D D' : Nat → Prop) (f g : Fun) (c0 c1 c2 c3 c4 d0 d1 d2 d3 d4 : Value) (hf : FunVal w D f c0 c1 c2 c3 c4) (hg : FunVal w D' g d0 d1 d2 d3 d4) (hnf : fnBulk f ≤ 1000000) (hng : fnBulk g ≤ 1000000) :
    Calls Try.prog 128 #[.agg #[c0, c1, c2, c3, c4], .agg #[d0, d1, d2, d3, d4]] w fun e w' => e = .returned (.bool (decide (f = g))) ∧ Below w.heap.size w w' := by
  obtain ⟨rfl, rfl, ⟨a0, m0, rfl, hs0⟩, ⟨a3, m3, rfl, hs3⟩, a4, m4, rfl, hs4⟩ := hf
  obtain ⟨rfl, rfl, ⟨b0, n0, rfl, ht0⟩, ⟨b3, n3, rfl, ht3⟩, b4, n4, rfl, ht4⟩ := hg
  unfold fnBulk at hnf hng
  have hfr : Fr (fun _ => False) w ((w.alloc (.cells #[.slice a0 f.args.length m0, .int .i64 f.result, .int .i64 f.slots, .slice a3 f.objects.length m3, .slice a4 f.code.length m4] 86)).alloc (.cells #[.slice b0 g.args.length n0, .int .i64 g.result, .int .i64 g.slots, .slice b3 g.objects.length n3, .slice b4 g.code.length n4] 86)) := ((Fr.refl _ _).alloc _).alloc _
  have hb : Below w.heap.size w ((w.alloc (.cells #[.slice a0 f.args.length m0, .int .i64 f.result, .int .i64 f.slots, .slice a3 f.objects.length m3, .slice a4 f.code.length m4] 86)).alloc (.cells #[.slice b0 g.args.length n0, .int .i64 g.result, .int .i64 g.slots, .slice b3 g.objects.length n3, .slice b4 g.code.length n4] 86)) := ((Below.refl _ _).alloc (Nat.le_refl _) _).alloc (by simp) _
  have p0 := fun n => eq_ints ((w.alloc (.cells #[.slice a0 f.args.length m0, .int .i64 f.result, .int .i64 f.slots, .slice a3 f.objects.length m3, .slice a4 f.code.length m4] 86)).alloc (.cells #[.slice b0 g.args.length n0, .int .i64 g.result, .int .i64 g.slots, .slice b3 g.objects.length n3, .slice b4 g.code.length n4] 86) |>.drewN n) D D' a0 b0 f.args g.args m0 n0 (hs0.fr (hfr.drewN n) (fun _ _ h => h)) (ht0.fr (hfr.drewN n) (fun _ _ h => h)) (by omega) (by omega)
  have p3 := fun n => eq_ints ((w.alloc (.cells #[.slice a0 f.args.length m0, .int .i64 f.result, .int .i64 f.slots, .slice a3 f.objects.length m3, .slice a4 f.code.length m4] 86)).alloc (.cells #[.slice b0 g.args.length n0, .int .i64 g.result, .int .i64 g.slots, .slice b3 g.objects.length n3, .slice b4 g.code.length n4] 86) |>.drewN n) D D' a3 b3 f.objects g.objects m3 n3 (hs3.fr (hfr.drewN n) (fun _ _ h => h)) (ht3.fr (hfr.drewN n) (fun _ _ h => h)) (by omega) (by omega)
  have p4 := fun n => eq_instrs ((w.alloc (.cells #[.slice a0 f.args.length m0, .int .i64 f.result, .int .i64 f.slots, .slice a3 f.objects.length m3, .slice a4 f.code.length m4] 86)).alloc (.cells #[.slice b0 g.args.length n0, .int .i64 g.result, .int .i64 g.slots, .slice b3 g.objects.length n3, .slice b4 g.code.length n4] 86) |>.drewN n) D D' a4 b4 f.code g.code m4 n4 (hs4.fr (hfr.drewN n) (fun _ _ h => h)) (ht4.fr (hfr.drewN n) (fun _ _ h => h)) (by omega) (by omega)
  have hd := fun_eq f g
  rw [hd]
  clear hd hs0 hs3 hs4 ht0 ht3 ht4 hfr hnf hng
  generalize decide (f.args = g.args) = u0 at *
  generalize decide (f.objects = g.objects) = u3 at *
  generalize decide (f.code = g.code) = u4 at *
  generalize f.result = x1 at *
  generalize g.result = y1 at *
  generalize f.slots = x2 at *
  generalize g.slots = y2 at *
  have P0 := Lib.hid p0; clear p0
  have P3 := Lib.hid p3; clear p3
  have P4 := Lib.hid p4; clear p4
  have HB := Lib.hid hb; clear hb
  go_enter Try.func128, Try.ntmps128
  go_wp2_with fail
  refine (P0.out 0).mono ?_
  rintro e w1 ⟨rfl, n1, rfl⟩
  cases u0
  · go_wp2_with fail
    go_ret
    exact ⟨rfl, below_drewN HB.out _⟩
  by_cases h1 : x1 = y1
  case neg =>
    have h1' : (x1 == y1) = false := by simpa using h1
    go_wp2_with fail
    go_ret
    exact ⟨by simp [h1'], below_drewN HB.out _⟩
  subst h1
  by_cases h2 : x2 = y2
  case neg =>
    have h2' : (x2 == y2) = false := by simpa using h2
    go_wp2_with fail
    go_ret
    exact ⟨by simp [h2'], below_drewN HB.out _⟩
  subst h2
  go_wp2_with fail
  refine (P3.out _).mono ?_
  rintro e w1 ⟨rfl, n2, rfl⟩
  cases u3
  · go_wp2_with fail
    go_ret
    exact ⟨by simp, by first | exact below_drewN HB.out _ | exact below_drewN (below_drewN HB.out _) _⟩
  go_wp2_with fail
  refine (P4.out _).mono ?_
  rintro e w1 ⟨rfl, n3, rfl⟩
  go_wp2_with fail
  go_ret
  exact ⟨by simp, by first | exact below_drewN HB.out _ | exact below_drewN (below_drewN HB.out _) _⟩

theorem list_eq_step {α : Type} [DecidableEq α] (l m : List α) (k : Nat) (h1 : k < l.length) (h2 : k < m.length) (h : l.take k = m.take k) : (decide (l[k] = m[k]) = true → l.take (k + 1) = m.take (k + 1)) ∧ (decide (l[k] = m[k]) = false → decide (l = m) = false) :=
  ⟨fun e => take_eq_step l m k h1 h2 h (by simpa using e), fun e => by simpa using ne_of_get l m k h1 h2 (by simpa using e)⟩

set_option maxRecDepth 100000 in
set_option maxHeartbeats 3200000 in
theorem eq_shapes (w : World) (D D' : Nat → Prop) (a a' : Option Addr) (l m : List (List Int)) (c c' : Nat) (hl : ShSl w D a l) (hm : ShSl w D' a' m) (hn : l.length ≤ 1000000) (hn' : m.length ≤ 1000000) (hsz : ∀ x ∈ l, x.length ≤ 1000000) (hsz' : ∀ x ∈ m, x.length ≤ 1000000) (fv : Value) (hfv : fv = .func (.func 126) #[] #[]) :
    Calls Try.prog 125 #[.slice a l.length c, .slice a' m.length c', fv] w fun e w' => e = .returned (.bool (decide (l = m))) ∧ Below w.heap.size w w' := by
  subst hfv
  by_cases hlen : l.length = m.length
  case neg =>
    have h1 : ((l.length : Int) != (m.length : Int)) = true := by rw [bne_iff_ne]; omega
    have h2 : decide (l = m) = false := by simp; intro h; rw [h] at hlen; exact hlen rfl
    rw [h2]
    clear h2 hlen
    go_enter Try.func125, Try.ntmps125
    go_wp2_with fail
    go_ret
    exact ⟨rfl, Below.refl _ _⟩
  have h1 : ((l.length : Int) != (m.length : Int)) = false := by rw [bne_eq_false_iff_eq]; omega
  have HLEN := Lib.hid hlen; clear hlen
  have HL := Lib.hid hl; clear hl
  have HM := Lib.hid hm; clear hm
  have HSZ := Lib.hid hsz; clear hsz
  have HSZ' := Lib.hid hsz'; clear hsz'
  go_enter Try.func125, Try.ntmps125
  go_wp2_with fail
  clear h1
  go_loopw [17] (fun i wr => ∃ k : Nat, k ≤ l.length ∧ i = .int .i64 k ∧ l.take k = m.take k ∧ Below w.heap.size w wr) (fun i _ => l.length - (intOf i).toNat)
  case atStart => exact ⟨0, Nat.zero_le _, rfl, rfl, Below.refl _ _⟩
  case round =>
    obtain ⟨k, hk, rfl, ht, hB⟩ := hrel
    by_cases hlt : k < l.length
    · have hlt2 : k < m.length := by have := HLEN.out; omega
      have hst := list_eq_step l m k hlt hlt2 ht
      have HST := Lib.hid hst; clear hst
      have HB := Lib.hid hB; clear hB
      clear ht
      obtain ⟨b, o, rfl, _, x1, x2, hx, hx2⟩ := HL.out k hlt
      obtain ⟨b', o', rfl, _, y1, y2, hy, hy2⟩ := HM.out k hlt2
      have hx := below_cell HB.out hx
      have hy := below_cell HB.out hy
      have hy1 : ∀ ob, (wr.alloc ob).cell? ⟨b', o' + k, none⟩ = some (.slice y1 m[k].length y2) := fun ob => (cell_under _ _ (World.block_lt hy)).trans hy
      have hfr : Fr (fun _ => False) w ((wr.alloc (.cells #[.slice x1 l[k].length x2] 84)).alloc (.cells #[.slice y1 m[k].length y2] 84)) := ((Fr.of_below HB.out _).alloc _).alloc _
      have CALL := same_shape _ D D' x1 y1 l[k] m[k] x2 y2 (hx2.fr hfr (fun _ _ h => h)) (hy2.fr hfr (fun _ _ h => h)) (HSZ.out _ (List.getElem_mem hlt)) (HSZ'.out _ (List.getElem_mem hlt2))
      clear hx2 hy2 hfr
      cases hd : decide (l[k] = m[k])
      · have hno := HST.out.2 hd
        have HNO := Lib.hid hno; clear hno
        rw [hd] at CALL
        have CALL2 := Lib.hid CALL
        clear CALL hd
        go_wp2_with fail
        refine CALL2.out.mono ?_
        rintro e w3 ⟨rfl, hb3⟩
        have HB3 := Lib.hid (HB.out.trans ((((Below.refl _ _).alloc (Nat.le_refl _) _).alloc (by simp) _).trans (hb3.mono (by simp; omega)) |>.mono HB.out.size))
        clear hb3
        go_wp2_with fail
        go_ret
        exact ⟨by rw [HNO.out]; rfl, HB3.out⟩
      · have hyes := HST.out.1 hd
        have HYES := Lib.hid hyes; clear hyes
        rw [hd] at CALL
        have CALL2 := Lib.hid CALL
        clear CALL hd
        go_wp2_with fail
        refine CALL2.out.mono ?_
        rintro e w3 ⟨rfl, hb3⟩
        have HB3 := Lib.hid (HB.out.trans ((((Below.refl _ _).alloc (Nat.le_refl _) _).alloc (by simp) _).trans (hb3.mono (by simp; omega)) |>.mono HB.out.size))
        clear hb3
        go_wp2_with fail
        go_roundw
        case rel => exact ⟨k + 1, by omega, by go_num, HYES.out, HB3.out⟩
        case measure => simp [intOf]; omega
    · have hd : decide (l = m) = true := by
        have h := HLEN.out
        have hk2 : k = l.length := by omega
        rw [hk2, List.take_length, List.take_of_length_le (by omega)] at ht
        simpa using ht
      have HD := Lib.hid hd; clear hd
      have HB := Lib.hid hB; clear hB
      clear ht
      go_wp2_with fail
      go_ret
      exact ⟨by rw [HD.out]; rfl, HB.out⟩
set_option maxRecDepth 100000 in
set_option maxHeartbeats 3200000 in
theorem eq_funcs (w : World) (D D' : Nat → Prop) (a a' : Option Addr) (l m : List Fun) (c c' : Nat) (hl : FnSl w D a l) (hm : FnSl w D' a' m) (hn : l.length ≤ 1000000) (hn' : m.length ≤ 1000000) (hsz : ∀ x ∈ l, fnBulk x ≤ 1000000) (hsz' : ∀ x ∈ m, fnBulk x ≤ 1000000) (fv : Value) (hfv : fv = .func (.func 128) #[] #[]) :
    Calls Try.prog 127 #[.slice a l.length c, .slice a' m.length c', fv] w fun e w' => e = .returned (.bool (decide (l = m))) ∧ Below w.heap.size w w' := by
  subst hfv
  by_cases hlen : l.length = m.length
  case neg =>
    have h1 : ((l.length : Int) != (m.length : Int)) = true := by rw [bne_iff_ne]; omega
    have h2 : decide (l = m) = false := by simp; intro h; rw [h] at hlen; exact hlen rfl
    rw [h2]
    clear h2 hlen
    go_enter Try.func127, Try.ntmps127
    go_wp2_with fail
    go_ret
    exact ⟨rfl, Below.refl _ _⟩
  have h1 : ((l.length : Int) != (m.length : Int)) = false := by rw [bne_eq_false_iff_eq]; omega
  have HLEN := Lib.hid hlen; clear hlen
  have HL := Lib.hid hl; clear hl
  have HM := Lib.hid hm; clear hm
  have HSZ := Lib.hid hsz; clear hsz
  have HSZ' := Lib.hid hsz'; clear hsz'
  go_enter Try.func127, Try.ntmps127
  go_wp2_with fail
  clear h1
  go_loopw [17] (fun i wr => ∃ k : Nat, k ≤ l.length ∧ i = .int .i64 k ∧ l.take k = m.take k ∧ Below w.heap.size w wr) (fun i _ => l.length - (intOf i).toNat)
  case atStart => exact ⟨0, Nat.zero_le _, rfl, rfl, Below.refl _ _⟩
  case round =>
    obtain ⟨k, hk, rfl, ht, hB⟩ := hrel
    by_cases hlt : k < l.length
    · have hlt2 : k < m.length := by have := HLEN.out; omega
      have hst := list_eq_step l m k hlt hlt2 ht
      have HST := Lib.hid hst; clear hst
      have HB := Lib.hid hB; clear hB
      clear ht
      obtain ⟨b, o, rfl, _, x0, x1, x2, x3, x4, p0, p1, p2, p3, p4, hx⟩ := HL.out k hlt
      obtain ⟨b', o', rfl, _, y0, y1, y2, y3, y4, r0, r1, r2, r3, r4, hy⟩ := HM.out k hlt2
      have p0 := below_cell HB.out p0
      have p1 := below_cell HB.out p1
      have p2 := below_cell HB.out p2
      have p3 := below_cell HB.out p3
      have p4 := below_cell HB.out p4
      have r0 := below_cell HB.out r0
      have r1 := below_cell HB.out r1
      have r2 := below_cell HB.out r2
      have r3 := below_cell HB.out r3
      have r4 := below_cell HB.out r4
      have t0 : ∀ ob, (wr.alloc ob).cell? ⟨b', o' + k * 5, none⟩ = some y0 := fun ob => (cell_under _ _ (World.block_lt r0)).trans r0
      have t1 : ∀ ob, (wr.alloc ob).cell? ⟨b', o' + k * 5 + 1, none⟩ = some y1 := fun ob => (cell_under _ _ (World.block_lt r1)).trans r1
      have t2 : ∀ ob, (wr.alloc ob).cell? ⟨b', o' + k * 5 + 2, none⟩ = some y2 := fun ob => (cell_under _ _ (World.block_lt r2)).trans r2
      have t3 : ∀ ob, (wr.alloc ob).cell? ⟨b', o' + k * 5 + 3, none⟩ = some y3 := fun ob => (cell_under _ _ (World.block_lt r3)).trans r3
      have t4 : ∀ ob, (wr.alloc ob).cell? ⟨b', o' + k * 5 + 4, none⟩ = some y4 := fun ob => (cell_under _ _ (World.block_lt r4)).trans r4
      obtain ⟨rfl, rfl, ⟨aa0, n0, rfl, hs0⟩, ⟨aa3, n3, rfl, hs3⟩, aa4, n4, rfl, hs4⟩ := hx
      obtain ⟨rfl, rfl, ⟨ab0, m0, rfl, ht0⟩, ⟨ab3, m3, rfl, ht3⟩, ab4, m4, rfl, ht4⟩ := hy
      have hfr : Fr (fun _ => False) w ((wr.alloc (.cells #[.slice aa0 l[k].args.length n0, .int .i64 l[k].result, .int .i64 l[k].slots, .slice aa3 l[k].objects.length n3, .slice aa4 l[k].code.length n4] 86)).alloc (.cells #[.slice ab0 m[k].args.length m0, .int .i64 m[k].result, .int .i64 m[k].slots, .slice ab3 m[k].objects.length m3, .slice ab4 m[k].code.length m4] 86)) := ((Fr.of_below HB.out _).alloc _).alloc _
      have CALL := alike_any _ D D' l[k] m[k] _ _ _ _ _ _ _ _ _ _ (FunVal.fr ⟨rfl, rfl, ⟨aa0, n0, rfl, hs0⟩, ⟨aa3, n3, rfl, hs3⟩, aa4, n4, rfl, hs4⟩ hfr (fun _ _ h => h)) (FunVal.fr ⟨rfl, rfl, ⟨ab0, m0, rfl, ht0⟩, ⟨ab3, m3, rfl, ht3⟩, ab4, m4, rfl, ht4⟩ hfr (fun _ _ h => h)) (HSZ.out _ (List.getElem_mem hlt)) (HSZ'.out _ (List.getElem_mem hlt2))
      clear hs0 hs3 hs4 ht0 ht3 ht4 hfr r0 r1 r2 r3 r4
      cases hd : decide (l[k] = m[k])
      · have hno := HST.out.2 hd
        have HNO := Lib.hid hno; clear hno
        rw [hd] at CALL
        have CALL2 := Lib.hid CALL
        clear CALL hd
        go_wp2_with fail
        refine CALL2.out.mono ?_
        rintro e w3 ⟨rfl, hb3⟩
        have HB3 := Lib.hid (HB.out.trans ((((Below.refl _ _).alloc (Nat.le_refl _) _).alloc (by simp) _).trans (hb3.mono (by simp; omega)) |>.mono HB.out.size))
        clear hb3
        go_wp2_with fail
        go_ret
        exact ⟨by rw [HNO.out]; rfl, HB3.out⟩
      · have hyes := HST.out.1 hd
        have HYES := Lib.hid hyes; clear hyes
        rw [hd] at CALL
        have CALL2 := Lib.hid CALL
        clear CALL hd
        go_wp2_with fail
        refine CALL2.out.mono ?_
        rintro e w3 ⟨rfl, hb3⟩
        have HB3 := Lib.hid (HB.out.trans ((((Below.refl _ _).alloc (Nat.le_refl _) _).alloc (by simp) _).trans (hb3.mono (by simp; omega)) |>.mono HB.out.size))
        clear hb3
        go_wp2_with fail
        go_roundw
        case rel => exact ⟨k + 1, by omega, by go_num, HYES.out, HB3.out⟩
        case measure => simp [intOf]; omega
    · have hd : decide (l = m) = true := by
        have h := HLEN.out
        have hk2 : k = l.length := by omega
        rw [hk2, List.take_length, List.take_of_length_le (by omega)] at ht
        simpa using ht
      have HD := Lib.hid hd; clear hd
      have HB := Lib.hid hB; clear hB
      clear ht
      go_wp2_with fail
      go_ret
      exact ⟨by rw [HD.out]; rfl, HB.out⟩
end Go.Proofs.Ytmmdppjbofbjhaa
