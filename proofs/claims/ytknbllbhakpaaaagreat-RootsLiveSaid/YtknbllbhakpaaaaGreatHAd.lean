/- Walks: whether two programs are alike (package image). Walks: whether two lists are alike, as the references and the book ask. What comes in: a program. The bytes of a program: what reads some bytes wholly reads them ahead of others too; so no cut and no addition is a program. Nothing of the program's text stands here. Walks: the book's lists: copies, marks; are they still what they were? Walks: the book's lists are marked where they lie. -/
import Derived.Test.YtknbllbhakpaaaaGreatHAc
import Derived.Test.YtknbllbhakpaaaaGreatHAb
import Derived.Lib.SmallJoins
import Derived.BigRegion
import Derived.Deep.DeepCutAuto
import Derived.Deep.RegionLaw
import Derived.Deep.RegionHeld3
set_option linter.unusedVariables false
set_option linter.unusedSimpArgs false
namespace Go.Proofs.YtknbllbhakpaaaaGreat
open Go.ChangeShapes Go.WideShapes Go.ChangeAt Go.RowKit
instance : DecidableEq Ins := fun ⟨a, b, c, d⟩ ⟨a', b', c', d'⟩ => if h : a = a' ∧ b = b' ∧ c = c' ∧ d = d' then isTrue (by obtain ⟨rfl, rfl, rfl, rfl⟩ := h; rfl) else isFalse (fun e => h (by injection e with h1 h2 h3 h4; exact ⟨h1, h2, h3, h4⟩))
instance : DecidableEq Fun := fun ⟨a, b, c, d, x⟩ ⟨a', b', c', d', x'⟩ => if h : a = a' ∧ b = b' ∧ c = c' ∧ d = d' ∧ x = x' then isTrue (by obtain ⟨rfl, rfl, rfl, rfl, rfl⟩ := h; rfl) else isFalse (fun e => h (by injection e with h1 h2 h3 h4 h5; exact ⟨h1, h2, h3, h4, h5⟩))
theorem take_eq_step {α : Type} (l m : List α) (k : Nat) (h1 : k < l.length) (h2 : k < m.length) (h : l.take k = m.take k) (hx : l[k] = m[k]) : l.take (k + 1) = m.take (k + 1) := by
  rw [take_snoc l k h1, take_snoc m k h2, h, hx]
theorem ne_of_get {α : Type} (l m : List α) (k : Nat) (h1 : k < l.length) (h2 : k < m.length) (hx : l[k] ≠ m[k]) : l ≠ m := fun h => by subst h; exact hx rfl

set_option maxRecDepth 100000 in
set_option maxHeartbeats 1600000 in
theorem eq_ints (w : World) (D D' : Nat → Prop) (a a' : Option Addr) (l m : List Int) (c c' : Nat) (hl : IntSl w D a l) (hm : IntSl w D' a' m) (hn : l.length ≤ 1000000) (hn' : m.length ≤ 1000000) :
    Calls Tryz.prog 114 #[.slice a l.length c, .slice a' m.length c'] w fun e w' => e = .returned (.bool (decide (l = m))) ∧ ∃ n, w' = w.drewN n := by
  by_cases hlen : l.length = m.length
  case neg =>
    have h1 : ((l.length : Int) != (m.length : Int)) = true := by rw [bne_iff_ne]; omega
    have h2 : decide (l = m) = false := by simp; intro h; rw [h] at hlen; exact hlen rfl
    rw [h2]
    clear h2 hlen
    go_enter Tryz.func114, Tryz.ntmps114
    go_wp2_with fail
    go_ret
    exact ⟨rfl, 0, rfl⟩
  have h1 : ((l.length : Int) != (m.length : Int)) = false := by rw [bne_eq_false_iff_eq]; omega
  have HLEN := Lib.hid hlen; clear hlen
  have HL := Lib.hid hl; clear hl
  have HM := Lib.hid hm; clear hm
  go_enter Tryz.func114, Tryz.ntmps114
  go_wp2_with fail
  clear h1
  go_loopw [13] (fun i wr => ∃ k : Nat, k ≤ l.length ∧ i = .int .i64 k ∧ l.take k = m.take k ∧ ∃ n, wr = w.drewN n) (fun i _ => l.length - (intOf i).toNat)
  case atStart => exact ⟨0, Nat.zero_le _, rfl, rfl, 0, rfl⟩
  case round =>
    obtain ⟨k, hk, rfl, ht, n, hwr⟩ := hrel
    by_cases hlt : k < l.length
    · have hlt2 : k < m.length := by have := HLEN.out; omega
      obtain ⟨b, o, rfl, _, hx⟩ := HL.out k hlt
      obtain ⟨b', o', rfl, _, hy⟩ := HM.out k hlt2
      have hx1 : wr.cell? ⟨b, o + k, none⟩ = some (.int .i64 l[k]) := by rw [hwr]; exact hx
      have hy1 : wr.cell? ⟨b', o' + k, none⟩ = some (.int .i64 m[k]) := by rw [hwr]; exact hy
      have hs := take_eq_step l m k hlt hlt2 ht
      have hne := ne_of_get l m k hlt hlt2
      clear hx hy ht
      generalize l[k] = x at *
      generalize m[k] = y at *
      have HS := Lib.hid hs; clear hs
      have HWR := Lib.hid hwr; clear hwr
      have HNE := Lib.hid hne; clear hne
      by_cases hxy : x = y
      · subst hxy
        go_wp2_with fail
        go_quiet (fail)
        go_wp2_with fail
        go_roundw
        case rel => exact ⟨k + 1, by omega, by go_num, by first | exact HS.out rfl | exact HS.out trivial, by rw [HWR.out]; exact ⟨_, by first | rfl | (simp; rfl)⟩⟩
        case measure => simp [intOf]; omega
      · have hb : (x != y) = true := by rw [bne_iff_ne]; exact hxy
        have hd : decide (l = m) = false := by simpa using HNE.out hxy
        have HD := Lib.hid hd; clear hd hxy
        go_wp2_with fail
        go_quiet (fail)
        go_wp2_with fail
        go_ret
        exact ⟨by rw [HD.out]; rfl, by rw [HWR.out]; exact ⟨_, by first | rfl | (simp; rfl)⟩⟩
    · have hd : decide (l = m) = true := by
        have h := HLEN.out
        have hk2 : k = l.length := by omega
        rw [hk2, List.take_length, List.take_of_length_le (by omega)] at ht
        simpa using ht
      have HD := Lib.hid hd
      have HWR := Lib.hid hwr; clear hwr
      clear hd ht
      go_wp2_with fail
      go_ret
      exact ⟨by rw [HD.out]; rfl, by rw [HWR.out]; exact ⟨_, rfl⟩⟩
end Go.Proofs.YtknbllbhakpaaaaGreat
namespace Go.Proofs.YtknbllbhakpaaaaGreat
open Go.ChangeShapes Go.WideShapes Go.ChangeAt Go.RowKit
set_option maxRecDepth 100000 in
set_option maxHeartbeats 1600000 in
theorem sameInts_any (w : World) (D D' : Nat → Prop) (a a' : Option Addr) (l m : List Int) (c c' : Nat) (hl : IntSl w D a l) (hm : IntSl w D' a' m) (hn : l.length ≤ 1000000) (hn' : m.length ≤ 1000000) :
    Calls Tryz.prog 11 #[.slice a l.length c, .slice a' m.length c'] w fun e w' => e = .returned (.bool (decide (l = m))) ∧ ∃ n, w' = w.drewN n := by
  by_cases hlen : l.length = m.length
  case neg =>
    have h1 : ((l.length : Int) != (m.length : Int)) = true := by rw [bne_iff_ne]; omega
    have h2 : decide (l = m) = false := by simp; intro h; rw [h] at hlen; exact hlen rfl
    rw [h2]
    clear h2 hlen
    go_enter Tryz.func11, Tryz.ntmps11
    go_wp2_with fail
    go_ret
    exact ⟨rfl, 0, rfl⟩
  have h1 : ((l.length : Int) != (m.length : Int)) = false := by rw [bne_eq_false_iff_eq]; omega
  have HLEN := Lib.hid hlen; clear hlen
  have HL := Lib.hid hl; clear hl
  have HM := Lib.hid hm; clear hm
  go_enter Tryz.func11, Tryz.ntmps11
  go_wp2_with fail
  clear h1
  go_loopw [5] (fun i wr => ∃ k : Nat, k ≤ l.length ∧ i = .int .i64 k ∧ l.take k = m.take k ∧ ∃ n, wr = w.drewN n) (fun i _ => l.length - (intOf i).toNat)
  case atStart => exact ⟨0, Nat.zero_le _, rfl, rfl, 0, rfl⟩
  case round =>
    obtain ⟨k, hk, rfl, ht, n, hwr⟩ := hrel
    by_cases hlt : k < l.length
    · have hlt2 : k < m.length := by have := HLEN.out; omega
      obtain ⟨b, o, rfl, _, hx⟩ := HL.out k hlt
      obtain ⟨b', o', rfl, _, hy⟩ := HM.out k hlt2
      have hx1 : wr.cell? ⟨b, o + k, none⟩ = some (.int .i64 l[k]) := by rw [hwr]; exact hx
      have hy1 : wr.cell? ⟨b', o' + k, none⟩ = some (.int .i64 m[k]) := by rw [hwr]; exact hy
      have hs := take_eq_step l m k hlt hlt2 ht
      have hne := ne_of_get l m k hlt hlt2
      clear hx hy ht
      generalize l[k] = x at *
      generalize m[k] = y at *
      have HS := Lib.hid hs; clear hs
      have HWR := Lib.hid hwr; clear hwr
      have HNE := Lib.hid hne; clear hne
      by_cases hxy : x = y
      · subst hxy
        go_wp2_with fail
        go_quiet (fail)
        go_wp2_with fail
        go_roundw
        case rel => exact ⟨k + 1, by omega, by go_num, by first | exact HS.out rfl | exact HS.out trivial, by rw [HWR.out]; exact ⟨_, by first | rfl | (simp; rfl)⟩⟩
        case measure => simp [intOf]; omega
      · have hb : (x != y) = true := by rw [bne_iff_ne]; exact hxy
        have hb2 : (x == y) = false := by simpa using hxy
        have hd : decide (l = m) = false := by simpa using HNE.out hxy
        have HD := Lib.hid hd; clear hd hxy
        go_wp2_with fail
        go_quiet (fail)
        go_wp2_with fail
        go_ret
        exact ⟨by rw [HD.out]; rfl, by rw [HWR.out]; exact ⟨_, by first | rfl | (simp; rfl)⟩⟩
    · have hd : decide (l = m) = true := by
        have h := HLEN.out
        have hk2 : k = l.length := by omega
        rw [hk2, List.take_length, List.take_of_length_le (by omega)] at ht
        simpa using ht
      have HD := Lib.hid hd
      have HWR := Lib.hid hwr; clear hwr
      clear hd ht
      go_wp2_with fail
      go_ret
      exact ⟨by rw [HD.out]; rfl, by rw [HWR.out]; exact ⟨_, rfl⟩⟩
end Go.Proofs.YtknbllbhakpaaaaGreat
namespace Go.Proofs.YtknbllbhakpaaaaGreat
open Go.ChangeShapes Go.WideShapes Go.ChangeAt Go.RowKit
variable {H : Type} {enc : TypeId × Value → H}
set_option maxRecDepth 100000 in
/-- a slice that comes in, element by element -/
theorem open_elems {α : Type} [Inhabited α] {w : World} {base : Nat} {sp : Nat → Bool} {hd : Bool} {m : Nat} {t e size : Nat} {cs : List Value} {x : DataW H × List MemPlace} (ht : Tryz.prog.underlying t = some (.slice e)) (hce : Tryz.prog.cellsOf e = size) (hsz : 0 < size)
    (R : List Value → α → Prop) (hR : ∀ n ds y, DataW.trod enc Tryz.prog w base sp hd n e ds = some y → ∃ z, R ds z) (h : DataW.trod enc Tryz.prog w base sp hd m t cs = some x) :
    ∃ (a : Option Addr) (l : List α) (c : Nat), cs = [.slice a l.length c] ∧ ∀ j (hj : j < l.length), ∃ b o ds, a = some ⟨b, o, none⟩ ∧ R ds l[j] ∧ ds.length = size ∧ ∀ r u, ds[r]? = some u → w.cell? ⟨b, o + j * size + r, none⟩ = some u := by
  rcases Go.Deep.open_slice ht h with ⟨hcs, hx⟩ | ⟨a, len, cap, m, n, D, Pl, hcs, hb, hl, hm, hmm, hx, hel⟩
  · exact ⟨none, [], 0, hcs, fun j hj => by cases hj⟩
  · have hle : len ≤ m := by rw [hmm]; split <;> omega
    rw [hce] at hel
    obtain ⟨f, hF⟩ := Go.Deep.choose_lt (α := α × List Value) (p := fun i y => w.cells? base (a.add (i * size)) size = some y.2 ∧ R y.2 y.1) (n := len) (fun i hi => by
      obtain ⟨cs', h1, h2⟩ := hel i (by omega)
      obtain ⟨z, hz⟩ := hR _ _ _ h2
      exact ⟨(z, cs'), h1, hz⟩)
    refine ⟨some a, (List.range len).map fun i => (f i).1, cap, by rw [hcs]; simp, fun j hj => ?_⟩
    simp at hj
    have hspot : ∀ i, i < len → (a.add (i * size)).spot = none := fun i hi => by
      obtain ⟨_, hlen, hc⟩ := World.cells?_some (hF i hi).1
      have h0 := hc 0 hsz
      have hp : (a.add (i * size)).add 0 = a.add (i * size) := rfl
      rw [hp, List.getElem?_eq_getElem (by omega)] at h0
      have := plain_addr h0
      rw [this]
    have ha : a.spot = none := by
      have := hspot 0 (by omega)
      rw [Nat.zero_mul] at this
      exact this
    obtain ⟨_, hlen, hc⟩ := World.cells?_some (hF j hj).1
    obtain ⟨bb, oo, ss⟩ := a
    dsimp only at ha
    subst ha
    refine ⟨bb, oo, (f j).2, rfl, by simpa using (hF j hj).2, hlen, fun r u hu => ?_⟩
    have hr : r < size := by
      rcases Nat.lt_or_ge r size with h' | h'
      · exact h'
      · rw [List.getElem?_eq_none (by omega)] at hu; cases hu
    have h1 := hc r hr
    rw [addr_add ⟨bb, oo, none⟩ rfl (j * size), addr_add ⟨bb, oo + j * size, none⟩ rfl r] at h1
    dsimp only at h1
    rw [h1, hu]
instance : Inhabited Fun := ⟨⟨[], 0, 0, [], []⟩⟩
end Go.Proofs.YtknbllbhakpaaaaGreat
namespace Go.Proofs.YtknbllbhakpaaaaGreat
def f5 (a : List Int) (r l : Int) (o : List Int) (n : Int) (s : RS) : Fun × RS := (⟨a, r, l, o, readL (rTake s (n.toNat * 7)).1⟩, ((rTake s (n.toNat * 7)).2.1, (rTake s (n.toNat * 7)).2.2 || !readOk (rTake s (n.toNat * 7)).1))
def f4 (a : List Int) (r l : Int) (o : List Int) (s : RS) : Fun × RS := f5 a r l o (rNum s).1 (rNum s).2
def f3 (a : List Int) (r l : Int) (s : RS) : Fun × RS := f4 a r l (rList s).1 (rList s).2
def f2 (a : List Int) (r : Int) (s : RS) : Fun × RS := f3 a r (rNum s).1 (rNum s).2
def f1 (a : List Int) (s : RS) : Fun × RS := f2 a (rNum s).1 (rNum s).2
def p3 (g : List Int) (sh : List (List Int)) (m : Int) (s : RS) : Prg × RS := (⟨g, sh, (rFuncs s m.toNat).1⟩, (rFuncs s m.toNat).2)
def p2 (g : List Int) (sh : List (List Int)) (s : RS) : Prg × RS := p3 g sh (rNum s).1 (rNum s).2
def p1 (g : List Int) (n : Int) (s : RS) : Prg × RS := p2 g (rShapes s n.toNat).1 (rShapes s n.toNat).2
def p0 (g : List Int) (s : RS) : Prg × RS := p1 g (rNum s).1 (rNum s).2
end Go.Proofs.YtknbllbhakpaaaaGreat
namespace Go.Proofs.YtknbllbhakpaaaaGreat
open Go.ChangeShapes Go.WideShapes Go.ChangeAt Go.RowKit
theorem int_map (l : List Int) : l.flatMap intE.enc = l.map (Value.int .i64) := by
  induction l with
  | nil => rfl
  | cons x l ih => rw [List.flatMap_cons, ih]; rfl
theorem sl_cellsInts {w : World} {D : Nat → Prop} {a : Option Addr} {l : List Int} (h : IntSl w D a l) (hn : 1 ≤ l.length) : ∃ b o, a = some ⟨b, o, none⟩ ∧ CellsAt w b o (l.flatMap intE.enc) := by
  obtain ⟨b, o, rfl, _, _⟩ := h 0 (by omega)
  refine ⟨b, o, rfl, fun j u hj => ?_⟩
  rw [int_map] at hj
  rcases Nat.lt_or_ge j l.length with hlt | hge
  · obtain ⟨b', o', h1, _, h3⟩ := h j hlt
    injection h1 with h1
    injection h1 with h1 h2 _
    subst h1 h2
    rw [List.getElem?_map, List.getElem?_eq_getElem hlt] at hj
    injection hj with hj
    rw [← hj]; exact h3
  · rw [List.getElem?_eq_none (by simpa using hge)] at hj; cases hj
end Go.Proofs.YtknbllbhakpaaaaGreat
namespace Go.Proofs.YtknbllbhakpaaaaGreat
open Go.ChangeShapes Go.WideShapes Go.ChangeAt Go.RowKit
theorem Own.slot {P : Program} {α : Type} {E : Elem P α} {w : World} {B g n c : Nat} {l : List α} (h : Own E w B (.slice (some ⟨g, 0, none⟩) n c) l) (m : Nat) (hm : m < l.length * E.size) : (∃ u, w.cell? ⟨g, m, none⟩ = some u) ∧ w.frozen? ⟨g, m, none⟩ = false := by
  obtain ⟨h1, h2⟩ := h
  rcases h2 with ⟨hc, _⟩ | ⟨g', cap, cur, hv, hbg, hg, hnc, hcm, hcs, htake⟩
  · cases hc
  · injection hv with q1 q2 q3
    injection q1 with q1
    injection q1 with q1
    subst q1
    have h3 := row_cell hg m
    refine ⟨?_, h3.2⟩
    have hlt : m < cur.size := by
      rw [hcs]
      exact Nat.lt_of_lt_of_le hm (Nat.mul_le_mul_right _ hnc)
    exact ⟨cur[m], by rw [h3.1, Array.getElem?_eq_getElem hlt]⟩
end Go.Proofs.YtknbllbhakpaaaaGreat
