import Derived.Test.YtjcjhfnjamphlaaGreatZAb
import Derived.Test.YtjcjhfnjamphlaaGreatZAd
import Derived.Test.YtjcjhfnjamphlaaGreatZAc
import Derived.Lib.SmallJoins
set_option linter.unusedVariables false
set_option linter.unusedSimpArgs false
namespace Go.Proofs.YtjcjhfnjamphlaaGreat
open Go.RowKit
def Stay (D : Nat → Prop) (w w' : World) : Prop := ∀ b o v, D b → w.cell? ⟨b, o, none⟩ = some v → w'.cell? ⟨b, o, none⟩ = some v
theorem Fr.stay {F : Nat → Prop} {w w' : World} (h : Fr F w w') {D : Nat → Prop} (hd : ∀ k, D k → ¬ F k) : Stay D w w' := fun b _ _ hb hc => h.cell hc (hd b hb)
theorem stay_below {w w' : World} (h : Below w.heap.size w w') (D : Nat → Prop) : Stay D w w' := fun _ _ _ _ hc => below_cell h hc
structure Ty (α : Type) where
 size : Nat
 rd : World → (Nat → Prop) → List Value → α → Prop
 len : ∀ {w D cs x}, rd w D cs x → cs.length = size
 fr : ∀ {w w' : World} {D D' : Nat → Prop} {cs x}, rd w D cs x → Stay D w w' → (∀ k, D k → D' k) → rd w' D' cs x
 one : ∀ {w D cs x}, rd w D cs x → ∀ u ∈ cs, u.oneCell' = true
namespace Ty
def int : Ty Int where
 size := 1
 rd _ _ cs x := cs = [.int .i64 x]
 len h := by rw [h]; rfl
 fr h _ _ := h
 one h u hu := by rw [h] at hu; simp at hu; subst hu; rfl
def bool : Ty Bool where
 size := 1
 rd _ _ cs x := cs = [.bool x]
 len h := by rw [h]; rfl
 fr h _ _ := h
 one h u hu := by rw [h] at hu; simp at hu; subst hu; rfl
end Ty
def At {α : Type} (t : Ty α) (w : World) (D : Nat → Prop) (a : Option Addr) (j : Nat) (x : α) : Prop :=
 ∃ b o, a = some ⟨b, o, none⟩ ∧ D b ∧ ∃ es, t.rd w D es x ∧ ∀ r u, es[r]? = some u → w.cell? ⟨b, o + j * t.size + r, none⟩ = some u
def Sl {α : Type} (t : Ty α) (w : World) (D : Nat → Prop) (a : Option Addr) (l : List α) : Prop := ∀ j (hj : j < l.length), At t w D a j l[j]
theorem At.fr {α : Type} {t : Ty α} {w w' : World} {D D' : Nat → Prop} {a : Option Addr} {j : Nat} {x : α} (h : At t w D a j x) (hs : Stay D w w') (hd : ∀ k, D k → D' k) : At t w' D' a j x := by
 obtain ⟨b, o, h1, h2, es, h3, h4⟩ := h
 exact ⟨b, o, h1, hd b h2, es, t.fr h3 hs hd, fun r u hu => hs _ _ _ h2 (h4 r u hu)⟩
theorem Sl.fr {α : Type} {t : Ty α} {w w' : World} {D D' : Nat → Prop} {a : Option Addr} {l : List α} (h : Sl t w D a l) (hs : Stay D w w') (hd : ∀ k, D k → D' k) : Sl t w' D' a l := fun j hj => (h j hj).fr hs hd
theorem Sl.below {α : Type} {t : Ty α} {w w' : World} {D : Nat → Prop} {a : Option Addr} {l : List α} (h : Sl t w D a l) (hb : Below w.heap.size w w') : Sl t w' D a l := h.fr (stay_below hb D) (fun _ h => h)
theorem Sl.dom {α : Type} {t : Ty α} {w : World} {D D' : Nat → Prop} {a : Option Addr} {l : List α} (h : Sl t w D a l) (hd : ∀ k, D k → D' k) : Sl t w D' a l := h.fr (fun _ _ _ _ h => h) hd
theorem Sl.nil {α : Type} (t : Ty α) (w : World) (D : Nat → Prop) (a : Option Addr) : Sl t w D a [] := fun j hj => by cases hj
def Ty.list {α : Type} (t : Ty α) : Ty (List α) where
 size := 1
 rd w D cs l := ∃ a c, cs = [.slice a l.length c] ∧ Sl t w D a l
 len := fun ⟨_, _, h, _⟩ => by rw [h]; rfl
 fr := fun ⟨_, _, h, h1⟩ hs hd => ⟨_, _, h, h1.fr hs hd⟩
 one := fun ⟨_, _, h, _⟩ u hu => by rw [h] at hu; simp at hu; subst hu; rfl
theorem Ty.below {α : Type} {t : Ty α} {w w' : World} {D : Nat → Prop} {cs : List Value} {x : α} (h : t.rd w D cs x) (hb : Below w.heap.size w w') : t.rd w' D cs x := t.fr h (stay_below hb D) (fun _ h => h)
theorem Ty.dom {α : Type} {t : Ty α} {w : World} {D D' : Nat → Prop} {cs : List Value} {x : α} (h : t.rd w D cs x) (hd : ∀ k, D k → D' k) : t.rd w D' cs x := t.fr h (fun _ _ _ _ h => h) hd
structure Slot (P : Program) where
 e : TypeId
 t : TypeId
 size : Nat
 bytes : Nat
 zero : Value
 ht : P.underlying t = some (.slice e)
 info : (P.info? e).map (fun i => (i.zero, i.size, i.bytes)) = some (some zero, size, bytes)
 hzs : zero.cells.size = size
 hsz : 0 < size
 hby : bytes ≤ 1000
variable {P : Program}
variable {S : Slot P} {α : Type} {t : Ty α}
theorem snoc_get {α : Type} (l : List α) (x : α) (j : Nat) (h : j < (l ++ [x]).length) : (∃ h' : j < l.length, (l ++ [x])[j] = l[j]) ∨ (j = l.length ∧ (l ++ [x])[j] = x) := by
 by_cases hlt : j < l.length
 ·exact .inl ⟨hlt, List.getElem_append_left hlt⟩
 ·have : j = l.length := by simp at h; omega
  subst this
  exact .inr ⟨rfl, by simp⟩
end Go.Proofs.YtjcjhfnjamphlaaGreat
namespace Go.Proofs.YtjcjhfnjamphlaaGreat
open Go.ChangeShapes Go.WideShapes Go.ChangeAt Go.RowKit
set_option maxRecDepth 100000 in
set_option maxHeartbeats 1600000 in
theorem rints_any (w : World) (D D' : Nat → Prop) (a a' : Option Addr) (l m : List Int) (c c' : Nat) (hl : IntSl w D a l) (hm : IntSl w D' a' m) (hn : l.length ≤ 1000000) (hn' : m.length ≤ 1000000) :
  Calls Tryz.prog 63 #[.slice a l.length c, .slice a' m.length c'] w fun e w' => e = .returned (.bool (decide (l = m))) ∧ ∃ n, w' = w.drewN n := by
 by_cases hlen : l.length = m.length
 case neg =>
  have h1 : ((l.length : Int) != (m.length : Int)) = true := by rw [bne_iff_ne]; omega
  have h2 : decide (l = m) = false := by simp; intro h; rw [h] at hlen; exact hlen rfl
  rw [h2]
  clear h2 hlen
  go_enter Tryz.func63, Tryz.ntmps63
  go_wp2_with fail
  go_ret
  exact ⟨rfl, 0, rfl⟩
 have h1 : ((l.length : Int) != (m.length : Int)) = false := by rw [bne_eq_false_iff_eq]; omega
 have HLEN := Lib.hid hlen; clear hlen
 have HL := Lib.hid hl; clear hl
 have HM := Lib.hid hm; clear hm
 go_enter Tryz.func63, Tryz.ntmps63
 go_wp2_with fail
 clear h1
 go_loopw [5] (fun i wr => ∃ k : Nat, k ≤ l.length ∧ i = .int .i64 k ∧ l.take k = m.take k ∧ ∃ n, wr = w.drewN n) (fun i _ => l.length - (intOf i).toNat)
 case atStart => exact ⟨0, Nat.zero_le _, rfl, rfl, 0, rfl⟩
 case round =>
  obtain ⟨k, hk, rfl, ht, n, hwr⟩ := hrel
  by_cases hlt : k < l.length
  ·have hlt2 : k < m.length := by have := HLEN.out; omega
   obtain ⟨b, o, rfl, _, hx⟩ := HL.out k hlt
   obtain ⟨b', o', rfl, _, hy⟩ := HM.out k hlt2
   have hx1 : wr.cell? ⟨b, o + k, none⟩ = some (.int .i64 l[k]) := by rw [hwr]; exact hx
   have hy1 : wr.cell? ⟨b', o' + k, none⟩ = some (.int .i64 m[k]) := by rw [hwr]; exact hy
   have hs := take_eq_step l m k hlt hlt2 ht
   have hne := ne_of_get l m k hlt hlt2
   clear hx hy ht
   generalize l[k] = x at *
   generalize m[k] = y at *
   have HS := Lib.hid hs; clear hs
   have HWR := Lib.hid hwr; clear hwr
   have HNE := Lib.hid hne; clear hne
   by_cases hxy : x = y
   ·subst hxy
    go_wp2_with fail
    go_quiet (fail)
    go_wp2_with fail
    go_roundw
    case rel => exact ⟨k + 1, by omega, by go_num, by first | exact HS.out rfl | exact HS.out trivial, by rw [HWR.out]; exact ⟨_, by first | rfl | (simp; rfl)⟩⟩
    case measure => simp [intOf]; omega
   ·have hb : (x != y) = true := by rw [bne_iff_ne]; exact hxy
    have hb2 : (x == y) = false := by simpa using hxy
    have hd : decide (l = m) = false := by simpa using HNE.out hxy
    have HD := Lib.hid hd; clear hd hxy
    go_wp2_with fail
    go_quiet (fail)
    go_wp2_with fail
    go_ret
    exact ⟨by rw [HD.out]; rfl, by rw [HWR.out]; exact ⟨_, by first | rfl | (simp; rfl)⟩⟩
  ·have hd : decide (l = m) = true := by
    have h := HLEN.out
    have hk2 : k = l.length := by omega
    rw [hk2, List.take_length, List.take_of_length_le (by omega)] at ht
    simpa using ht
   have HD := Lib.hid hd
   have HWR := Lib.hid hwr; clear hwr
   clear hd ht
   go_wp2_with fail
   go_ret
   exact ⟨by rw [HD.out]; rfl, by rw [HWR.out]; exact ⟨_, rfl⟩⟩
set_option maxRecDepth 100000 in
set_option maxHeartbeats 1600000 in
theorem sameInts_any (w : World) (D D' : Nat → Prop) (a a' : Option Addr) (l m : List Int) (c c' : Nat) (hl : IntSl w D a l) (hm : IntSl w D' a' m) (hn : l.length ≤ 1000000) (hn' : m.length ≤ 1000000) :
  Calls Tryz.prog 13 #[.slice a l.length c, .slice a' m.length c'] w fun e w' => e = .returned (.bool (decide (l = m))) ∧ ∃ n, w' = w.drewN n := by
 by_cases hlen : l.length = m.length
 case neg =>
  have h1 : ((l.length : Int) != (m.length : Int)) = true := by rw [bne_iff_ne]; omega
  have h2 : decide (l = m) = false := by simp; intro h; rw [h] at hlen; exact hlen rfl
  rw [h2]
  clear h2 hlen
  go_enter Tryz.func13, Tryz.ntmps13
  go_wp2_with fail
  go_ret
  exact ⟨rfl, 0, rfl⟩
 have h1 : ((l.length : Int) != (m.length : Int)) = false := by rw [bne_eq_false_iff_eq]; omega
 have HLEN := Lib.hid hlen; clear hlen
 have HL := Lib.hid hl; clear hl
 have HM := Lib.hid hm; clear hm
 go_enter Tryz.func13, Tryz.ntmps13
 go_wp2_with fail
 clear h1
 go_loopw [5] (fun i wr => ∃ k : Nat, k ≤ l.length ∧ i = .int .i64 k ∧ l.take k = m.take k ∧ ∃ n, wr = w.drewN n) (fun i _ => l.length - (intOf i).toNat)
 case atStart => exact ⟨0, Nat.zero_le _, rfl, rfl, 0, rfl⟩
 case round =>
  obtain ⟨k, hk, rfl, ht, n, hwr⟩ := hrel
  by_cases hlt : k < l.length
  ·have hlt2 : k < m.length := by have := HLEN.out; omega
   obtain ⟨b, o, rfl, _, hx⟩ := HL.out k hlt
   obtain ⟨b', o', rfl, _, hy⟩ := HM.out k hlt2
   have hx1 : wr.cell? ⟨b, o + k, none⟩ = some (.int .i64 l[k]) := by rw [hwr]; exact hx
   have hy1 : wr.cell? ⟨b', o' + k, none⟩ = some (.int .i64 m[k]) := by rw [hwr]; exact hy
   have hs := take_eq_step l m k hlt hlt2 ht
   have hne := ne_of_get l m k hlt hlt2
   clear hx hy ht
   generalize l[k] = x at *
   generalize m[k] = y at *
   have HS := Lib.hid hs; clear hs
   have HWR := Lib.hid hwr; clear hwr
   have HNE := Lib.hid hne; clear hne
   by_cases hxy : x = y
   ·subst hxy
    go_wp2_with fail
    go_quiet (fail)
    go_wp2_with fail
    go_roundw
    case rel => exact ⟨k + 1, by omega, by go_num, by first | exact HS.out rfl | exact HS.out trivial, by rw [HWR.out]; exact ⟨_, by first | rfl | (simp; rfl)⟩⟩
    case measure => simp [intOf]; omega
   ·have hb : (x != y) = true := by rw [bne_iff_ne]; exact hxy
    have hb2 : (x == y) = false := by simpa using hxy
    have hd : decide (l = m) = false := by simpa using HNE.out hxy
    have HD := Lib.hid hd; clear hd hxy
    go_wp2_with fail
    go_quiet (fail)
    go_wp2_with fail
    go_ret
    exact ⟨by rw [HD.out]; rfl, by rw [HWR.out]; exact ⟨_, by first | rfl | (simp; rfl)⟩⟩
  ·have hd : decide (l = m) = true := by
    have h := HLEN.out
    have hk2 : k = l.length := by omega
    rw [hk2, List.take_length, List.take_of_length_le (by omega)] at ht
    simpa using ht
   have HD := Lib.hid hd
   have HWR := Lib.hid hwr; clear hwr
   clear hd ht
   go_wp2_with fail
   go_ret
   exact ⟨by rw [HD.out]; rfl, by rw [HWR.out]; exact ⟨_, rfl⟩⟩
set_option maxRecDepth 100000 in
set_option maxHeartbeats 1600000 in
theorem sameInstrs_any (w : World) (D D' : Nat → Prop) (a a' : Option Addr) (l m : List Ins) (c c' : Nat) (hl : InsSlD w D a l) (hm : InsSlD w D' a' m) (hn : l.length ≤ 1000000) (hn' : m.length ≤ 1000000) :
  Calls Tryz.prog 64 #[.slice a l.length c, .slice a' m.length c'] w fun e w' => e = .returned (.bool (decide (l = m))) ∧ ∃ n, w' = w.drewN n := by
 by_cases hlen : l.length = m.length
 case neg =>
  have h1 : ((l.length : Int) != (m.length : Int)) = true := by rw [bne_iff_ne]; omega
  have h2 : decide (l = m) = false := by simp; intro h; rw [h] at hlen; exact hlen rfl
  rw [h2]
  clear h2 hlen
  go_enter Tryz.func64, Tryz.ntmps64
  go_wp2_with fail
  go_ret
  exact ⟨rfl, 0, rfl⟩
 have h1 : ((l.length : Int) != (m.length : Int)) = false := by rw [bne_eq_false_iff_eq]; omega
 have HLEN := Lib.hid hlen; clear hlen
 have HL := Lib.hid hl; clear hl
 have HM := Lib.hid hm; clear hm
 go_enter Tryz.func64, Tryz.ntmps64
 go_wp2_with fail
 clear h1
 go_loopw [5] (fun i wr => ∃ k : Nat, k ≤ l.length ∧ i = .int .i64 k ∧ l.take k = m.take k ∧ ∃ n, wr = w.drewN n) (fun i _ => l.length - (intOf i).toNat)
 case atStart => exact ⟨0, Nat.zero_le _, rfl, rfl, 0, rfl⟩
 case round =>
  obtain ⟨k, hk, rfl, ht, n, hwr⟩ := hrel
  by_cases hlt : k < l.length
  ·have hlt2 : k < m.length := by have := HLEN.out; omega
   obtain ⟨b, o, rfl, _, hx⟩ := HL.out k hlt
   obtain ⟨b', o', rfl, _, hy⟩ := HM.out k hlt2
   obtain ⟨p0, p1, p2, p3⟩ : InsAt wr b (o + k * 4) l[k] := by rw [hwr]; exact hx
   obtain ⟨r0, r1, r2, r3⟩ : InsAt wr b' (o' + k * 4) m[k] := by rw [hwr]; exact hy
   have hs := take_eq_step l m k hlt hlt2 ht
   have hne := ne_of_get l m k hlt hlt2
   clear hx hy ht
   generalize l[k] = x at *
   generalize m[k] = y at *
   have HS := Lib.hid hs; clear hs
   have HWR := Lib.hid hwr; clear hwr
   have HNE := Lib.hid hne; clear hne
   by_cases hxy : x = y
   ·subst hxy
    go_wp2_with fail
    go_quiet (fail)
    go_wp2_with fail
    go_roundw
    case rel => exact ⟨k + 1, by omega, by go_num, by first | exact HS.out rfl | exact HS.out trivial, by rw [HWR.out]; exact ⟨_, by first | rfl | (simp; rfl)⟩⟩
    case measure => simp [intOf]; omega
   ·have hd : decide (l = m) = false := by simpa using HNE.out hxy
    have HD := Lib.hid hd
    clear hd
    obtain ⟨x0, x1, x2, x3⟩ := x
    obtain ⟨y0, y1, y2, y3⟩ := y
    dsimp only at p0 p1 p2 p3 r0 r1 r2 r3
    clear HNE HS
    by_cases e0 : x0 = y0
    case neg =>
     have d0 : (x0 == y0) = false := by simpa using e0
     clear e0 hxy
     go_wp2_with fail
     go_quiet (fail)
     go_wp2_with fail
     go_ret
     exact ⟨by rw [HD.out]; rfl, by rw [HWR.out]; exact ⟨_, by first | rfl | (simp; rfl)⟩⟩
    subst e0
    by_cases e1 : x1 = y1
    case neg =>
     have d1 : (x1 == y1) = false := by simpa using e1
     clear e1 hxy
     go_wp2_with fail
     go_quiet (fail)
     go_wp2_with fail
     go_ret
     exact ⟨by rw [HD.out]; rfl, by rw [HWR.out]; exact ⟨_, by first | rfl | (simp; rfl)⟩⟩
    subst e1
    by_cases e2 : x2 = y2
    case neg =>
     have d2 : (x2 == y2) = false := by simpa using e2
     clear e2 hxy
     go_wp2_with fail
     go_quiet (fail)
     go_wp2_with fail
     go_ret
     exact ⟨by rw [HD.out]; rfl, by rw [HWR.out]; exact ⟨_, by first | rfl | (simp; rfl)⟩⟩
    subst e2
    by_cases e3 : x3 = y3
    case neg =>
     have d3 : (x3 == y3) = false := by simpa using e3
     clear e3 hxy
     go_wp2_with fail
     go_quiet (fail)
     go_wp2_with fail
     go_ret
     exact ⟨by rw [HD.out]; rfl, by rw [HWR.out]; exact ⟨_, by first | rfl | (simp; rfl)⟩⟩
    exact absurd (by rw [e3]) hxy
  ·have hd : decide (l = m) = true := by
    have h := HLEN.out
    have hk2 : k = l.length := by omega
    rw [hk2, List.take_length, List.take_of_length_le (by omega)] at ht
    simpa using ht
   have HD := Lib.hid hd
   have HWR := Lib.hid hwr; clear hwr
   clear hd ht
   go_wp2_with fail
   go_ret
   exact ⟨by rw [HD.out]; rfl, by rw [HWR.out]; exact ⟨_, rfl⟩⟩
end Go.Proofs.YtjcjhfnjamphlaaGreat
namespace Go.Proofs.YtjcjhfnjamphlaaGreat
open Go.ChangeShapes Go.WideShapes Go.ChangeAt Go.RowKit
def wA (w : World) : World := ((w.alloc (.cells #[.int .i64 27, .int .i64 0, .int .i64 0, .int .i64 0] 60)).alloc (.cells #[.slice none 0 0, .int .i64 0, .int .i64 0, .slice none 0 0, .slice (some ⟨w.heap.size, 0, none⟩) 1 1] 58)).alloc (.cells #[.slice none 0 0, .slice none 0 0, .slice (some ⟨w.heap.size + 1, 0, none⟩) 1 1] 26)
end Go.Proofs.YtjcjhfnjamphlaaGreat
namespace Go.Proofs.YtjcjhfnjamphlaaGreat
open Go.ChangeShapes Go.WideShapes Go.ChangeAt Go.RowKit
variable {H : Type} {enc : TypeId × Value → H}
set_option maxRecDepth 100000 in
theorem open_elems {α : Type} [Inhabited α] {w : World} {base : Nat} {sp : Nat → Bool} {hd : Bool} {m : Nat} {t e size : Nat} {cs : List Value} {x : DataW H × List MemPlace} (ht : Tryz.prog.underlying t = some (.slice e)) (hce : Tryz.prog.cellsOf e = size) (hsz : 0 < size)
  (R : List Value → α → Prop) (hR : ∀ n ds y, DataW.trod enc Tryz.prog w base sp hd n e ds = some y → ∃ z, R ds z) (h : DataW.trod enc Tryz.prog w base sp hd m t cs = some x) :
  ∃ (a : Option Addr) (l : List α) (c : Nat), cs = [.slice a l.length c] ∧ ∀ j (hj : j < l.length), ∃ b o ds, a = some ⟨b, o, none⟩ ∧ R ds l[j] ∧ ds.length = size ∧ ∀ r u, ds[r]? = some u → w.cell? ⟨b, o + j * size + r, none⟩ = some u := by
 rcases Go.Deep.open_slice ht h with ⟨hcs, hx⟩ | ⟨a, len, cap, m, n, D, Pl, hcs, hb, hl, hm, hmm, hx, hel⟩
 ·exact ⟨none, [], 0, hcs, fun j hj => by cases hj⟩
 ·have hle : len ≤ m := by rw [hmm]; split <;> omega
  rw [hce] at hel
  obtain ⟨f, hF⟩ := Go.Deep.choose_lt (α := α × List Value) (p := fun i y => w.cells? base (a.add (i * size)) size = some y.2 ∧ R y.2 y.1) (n := len) (fun i hi => by
   obtain ⟨cs', h1, h2⟩ := hel i (by omega)
   obtain ⟨z, hz⟩ := hR _ _ _ h2
   exact ⟨(z, cs'), h1, hz⟩)
  refine ⟨some a, (List.range len).map fun i => (f i).1, cap, by rw [hcs]; simp, fun j hj => ?_⟩
  simp at hj
  have hspot : ∀ i, i < len → (a.add (i * size)).spot = none := fun i hi => by
   obtain ⟨_, hlen, hc⟩ := World.cells?_some (hF i hi).1
   have h0 := hc 0 hsz
   have hp : (a.add (i * size)).add 0 = a.add (i * size) := rfl
   rw [hp, List.getElem?_eq_getElem (by omega)] at h0
   have := plain_addr h0
   rw [this]
  have ha : a.spot = none := by
   have := hspot 0 (by omega)
   rw [Nat.zero_mul] at this
   exact this
  obtain ⟨_, hlen, hc⟩ := World.cells?_some (hF j hj).1
  obtain ⟨bb, oo, ss⟩ := a
  dsimp only at ha
  subst ha
  refine ⟨bb, oo, (f j).2, rfl, by simpa using (hF j hj).2, hlen, fun r u hu => ?_⟩
  have hr : r < size := by
   rcases Nat.lt_or_ge r size with h' | h'
   ·exact h'
   ·rw [List.getElem?_eq_none (by omega)] at hu; cases hu
  have h1 := hc r hr
  rw [addr_add ⟨bb, oo, none⟩ rfl (j * size), addr_add ⟨bb, oo + j * size, none⟩ rfl r] at h1
  dsimp only at h1
  rw [h1, hu]
theorem cells_more : Tryz.prog.cellsOf 55 = 1 ∧ Tryz.prog.cellsOf 58 = 5 ∧ Tryz.prog.cellsOf 26 = 3 ∧ Tryz.prog.cellsOf 22 = 1 ∧ Tryz.prog.cellsOf 56 = 1 ∧ Tryz.prog.cellsOf 23 = 1 ∧ Tryz.prog.cellsOf 24 = 1 := ⟨by kernel_rfl, by kernel_rfl, by kernel_rfl, by kernel_rfl, by kernel_rfl, by kernel_rfl, by kernel_rfl⟩
instance : Inhabited Fun := ⟨⟨[], 0, 0, [], []⟩⟩
end Go.Proofs.YtjcjhfnjamphlaaGreat
namespace Go.Proofs.YtjcjhfnjamphlaaGreat
def f5 (a : List Int) (r l : Int) (o : List Int) (n : Int) (s : RS) : Fun × RS := (⟨a, r, l, o, readL (rTake s (n.toNat * 7)).1⟩, ((rTake s (n.toNat * 7)).2.1, (rTake s (n.toNat * 7)).2.2 || !readOk (rTake s (n.toNat * 7)).1))
def f4 (a : List Int) (r l : Int) (o : List Int) (s : RS) : Fun × RS := f5 a r l o (rNum s).1 (rNum s).2
def f3 (a : List Int) (r l : Int) (s : RS) : Fun × RS := f4 a r l (rList s).1 (rList s).2
def f2 (a : List Int) (r : Int) (s : RS) : Fun × RS := f3 a r (rNum s).1 (rNum s).2
def f1 (a : List Int) (s : RS) : Fun × RS := f2 a (rNum s).1 (rNum s).2
def p3 (g : List Int) (sh : List (List Int)) (m : Int) (s : RS) : Prg × RS := (⟨g, sh, (rFuncs s m.toNat).1⟩, (rFuncs s m.toNat).2)
def p2 (g : List Int) (sh : List (List Int)) (s : RS) : Prg × RS := p3 g sh (rNum s).1 (rNum s).2
def p1 (g : List Int) (n : Int) (s : RS) : Prg × RS := p2 g (rShapes s n.toNat).1 (rShapes s n.toNat).2
def p0 (g : List Int) (s : RS) : Prg × RS := p1 g (rNum s).1 (rNum s).2
end Go.Proofs.YtjcjhfnjamphlaaGreat
