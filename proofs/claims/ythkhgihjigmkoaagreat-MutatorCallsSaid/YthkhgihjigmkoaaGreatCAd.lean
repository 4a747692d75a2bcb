import Derived.Test.YthkhgihjigmkoaaGreatCAc
import Derived.Deep.RegionLaw
set_option linter.unusedVariables false
set_option linter.unusedSimpArgs false
namespace Go.Proofs.YthkhgihjigmkoaaGreat
open Go.ChangeShapes Go.WideShapes Go.ChangeAt Go.RowKit
def rFn (s : RS) : Fun × RS :=
 let a := rList s
 let r := rNum a.2
 let l := rNum r.2
 let o := rList l.2
 let n := rNum o.2
 let c := rTake n.2 (n.1.toNat * 7)
 (⟨a.1, r.1, l.1, o.1, readL c.1⟩, (c.2.1, c.2.2 || !readOk c.1))
theorem row_cell {w : World} {q : Nat} {cs : Array Value} {t : TypeId} (h : w.heap[q]? = some (.cells cs t)) (j : Nat) : w.cell? ⟨q, j, none⟩ = cs[j]? ∧ w.frozen? ⟨q, j, none⟩ = false := by
 simp [World.cell?, World.frozen?, h]
theorem row_set {w : World} {q : Nat} {cs : Array Value} {t : TypeId} (h : w.heap[q]? = some (.cells cs t)) (j : Nat) (u : Value) : (w.setCell ⟨q, j, none⟩ u).heap[q]? = some (.cells (cs.setIfInBounds j u) t) := by
 simp only [World.setCell, Array.getElem?_modify, if_pos rfl, h, Option.map]
 rfl
theorem row_alloc {w : World} {q : Nat} {ob : Obj} (h : w.heap[q]? = some ob) (o : Obj) : (w.alloc o).heap[q]? = some ob := by
 rw [Below.heap_alloc _ _ _ (heap_lt h)]; exact h
theorem five_cells {w : World} {q : Nat} {x0 x1 x2 x3 x4 : Value} {t : TypeId} (h : w.heap[q]? = some (.cells #[x0, x1, x2, x3, x4] t)) :
  (w.cell? ⟨q, 0, none⟩ = some x0 ∧ w.cell? ⟨q, 1, none⟩ = some x1 ∧ w.cell? ⟨q, 2, none⟩ = some x2 ∧ w.cell? ⟨q, 3, none⟩ = some x3 ∧ w.cell? ⟨q, 4, none⟩ = some x4) ∧
  (w.frozen? ⟨q, 0, none⟩ = false ∧ w.frozen? ⟨q, 1, none⟩ = false ∧ w.frozen? ⟨q, 2, none⟩ = false ∧ w.frozen? ⟨q, 3, none⟩ = false ∧ w.frozen? ⟨q, 4, none⟩ = false) :=
 ⟨⟨(row_cell h 0).1, (row_cell h 1).1, (row_cell h 2).1, (row_cell h 3).1, (row_cell h 4).1⟩, (row_cell h 0).2, (row_cell h 1).2, (row_cell h 2).2, (row_cell h 3).2, (row_cell h 4).2⟩
end Go.Proofs.YthkhgihjigmkoaaGreat
namespace Go.Proofs.YthkhgihjigmkoaaGreat
open Go.ChangeShapes Go.WideShapes Go.ChangeAt Go.RowKit
structure Hd where (a : Option Addr) (n c : Nat)
def Hd.val (h : Hd) : Value := .slice h.a h.n h.c
theorem own_int {w : World} {B : Nat} {v : Value} {l : List Int} (h : Own intE w B v l) : ∃ a c, v = .slice a l.length c ∧ IntSl w (fun k => v.ownBlock = some k) a l := by
 have hc := fun g hg => World.ownsRow.cells (g := g) h hg
 obtain ⟨h1, h2⟩ := h
 rcases h2 with ⟨rfl, h0⟩ | ⟨g, cap, cur, rfl, hg, hh, hr⟩
 ·have : l = [] := List.length_eq_zero_iff.1 h0
  subst this
  exact ⟨none, 0, rfl, fun j hj => by cases hj⟩
 ·refine ⟨_, cap, rfl, fun j hj => ⟨g, 0, rfl, rfl, ?_⟩⟩
  have := hc g rfl j (.int .i64 l[j]) (by
   have : l.flatMap intE.enc = l.map (Value.int .i64) := by
    clear hc h1 hr hj
    induction l with
    | nil => rfl
    | cons x l ih => rw [List.flatMap_cons, ih]; rfl
   rw [this]; simp [hj])
  unfold Addr.add at this
  rw [Nat.zero_add]
  split at this
  ·subst j; exact this
  ·simpa using this
def rShapes (s : RS) : Nat → List (List Int) × RS
 | 0 => ([], s)
 | n + 1 => ((rShapes s n).1 ++ [(rList (rShapes s n).2).1], (rList (rShapes s n).2).2)
def rFuncs (s : RS) : Nat → List Fun × RS
 | 0 => ([], s)
 | n + 1 => ((rFuncs s n).1 ++ [(rFn (rFuncs s n).2).1], (rFn (rFuncs s n).2).2)
theorem IntSl.dom {w : World} {D D' : Nat → Prop} {a : Option Addr} {l : List Int} (h : IntSl w D a l) (hd : ∀ k, D k → D' k) : IntSl w D' a l := fun j hj => by
 obtain ⟨b, o, h1, h2, h3⟩ := h j hj
 exact ⟨b, o, h1, hd b h2, h3⟩
theorem InsSlD.dom {w : World} {D D' : Nat → Prop} {a : Option Addr} {l : List Ins} (h : InsSlD w D a l) (hd : ∀ k, D k → D' k) : InsSlD w D' a l := fun j hj => by
 obtain ⟨b, o, h1, h2, h3⟩ := h j hj
 exact ⟨b, o, h1, hd b h2, h3⟩
end Go.Proofs.YthkhgihjigmkoaaGreat
namespace Go.Proofs.YthkhgihjigmkoaaGreat
open Go.RowKit
theorem box1 (w : World) (cs : Array Value) (t : TypeId) (wr : World) (h : Below (w.heap.size + 1) (w.alloc (.cells cs t)) wr) :
  (∀ j u, cs[j]? = some u → wr.cell? ⟨w.heap.size, j, none⟩ = some u) ∧ Below w.heap.size w wr ∧ w.heap.size + 1 ≤ wr.heap.size := by
 refine ⟨fun j u hj => ?_, ((Below.refl _ _).alloc (Nat.le_refl _) _).trans (h.mono (by simp)), by have := h.size; simpa using this⟩
 rw [h.cell (by simp), cell_new]; exact hj
theorem box2 (w : World) (cs cs' : Array Value) (t t' : TypeId) (wr : World) (h : Below (w.heap.size + 2) ((w.alloc (.cells cs t)).alloc (.cells cs' t')) wr) :
  (∀ j u, cs[j]? = some u → wr.cell? ⟨w.heap.size, j, none⟩ = some u) ∧ (∀ j u, cs'[j]? = some u → wr.cell? ⟨w.heap.size + 1, j, none⟩ = some u) ∧ Below w.heap.size w wr ∧ w.heap.size + 2 ≤ wr.heap.size := by
 refine ⟨fun j u hj => ?_, fun j u hj => ?_, (((Below.refl _ _).alloc (Nat.le_refl _) _).alloc (by simp) _).trans (h.mono (by simp)), by have := h.size; simpa using this⟩
 ·rw [h.cell (by simp), cell_under _ _ (by simp), cell_new]; exact hj
 ·rw [h.cell (by simp)]
  have := cell_new (w.alloc (.cells cs t)) cs' t' (0, 0) j
  rw [show (w.alloc (.cells cs t)).heap.size = w.heap.size + 1 from by simp] at this
  rw [this]; exact hj
theorem Below.ofDrew {W W' : World} (h : ∃ n, W' = W.drewN n) : Below W.heap.size W W' := by
 obtain ⟨n, rfl⟩ := h
 exact below_drewN (Below.refl _ _) n
theorem Calls.drawn {P : Program} {f : FuncId} {args : Array Value} {w : World} {v : Value} (h : Calls P f args w fun e w' => e = .returned v ∧ ∃ n, w' = w.drewN n) : Calls P f args w fun e w' => e = .returned v ∧ Below w.heap.size w w' :=
 h.mono fun _ _ ⟨he, hn⟩ => ⟨he, Below.ofDrew hn⟩
theorem own_new {P : Program} {α : Type} (E : Elem P α) (w : World) (l : List α) (cs : Array Value) (h : cs.toList = l.flatMap E.enc) (hl : l.length ≤ maxLen) : Own E (w.alloc (.cells cs E.e)) w.heap.size (.slice (some ⟨w.heap.size, 0, none⟩) l.length l.length) l := by
 refine ⟨E.len l, .inr ⟨w.heap.size, l.length, cs, rfl, Nat.le_refl _, heap_new w _, Nat.le_refl _, hl, ?_, ?_⟩⟩
 ·rw [← E.len l, ← h]; simp
 ·rw [h, List.take_of_length_le]; rw [E.len l]; exact Nat.le_refl _
end Go.Proofs.YthkhgihjigmkoaaGreat
namespace Go.Proofs.YthkhgihjigmkoaaGreat
open Go.RowKit
variable {P : Program} {α : Type}
theorem Own.cells {E : Elem P α} {w : World} {B : Nat} {v : Value} {l : List α} (h : Own E w B v l) (hne : 1 ≤ l.length) : ∃ g c, v = .slice (some ⟨g, 0, none⟩) l.length c ∧ B ≤ g ∧ g < w.heap.size ∧ CellsAt w g 0 (l.flatMap E.enc) := by
 have hc := fun g hg => World.ownsRow.cells (g := g) h hg
 have hlt := fun k hk => h.lt (k := k) hk
 obtain ⟨h1, h2⟩ := h
 rcases h2 with ⟨rfl, h0⟩ | ⟨g, cap, cur, rfl, hg, hh, hr⟩
 ·omega
 ·refine ⟨g, cap, rfl, hg, (hlt g rfl).2, fun j u hj => ?_⟩
  have := hc g rfl j u hj
  unfold Addr.add at this
  split at this
  ·subst j; exact this
  ·simpa using this
variable {E : Elem P α} {HE : Elem P Hd} {w w' : World} {B : Nat} {X : Nat → Prop} {v : Value} {hs : List Hd} {ls : List (List α)}
end Go.Proofs.YthkhgihjigmkoaaGreat
namespace Go.Proofs.YthkhgihjigmkoaaGreat
open Go.ChangeShapes Go.WideShapes Go.ChangeAt Go.RowKit
instance : DecidableEq Ins := fun ⟨a, b, c, d⟩ ⟨a', b', c', d'⟩ => if h : a = a' ∧ b = b' ∧ c = c' ∧ d = d' then isTrue (by obtain ⟨rfl, rfl, rfl, rfl⟩ := h; rfl) else isFalse (fun e => h (by injection e with h1 h2 h3 h4; exact ⟨h1, h2, h3, h4⟩))
instance : DecidableEq Fun := fun ⟨a, b, c, d, x⟩ ⟨a', b', c', d', x'⟩ => if h : a = a' ∧ b = b' ∧ c = c' ∧ d = d' ∧ x = x' then isTrue (by obtain ⟨rfl, rfl, rfl, rfl, rfl⟩ := h; rfl) else isFalse (fun e => h (by injection e with h1 h2 h3 h4 h5; exact ⟨h1, h2, h3, h4, h5⟩))
theorem take_eq_step {α : Type} (l m : List α) (k : Nat) (h1 : k < l.length) (h2 : k < m.length) (h : l.take k = m.take k) (hx : l[k] = m[k]) : l.take (k + 1) = m.take (k + 1) := by
 rw [take_snoc l k h1, take_snoc m k h2, h, hx]
theorem ne_of_get {α : Type} (l m : List α) (k : Nat) (h1 : k < l.length) (h2 : k < m.length) (hx : l[k] ≠ m[k]) : l ≠ m := fun h => by subst h; exact hx rfl
set_option maxRecDepth 100000 in
set_option maxHeartbeats 1600000 in
theorem eq_ints (w : World) (D D' : Nat → Prop) (a a' : Option Addr) (l m : List Int) (c c' : Nat) (hl : IntSl w D a l) (hm : IntSl w D' a' m) (hn : l.length ≤ 1000000) (hn' : m.length ≤ 1000000) :
  Calls Tryz.prog 108 #[.slice a l.length c, .slice a' m.length c'] w fun e w' => e = .returned (.bool (decide (l = m))) ∧ ∃ n, w' = w.drewN n := by
 by_cases hlen : l.length = m.length
 case neg =>
  have h1 : ((l.length : Int) != (m.length : Int)) = true := by rw [bne_iff_ne]; omega
  have h2 : decide (l = m) = false := by simp; intro h; rw [h] at hlen; exact hlen rfl
  rw [h2]
  clear h2 hlen
  go_enter Tryz.func108, Tryz.ntmps108
  go_wp2_with fail
  go_ret
  exact ⟨rfl, 0, rfl⟩
 have h1 : ((l.length : Int) != (m.length : Int)) = false := by rw [bne_eq_false_iff_eq]; omega
 have HLEN := Lib.hid hlen; clear hlen
 have HL := Lib.hid hl; clear hl
 have HM := Lib.hid hm; clear hm
 go_enter Tryz.func108, Tryz.ntmps108
 go_wp2_with fail
 clear h1
 go_loopw [13] (fun i wr => ∃ k : Nat, k ≤ l.length ∧ i = .int .i64 k ∧ l.take k = m.take k ∧ ∃ n, wr = w.drewN n) (fun i _ => l.length - (intOf i).toNat)
 case atStart => exact ⟨0, Nat.zero_le _, rfl, rfl, 0, rfl⟩
 case round =>
  obtain ⟨k, hk, rfl, ht, n, hwr⟩ := hrel
  by_cases hlt : k < l.length
  ·have hlt2 : k < m.length := by have := HLEN.out; omega
   obtain ⟨b, o, rfl, _, hx⟩ := HL.out k hlt
   obtain ⟨b', o', rfl, _, hy⟩ := HM.out k hlt2
   have hx1 : wr.cell? ⟨b, o + k, none⟩ = some (.int .i64 l[k]) := by rw [hwr]; exact hx
   have hy1 : wr.cell? ⟨b', o' + k, none⟩ = some (.int .i64 m[k]) := by rw [hwr]; exact hy
   have hs := take_eq_step l m k hlt hlt2 ht
   have hne := ne_of_get l m k hlt hlt2
   clear hx hy ht
   generalize l[k] = x at *
   generalize m[k] = y at *
   have HS := Lib.hid hs; clear hs
   have HWR := Lib.hid hwr; clear hwr
   have HNE := Lib.hid hne; clear hne
   by_cases hxy : x = y
   ·subst hxy
    go_wp2_with fail
    go_quiet (fail)
    go_wp2_with fail
    go_roundw
    case rel => exact ⟨k + 1, by omega, by go_num, by first | exact HS.out rfl | exact HS.out trivial, by rw [HWR.out]; exact ⟨_, by first | rfl | (simp; rfl)⟩⟩
    case measure => simp [intOf]; omega
   ·have hb : (x != y) = true := by rw [bne_iff_ne]; exact hxy
    have hd : decide (l = m) = false := by simpa using HNE.out hxy
    have HD := Lib.hid hd; clear hd hxy
    go_wp2_with fail
    go_quiet (fail)
    go_wp2_with fail
    go_ret
    exact ⟨by rw [HD.out]; rfl, by rw [HWR.out]; exact ⟨_, by first | rfl | (simp; rfl)⟩⟩
  ·have hd : decide (l = m) = true := by
    have h := HLEN.out
    have hk2 : k = l.length := by omega
    rw [hk2, List.take_length, List.take_of_length_le (by omega)] at ht
    simpa using ht
   have HD := Lib.hid hd
   have HWR := Lib.hid hwr; clear hwr
   clear hd ht
   go_wp2_with fail
   go_ret
   exact ⟨by rw [HD.out]; rfl, by rw [HWR.out]; exact ⟨_, rfl⟩⟩
end Go.Proofs.YthkhgihjigmkoaaGreat
namespace Go.Proofs.YthkhgihjigmkoaaGreat
open Go.ChangeShapes Go.WideShapes Go.ChangeAt Go.RowKit
def wA (w : World) : World := ((w.alloc (.cells #[.int .i64 27, .int .i64 0, .int .i64 0, .int .i64 0] 59)).alloc (.cells #[.slice none 0 0, .int .i64 0, .int .i64 0, .slice none 0 0, .slice (some ⟨w.heap.size, 0, none⟩) 1 1] 74)).alloc (.cells #[.slice none 0 0, .slice none 0 0, .slice (some ⟨w.heap.size + 1, 0, none⟩) 1 1] 27)
end Go.Proofs.YthkhgihjigmkoaaGreat
