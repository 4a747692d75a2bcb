import Derived.Test.YtjcjhfnjamphlaaGreatZAb
import Derived.Test.YtjcjhfnjamphlaaGreatZAc
set_option linter.unusedVariables false
set_option linter.unusedSimpArgs false
namespace Go.Proofs.YtjcjhfnjamphlaaGreat
open Go.RowKit
theorem box1 (w : World) (cs : Array Value) (t : TypeId) (wr : World) (h : Below (w.heap.size + 1) (w.alloc (.cells cs t)) wr) :
  (∀ j u, cs[j]? = some u → wr.cell? ⟨w.heap.size, j, none⟩ = some u) ∧ Below w.heap.size w wr ∧ w.heap.size + 1 ≤ wr.heap.size := by
 refine ⟨fun j u hj => ?_, ((Below.refl _ _).alloc (Nat.le_refl _) _).trans (h.mono (by simp)), by have := h.size; simpa using this⟩
 rw [h.cell (by simp), cell_new]; exact hj
theorem box2 (w : World) (cs cs' : Array Value) (t t' : TypeId) (wr : World) (h : Below (w.heap.size + 2) ((w.alloc (.cells cs t)).alloc (.cells cs' t')) wr) :
  (∀ j u, cs[j]? = some u → wr.cell? ⟨w.heap.size, j, none⟩ = some u) ∧ (∀ j u, cs'[j]? = some u → wr.cell? ⟨w.heap.size + 1, j, none⟩ = some u) ∧ Below w.heap.size w wr ∧ w.heap.size + 2 ≤ wr.heap.size := by
 refine ⟨fun j u hj => ?_, fun j u hj => ?_, (((Below.refl _ _).alloc (Nat.le_refl _) _).alloc (by simp) _).trans (h.mono (by simp)), by have := h.size; simpa using this⟩
 ·rw [h.cell (by simp), cell_under _ _ (by simp), cell_new]; exact hj
 ·rw [h.cell (by simp)]
  have := cell_new (w.alloc (.cells cs t)) cs' t' (0, 0) j
  rw [show (w.alloc (.cells cs t)).heap.size = w.heap.size + 1 from by simp] at this
  rw [this]; exact hj
theorem Below.ofDrew {W W' : World} (h : ∃ n, W' = W.drewN n) : Below W.heap.size W W' := by
 obtain ⟨n, rfl⟩ := h
 exact below_drewN (Below.refl _ _) n
theorem Calls.drawn {P : Program} {f : FuncId} {args : Array Value} {w : World} {v : Value} (h : Calls P f args w fun e w' => e = .returned v ∧ ∃ n, w' = w.drewN n) : Calls P f args w fun e w' => e = .returned v ∧ Below w.heap.size w w' :=
 h.mono fun _ _ ⟨he, hn⟩ => ⟨he, Below.ofDrew hn⟩
theorem own_new {P : Program} {α : Type} (E : Elem P α) (w : World) (l : List α) (cs : Array Value) (h : cs.toList = l.flatMap E.enc) (hl : l.length ≤ maxLen) : Own E (w.alloc (.cells cs E.e)) w.heap.size (.slice (some ⟨w.heap.size, 0, none⟩) l.length l.length) l := by
 refine ⟨E.len l, .inr ⟨w.heap.size, l.length, cs, rfl, Nat.le_refl _, heap_new w _, Nat.le_refl _, hl, ?_, ?_⟩⟩
 ·rw [← E.len l, ← h]; simp
 ·rw [h, List.take_of_length_le]; rw [E.len l]; exact Nat.le_refl _
end Go.Proofs.YtjcjhfnjamphlaaGreat
namespace Go.Proofs.YtjcjhfnjamphlaaGreat
open Go.RowKit
variable {P : Program} {α : Type}
theorem run_append_keep (E : Elem P α) (w : World) (ty : TypeId) (B : Nat) (l m : List α) (v : Value) (hown : Own E w B v l) (b of c : Nat)
  (hm : CellsAt w b of (m.flatMap E.enc)) (hlen : l.length + m.length ≤ 100000000) (hB : B ≤ w.heap.size) :
  ∃ v' w', (Builtin.append_ #[E.t, E.t] ty #[v, .slice (some ⟨b, of, none⟩) m.length c]).run P w = .ok v' w' ∧ Own E w' B v' (l ++ m) ∧ w.grownBy w' v.ownBlock ∧ Fresh w v v' ∧ Own E w' B v l := by
 obtain ⟨v', w', hr, h2, h3, h4⟩ := run_append_fresh E w ty B l m v hown b of c hm hlen hB
 refine ⟨v', w', hr, h2, h3, h4, ?_⟩
 obtain ⟨i0, hi, hz0, hz1, hz2⟩ := info_parts E.info
 have hnews : ∀ j u, (m.flatMap E.enc)[j]? = some u → w.cell? ((⟨b, of, none⟩ : Addr).add j) = some u := by
  intro j u hj
  have := hm j u hj
  unfold Addr.add
  by_cases h0 : j = 0
  ·subst h0; rw [if_pos rfl]; exact this
  ·rw [if_neg h0]; exact this
 have h1 : ∀ u ∈ m.flatMap E.enc, u.oneCell' = true := by
  intro u hu
  obtain ⟨y, _, hy⟩ := List.mem_flatMap.1 hu
  exact E.hone y u hy
 have hby : (l.length + m.length) * E.bytes ≤ 140737488355328 := by
  have h1 := E.hby
  have h2 : (l.length + m.length) * E.bytes ≤ 100000000 * 1000 := Nat.mul_le_mul hlen h1
  omega
 have hown0 := hown
 obtain ⟨hxl, hrow⟩ := hown
 refine ⟨hxl, ?_⟩
 rcases hrow with hnil | ⟨g, cap, cur, rfl, hbg, hg, hnc, hcm, hcs, htake⟩
 ·exact .inl hnil
 ·right
  by_cases hroom : l.length + m.length ≤ cap
  ·have hfit : l.length * i0.size + (m.flatMap E.enc).length ≤ cur.size := by rw [E.len m, hcs, hz1, ← Nat.add_mul]; exact Nat.mul_le_mul_right _ hroom
   have hr2 := run_append_room (P := P) w E.t ty E.e i0 E.ht hi g l.length cap cur hg ⟨b, of, none⟩ m.length c (m.flatMap E.enc) (by rw [hz1]; exact E.len m) hnews h1 hroom hfit
   rw [hr] at hr2
   injection hr2 with e1 e2
   subst e1
   obtain ⟨_, hrow2⟩ := h2
   rcases hrow2 with ⟨hc, _⟩ | ⟨g2, cap2, cur2, hv2, hbg2, hg2, hnc2, hcm2, hcs2, htake2⟩
   ·cases hc
   ·injection hv2 with q1 q2 q3
    injection q1 with q1
    injection q1 with q1
    subst q1 q3
    refine ⟨g, cap, cur2, rfl, hbg, hg2, hnc, hcm, hcs2, ?_⟩
    have : (cur2.toList.take ((l ++ m).length * E.size)).take (l.length * E.size) = l.flatMap E.enc := by
     rw [htake2, List.flatMap_append, List.take_append_of_le_length (by rw [E.len l]; exact Nat.le_refl _), List.take_of_length_le (by rw [E.len l]; exact Nat.le_refl _)]
    rw [List.take_take] at this
    rw [← this]
    congr 1
    rw [Nat.min_eq_left]
    exact Nat.mul_le_mul_right _ (by simp)
  ·have holds : ∀ j u, (l.flatMap E.enc)[j]? = some u → w.cell? ((⟨g, 0, none⟩ : Addr).add j) = some u := World.ownsRow.cells (g := g) hown0 rfl
   have hr2 := run_append_grow (P := P) w E.t ty E.e i0 E.zero E.ht hi hz0 ⟨g, 0, none⟩ l.length cap (l.flatMap E.enc) (by rw [hz1]; exact E.len l) holds ⟨b, of, none⟩ m.length c (m.flatMap E.enc) (by rw [hz1]; exact E.len m) hnews (by omega) (by omega) (growslice_fits (by omega) (by rw [hz2]; exact hby))
   rw [hr] at hr2
   injection hr2 with e1 e2
   refine ⟨g, cap, cur, rfl, hbg, ?_, hnc, hcm, hcs, htake⟩
   rw [e2, Below.heap_alloc _ _ _ (heap_lt (w := w.drew) hg)]
   exact hg
theorem append_keep (E : Elem P α) {ops : Array Oper} {rest : List Oper} {o : Oper} {a : Act} {Q : Exit → Act → World → Prop} {w : World} (hgd : o.guard = none) (s x : Operand)
  (ho : o.op = .call { callee := .builtin .append, args := #[s, x], argTypes := #[E.t, E.t] })
  (B : Nat) (l m : List α) (v : Value) (hs : a.eval s = v) (hown : Own E w B v l) (b of c : Nat) (hx : a.eval x = .slice (some ⟨b, of, none⟩) m.length c)
  (hm : CellsAt w b of (m.flatMap E.enc)) (hlen : l.length + m.length ≤ 100000000) (hB : B ≤ w.heap.size)
  (h : ∀ v' w', Own E w' B v' (l ++ m) → w.grownBy w' v.ownBlock → Fresh w v v' → Own E w' B v l → wpList P ops Q rest (a.put o.dst v') w') : wpList P ops Q (o :: rest) a w :=
 wpList_plain hgd fun _ hK => by
  obtain ⟨v', w', hr, h2, h3, h4, h5⟩ := run_append_keep E w o.type B l m v hown b of c hm hlen hB
  unfold Oper.wp execOp
  simp only [ho, resolve, invoke, builtin, Sem.run_bind, Sem.run_pure, Result.andThen_ok, List.map_toArray, List.map_cons, List.map_nil, hs, hx, hr]
  exact hK _ _ (h v' w' h2 h3 h4 h5)
theorem Own.cells {E : Elem P α} {w : World} {B : Nat} {v : Value} {l : List α} (h : Own E w B v l) (hne : 1 ≤ l.length) : ∃ g c, v = .slice (some ⟨g, 0, none⟩) l.length c ∧ B ≤ g ∧ g < w.heap.size ∧ CellsAt w g 0 (l.flatMap E.enc) := by
 have hc := fun g hg => World.ownsRow.cells (g := g) h hg
 have hlt := fun k hk => h.lt (k := k) hk
 obtain ⟨h1, h2⟩ := h
 rcases h2 with ⟨rfl, h0⟩ | ⟨g, cap, cur, rfl, hg, hh, hr⟩
 ·omega
 ·refine ⟨g, cap, rfl, hg, (hlt g rfl).2, fun j u hj => ?_⟩
  have := hc g rfl j u hj
  unfold Addr.add at this
  split at this
  ·subst j; exact this
  ·simpa using this
theorem ownsRow_set {w : World} {base : Nat} {e : TypeId} {size g n c : Nat} {xs : List Value} (h : w.ownsRow base e size (.slice (some ⟨g, 0, none⟩) n c) n xs) (m : Nat) (u : Value) :
  (w.setCell ⟨g, m, none⟩ u).ownsRow base e size (.slice (some ⟨g, 0, none⟩) n c) n (xs.set m u) := by
 obtain ⟨h1, h2⟩ := h
 refine ⟨by rw [List.length_set]; exact h1, ?_⟩
 rcases h2 with ⟨hc, _⟩ | ⟨g', cap, cur, hv, hbg, hg, hnc, hcm, hcs, htake⟩
 ·cases hc
 ·injection hv with q1 q2 q3
  injection q1 with q1
  injection q1 with q1
  subst q1 q3
  refine .inr ⟨g, c, cur.setIfInBounds m u, rfl, hbg, ?_, hnc, hcm, by simpa using hcs, ?_⟩
  ·simp only [World.setCell, Array.getElem?_modify, if_pos rfl, hg, Option.map]
   rfl
  ·rw [← htake]
   simp [List.take_set]
def Disj (hs : List Hd) : Prop := ∀ i j (hi : i < hs.length) (hj : j < hs.length), i ≠ j → ∀ k, hs[i].val.ownBlock = some k → hs[j].val.ownBlock ≠ some k
structure Fam (E : Elem P α) (HE : Elem P Hd) (w : World) (B : Nat) (X : Nat → Prop) (v : Value) (hs : List Hd) (ls : List (List α)) : Prop where
 own : Own HE w B v hs
 len : hs.length = ls.length
 each : ∀ j (h : j < hs.length) (h' : j < ls.length), Own E w B hs[j].val ls[j]
 apart : Disj hs
 row : ∀ k, v.ownBlock = some k → X k
 mem : ∀ j (h : j < hs.length) k, hs[j].val.ownBlock = some k → X k ∧ v.ownBlock ≠ some k
variable {E : Elem P α} {HE : Elem P Hd} {w w' : World} {B : Nat} {X : Nat → Prop} {v : Value} {hs : List Hd} {ls : List (List α)}
theorem Fam.nil (E : Elem P α) (HE : Elem P Hd) (w : World) (B : Nat) (X : Nat → Prop) : Fam E HE w B X (.slice none 0 0) [] [] :=
 ⟨Own.nil _ _ _, rfl, fun j hj _ => (by cases hj), fun i j hi _ _ => (by cases hi), fun k h => (by simp [Value.ownBlock] at h), fun j hj => (by cases hj)⟩
theorem Fam.fr {F : Nat → Prop} (h : Fam E HE w B X v hs ls) (hf : Fr F w w') (hX : ∀ k, X k → ¬ F k) : Fam E HE w' B X v hs ls :=
 ⟨h.own.fr hf (fun k hk => hX k (h.row k hk)), h.len, fun j hj hj' => (h.each j hj hj').fr hf (fun k hk => hX k (h.mem j hj k hk).1), h.apart, h.row, h.mem⟩
theorem Fam.slice (h : Fam E HE w B X v hs ls) : ∃ a c, v = .slice a ls.length c := by
 obtain ⟨a, c, hv, _⟩ := own_elems h.own
 exact ⟨a, c, by rw [hv, h.len]⟩
theorem Fam.head (h : Fam E HE w B X v hs ls) (hsz : HE.size = 1) (henc : ∀ x, HE.enc x = [x.val]) (j : Nat) (hj : j < ls.length) :
  ∃ g c, v = .slice (some ⟨g, 0, none⟩) ls.length c ∧ X g ∧ ∃ hj' : j < hs.length, w.cell? ⟨g, j, none⟩ = some hs[j].val ∧ Own E w B hs[j].val ls[j] := by
 obtain ⟨a, c, hv, hel⟩ := own_elems h.own
 have hj' : j < hs.length := by rw [h.len]; exact hj
 obtain ⟨b, h1, h2, h3⟩ := hel j hj'
 refine ⟨b, c, by rw [hv, h1, h.len], h.row b h2, hj', ?_, h.each j hj' hj⟩
 have := h3 0 hs[j].val (by rw [henc]; rfl)
 rw [hsz] at this
 simpa using this
theorem Fam.upd (h : Fam E HE w B X v hs ls) (i : Nat) (hi : i < hs.length) (l' : List α) (hf : Fr (fun k => hs[i].val.ownBlock = some k) w w') (ho : Own E w' B hs[i].val l') : Fam E HE w' B X v hs (ls.set i l') := by
 refine ⟨h.own.fr hf (fun k hk hk2 => (h.mem i hi k hk2).2 hk), by rw [List.length_set]; exact h.len, fun j hj hj' => ?_, h.apart, h.row, h.mem⟩
 by_cases hij : i = j
 ·subst hij; rw [List.getElem_set_self]; exact ho
 ·rw [List.getElem_set_ne hij]
  exact (h.each j hj (by simpa using hj')).fr hf (fun k hk hk2 => h.apart i j hi hj hij k hk2 hk)
end Go.Proofs.YtjcjhfnjamphlaaGreat
namespace Go.Proofs.YtjcjhfnjamphlaaGreat
open Go.ChangeShapes Go.WideShapes Go.ChangeAt Go.RowKit
instance : DecidableEq Ins := fun ⟨a, b, c, d⟩ ⟨a', b', c', d'⟩ => if h : a = a' ∧ b = b' ∧ c = c' ∧ d = d' then isTrue (by obtain ⟨rfl, rfl, rfl, rfl⟩ := h; rfl) else isFalse (fun e => h (by injection e with h1 h2 h3 h4; exact ⟨h1, h2, h3, h4⟩))
instance : DecidableEq Fun := fun ⟨a, b, c, d, x⟩ ⟨a', b', c', d', x'⟩ => if h : a = a' ∧ b = b' ∧ c = c' ∧ d = d' ∧ x = x' then isTrue (by obtain ⟨rfl, rfl, rfl, rfl, rfl⟩ := h; rfl) else isFalse (fun e => h (by injection e with h1 h2 h3 h4 h5; exact ⟨h1, h2, h3, h4, h5⟩))
theorem take_eq_step {α : Type} (l m : List α) (k : Nat) (h1 : k < l.length) (h2 : k < m.length) (h : l.take k = m.take k) (hx : l[k] = m[k]) : l.take (k + 1) = m.take (k + 1) := by
 rw [take_snoc l k h1, take_snoc m k h2, h, hx]
theorem ne_of_get {α : Type} (l m : List α) (k : Nat) (h1 : k < l.length) (h2 : k < m.length) (hx : l[k] ≠ m[k]) : l ≠ m := fun h => by subst h; exact hx rfl
set_option maxRecDepth 100000 in
set_option maxHeartbeats 1600000 in
theorem eq_ints (w : World) (D D' : Nat → Prop) (a a' : Option Addr) (l m : List Int) (c c' : Nat) (hl : IntSl w D a l) (hm : IntSl w D' a' m) (hn : l.length ≤ 1000000) (hn' : m.length ≤ 1000000) :
  Calls Tryz.prog 79 #[.slice a l.length c, .slice a' m.length c'] w fun e w' => e = .returned (.bool (decide (l = m))) ∧ ∃ n, w' = w.drewN n := by
 by_cases hlen : l.length = m.length
 case neg =>
  have h1 : ((l.length : Int) != (m.length : Int)) = true := by rw [bne_iff_ne]; omega
  have h2 : decide (l = m) = false := by simp; intro h; rw [h] at hlen; exact hlen rfl
  rw [h2]
  clear h2 hlen
  go_enter Tryz.func79, Tryz.ntmps79
  go_wp2_with fail
  go_ret
  exact ⟨rfl, 0, rfl⟩
 have h1 : ((l.length : Int) != (m.length : Int)) = false := by rw [bne_eq_false_iff_eq]; omega
 have HLEN := Lib.hid hlen; clear hlen
 have HL := Lib.hid hl; clear hl
 have HM := Lib.hid hm; clear hm
 go_enter Tryz.func79, Tryz.ntmps79
 go_wp2_with fail
 clear h1
 go_loopw [13] (fun i wr => ∃ k : Nat, k ≤ l.length ∧ i = .int .i64 k ∧ l.take k = m.take k ∧ ∃ n, wr = w.drewN n) (fun i _ => l.length - (intOf i).toNat)
 case atStart => exact ⟨0, Nat.zero_le _, rfl, rfl, 0, rfl⟩
 case round =>
  obtain ⟨k, hk, rfl, ht, n, hwr⟩ := hrel
  by_cases hlt : k < l.length
  ·have hlt2 : k < m.length := by have := HLEN.out; omega
   obtain ⟨b, o, rfl, _, hx⟩ := HL.out k hlt
   obtain ⟨b', o', rfl, _, hy⟩ := HM.out k hlt2
   have hx1 : wr.cell? ⟨b, o + k, none⟩ = some (.int .i64 l[k]) := by rw [hwr]; exact hx
   have hy1 : wr.cell? ⟨b', o' + k, none⟩ = some (.int .i64 m[k]) := by rw [hwr]; exact hy
   have hs := take_eq_step l m k hlt hlt2 ht
   have hne := ne_of_get l m k hlt hlt2
   clear hx hy ht
   generalize l[k] = x at *
   generalize m[k] = y at *
   have HS := Lib.hid hs; clear hs
   have HWR := Lib.hid hwr; clear hwr
   have HNE := Lib.hid hne; clear hne
   by_cases hxy : x = y
   ·subst hxy
    go_wp2_with fail
    go_quiet (fail)
    go_wp2_with fail
    go_roundw
    case rel => exact ⟨k + 1, by omega, by go_num, by first | exact HS.out rfl | exact HS.out trivial, by rw [HWR.out]; exact ⟨_, by first | rfl | (simp; rfl)⟩⟩
    case measure => simp [intOf]; omega
   ·have hb : (x != y) = true := by rw [bne_iff_ne]; exact hxy
    have hd : decide (l = m) = false := by simpa using HNE.out hxy
    have HD := Lib.hid hd; clear hd hxy
    go_wp2_with fail
    go_quiet (fail)
    go_wp2_with fail
    go_ret
    exact ⟨by rw [HD.out]; rfl, by rw [HWR.out]; exact ⟨_, by first | rfl | (simp; rfl)⟩⟩
  ·have hd : decide (l = m) = true := by
    have h := HLEN.out
    have hk2 : k = l.length := by omega
    rw [hk2, List.take_length, List.take_of_length_le (by omega)] at ht
    simpa using ht
   have HD := Lib.hid hd
   have HWR := Lib.hid hwr; clear hwr
   clear hd ht
   go_wp2_with fail
   go_ret
   exact ⟨by rw [HD.out]; rfl, by rw [HWR.out]; exact ⟨_, rfl⟩⟩
end Go.Proofs.YtjcjhfnjamphlaaGreat
namespace Go.Proofs.YtjcjhfnjamphlaaGreat
open Go.ChangeShapes Go.WideShapes Go.ChangeAt Go.RowKit
instance : DecidableEq Prg := fun ⟨a, b, c⟩ ⟨a', b', c'⟩ => if h : a = a' ∧ b = b' ∧ c = c' then isTrue (by obtain ⟨rfl, rfl, rfl⟩ := h; rfl) else isFalse (fun e => h (by injection e with h1 h2 h3; exact ⟨h1, h2, h3⟩))
def roomI (left : Int) : List Int → Int
 | [] => left
 | x :: l => if left < 0 ∨ left < x then -1 else roomI (left - x) l
def RoomPost (l : List Int) (left : Int) (w : World) (e : Ending) (w' : World) : Prop := e = .returned (.int .i64 (roomI left l)) ∧ w' = w
set_option maxRecDepth 100000 in
set_option maxHeartbeats 1600000 in
theorem room_any (w : World) (D : Nat → Prop) (a : Option Addr) (l : List Int) (c : Nat) (hl : IntSl w D a l) (left : Int) (h3 : left ≤ 3000) (h0 : -1 ≤ left) (hpos : ∀ x ∈ l, 0 ≤ x) (hn : l.length ≤ 1000) :
  Calls Tryz.prog 17 #[.int .i64 left, .slice a l.length c] w (RoomPost l left w) := by
 have HL := Lib.hid hl; clear hl
 have HPOS := Lib.hid hpos; clear hpos
 go_enter Tryz.func17, Tryz.ntmps17
 go_wp2_with fail
 go_loop [0, 5] (fun u i => ∃ (k : Nat) (L : Int), k ≤ l.length ∧ i = .int .i64 k ∧ u = .int .i64 L ∧ L ≤ 3000 ∧ -1 ≤ L ∧ roomI left l = roomI L (l.drop k)) (fun _ i => l.length - (intOf i).toNat)
 case atStart => exact ⟨0, left, Nat.zero_le _, rfl, rfl, h3, h0, by simp⟩
 case round =>
  obtain ⟨k, L, hk, rfl, rfl, hL3, hL0, hr⟩ := hrel
  by_cases hlt : k < l.length
  ·obtain ⟨b, o, rfl, _, hx⟩ := HL.out k hlt
   have hp := HPOS.out l[k] (List.getElem_mem hlt)
   have hd : l.drop k = l[k] :: l.drop (k + 1) := (List.getElem_cons_drop (h := hlt)).symm
   rw [hd] at hr
   generalize l[k] = x at *
   clear hd
   have hr' : roomI left l = if L < 0 ∨ L < x then -1 else roomI (L - x) (l.drop (k + 1)) := hr
   clear hr
   by_cases h1 : L < 0
   ·rw [if_pos (.inl h1)] at hr'
    have HP := Lib.hid (show RoomPost l left w (.returned (.int .i64 (-1))) w from ⟨by rw [hr'], rfl⟩)
    clear hr'
    go_wp2_with fail
    go_ret
    exact HP.out
   have h1' : decide (L < 0) = false := by simpa using h1
   by_cases h2 : L < x
   ·rw [if_pos (.inr h2)] at hr'
    have HP := Lib.hid (show RoomPost l left w (.returned (.int .i64 (-1))) w from ⟨by rw [hr'], rfl⟩)
    clear hr'
    go_wp2_with fail
    go_ret
    exact HP.out
   rw [if_neg (by omega)] at hr'
   have HR' := Lib.hid hr'; clear hr'
   go_wp2_with fail
   go_round
   case rel => exact ⟨k + 1, L - x, by omega, by go_num, rfl, by omega, by omega, HR'.out⟩
   case measure => simp [intOf]; omega
  ·have hk' : k = l.length := by omega
   rw [hk', List.drop_length] at hr
   have HP := Lib.hid (show RoomPost l left w (.returned (.int .i64 L)) w from ⟨by rw [hr]; rfl, rfl⟩)
   clear hr
   go_wp2_with fail
   go_ret
   exact HP.out
end Go.Proofs.YtjcjhfnjamphlaaGreat
namespace Go.Proofs.YtjcjhfnjamphlaaGreat
open Go.ChangeShapes Go.WideShapes Go.ChangeAt Go.RowKit
def rm (b : Nat) : Int := if b ≤ 3000 then 3000 - (b : Int) else -1
theorem rm_bd (b : Nat) : rm b ≤ 3000 ∧ -1 ≤ rm b := by unfold rm; split <;> omega
theorem rm_pos (b : Nat) : 0 ≤ rm b ↔ b ≤ 3000 := by unfold rm; split <;> omega
theorem room_rm (l : List Nat) : ∀ b, b ≤ 3000 → roomI (rm b) (l.map Int.ofNat) = rm (b + l.sum) := by
 induction l with
 | nil => intro b _; simp [roomI]
 | cons x l ih =>
  intro b hb
  have e : rm b = 3000 - (b : Int) := by unfold rm; rw [if_pos hb]
  rw [List.map_cons]
  unfold roomI
  rw [e]
  by_cases h : 3000 - (b : Int) < Int.ofNat x
  ·rw [if_pos (.inr h)]
   have : ¬ b + (x :: l).sum ≤ 3000 := by simp at *; omega
   unfold rm
   rw [if_neg this]
  ·rw [if_neg (by simp at *; omega)]
   have h2 : b + x ≤ 3000 := by simp at h; omega
   have h3 := ih (b + x) h2
   have e2 : rm (b + x) = 3000 - (b : Int) - Int.ofNat x := by unfold rm; rw [if_pos h2]; simp; omega
   rw [e2] at h3
   rw [h3, List.sum_cons, Nat.add_assoc]
theorem room_new (w : World) (g : Nat) (hg : g = w.heap.size) (l : List Nat) (hl : l.length ≤ 100) (b : Nat) (hb : b ≤ 3000) :
  Calls Tryz.prog 17 #[.int .i64 (rm b), .slice (some ⟨g, 0, none⟩) l.length l.length] (w.alloc (.cells ((l.map Int.ofNat).map (Value.int .i64)).toArray 3)) fun e w' => e = .returned (.int .i64 (rm (b + l.sum))) ∧ w' = w.alloc (.cells ((l.map Int.ofNat).map (Value.int .i64)).toArray 3) := by
 subst hg
 have h := room_any (w.alloc (.cells ((l.map Int.ofNat).map (Value.int .i64)).toArray 3)) _ _ (l.map Int.ofNat) l.length (int_new w (l.map Int.ofNat)) (rm b) (rm_bd b).1 (rm_bd b).2 (fun x hx => by
  obtain ⟨y, _, rfl⟩ := List.mem_map.1 hx
  exact Int.natCast_nonneg y) (by simp; omega)
 unfold RoomPost at h
 rw [room_rm l b hb, List.length_map] at h
 exact h
def shSum (p : Prg) (k : Nat) : Nat := p.globals.length + p.shapes.length + p.funcs.length + ((p.shapes.take k).map shBulk).sum
def fnSum (p : Prg) (k : Nat) : Nat := shSum p p.shapes.length + ((p.funcs.take k).map fnBulk).sum
theorem shSum_succ (p : Prg) (k : Nat) (hk : k < p.shapes.length) : shSum p (k + 1) = shSum p k + p.shapes[k].length := by
 unfold shSum; rw [take_snoc _ k hk, List.map_append, List.sum_append]; simp [shBulk]; try omega
theorem fnSum_succ (p : Prg) (k : Nat) (hk : k < p.funcs.length) : fnSum p (k + 1) = fnSum p k + (p.funcs[k].args.length + (p.funcs[k].objects.length + p.funcs[k].code.length)) := by
 unfold fnSum; rw [take_snoc _ k hk, List.map_append, List.sum_append]; simp [fnBulk]; try omega
theorem shSum_le (p : Prg) (k : Nat) : shSum p k ≤ bulk p := by
 unfold shSum bulk
 have : ((p.shapes.take k).map shBulk).sum ≤ (p.shapes.map shBulk).sum := by
  have h : (p.shapes.map shBulk).sum = ((p.shapes.take k).map shBulk).sum + ((p.shapes.drop k).map shBulk).sum := by
   rw [← List.sum_append, ← List.map_append, List.take_append_drop]
  omega
 omega
theorem fnSum_le (p : Prg) (k : Nat) : fnSum p k ≤ bulk p := by
 unfold fnSum shSum bulk
 rw [List.take_length]
 have : ((p.funcs.take k).map fnBulk).sum ≤ (p.funcs.map fnBulk).sum := by
  have h : (p.funcs.map fnBulk).sum = ((p.funcs.take k).map fnBulk).sum + ((p.funcs.drop k).map fnBulk).sum := by
   rw [← List.sum_append, ← List.map_append, List.take_append_drop]
  omega
 omega
theorem fnSum_all (p : Prg) : fnSum p p.funcs.length = bulk p := by
 unfold fnSum shSum bulk; rw [List.take_length, List.take_length]; try omega
theorem shSum_shapes (p : Prg) (k : Nat) (h : shSum p k ≤ 3000) : p.shapes.length ≤ 3000 ∧ p.funcs.length ≤ 3000 := by
 unfold shSum at h; omega
set_option maxRecDepth 100000 in
set_option maxHeartbeats 3200000 in
theorem small_any (w : World) (D : Nat → Prop) (pr : Prg) (c0 c1 c2 : Value) (hv : PrgVal w D pr c0 c1 c2) :
  Calls Tryz.prog 4 #[.agg #[c0, c1, c2]] w fun e w' => e = .returned (.bool (decide (bulk pr ≤ 3000))) ∧ Below w.heap.size w w' := by
 obtain ⟨⟨a0, n0, rfl, _⟩, ⟨a1, n1, rfl, hs1⟩, a2, n2, rfl, hs2⟩ := hv
 have r0 := fun w g hg => room_new w g hg [pr.globals.length, pr.shapes.length, pr.funcs.length] (by simp) 0 (by omega)
 have e0 : 0 + [pr.globals.length, pr.shapes.length, pr.funcs.length].sum = shSum pr 0 := by simp [shSum]; try omega
 rw [e0] at r0
 have hr0 : rm 0 = 3000 := rfl
 rw [hr0] at r0
 have m0 : (([pr.globals.length, pr.shapes.length, pr.funcs.length].map Int.ofNat).map (Value.int .i64)).toArray = #[.int .i64 pr.globals.length, .int .i64 pr.shapes.length, .int .i64 pr.funcs.length] := rfl
 rw [m0] at r0
 have r1 := fun (n : Nat) (w : World) b hb => room_new w _ rfl [n] (by simp) b hb
 have r3 := fun (n m l : Nat) (w : World) b hb => room_new w _ rfl [n, m, l] (by simp) b hb
 have HR0 := Lib.hid r0; have HR1 := Lib.hid r1; have HR3 := Lib.hid r3
 clear r0 r1 r3 e0 hr0 m0
 have hbx : ∀ wr, Below (w.heap.size + 1) (w.alloc (.cells #[.slice a0 pr.globals.length n0, .slice a1 pr.shapes.length n1, .slice a2 pr.funcs.length n2] 26)) wr → wr.cell? ⟨w.heap.size, 1, none⟩ = some (.slice a1 pr.shapes.length n1) ∧ wr.cell? ⟨w.heap.size, 2, none⟩ = some (.slice a2 pr.funcs.length n2) ∧ Below w.heap.size w wr := fun wr h =>
  ⟨by rw [h.cell (by simp)]; exact cell_new w _ _ _ 1, by rw [h.cell (by simp)]; exact cell_new w _ _ _ 2, ((Below.refl _ _).alloc (Nat.le_refl _) _).trans (h.mono (by simp))⟩
 have HBX := Lib.hid hbx; clear hbx
 have HS1 := Lib.hid hs1; clear hs1
 have HS2 := Lib.hid hs2; clear hs2
 go_enter Tryz.func4, Tryz.ntmps4
 go_wp2_with fail
 refine (HR0.out _ _ (by simp)).mono ?_
 rintro e w1 ⟨rfl, rfl⟩
 have bd0 := rm_bd (shSum pr 0)
 have hB0 : Below (w.heap.size + 1) (w.alloc (.cells #[.slice a0 pr.globals.length n0, .slice a1 pr.shapes.length n1, .slice a2 pr.funcs.length n2] 26)) ((w.alloc (.cells #[.slice a0 pr.globals.length n0, .slice a1 pr.shapes.length n1, .slice a2 pr.funcs.length n2] 26)).alloc (.cells #[.int .i64 pr.globals.length, .int .i64 pr.shapes.length, .int .i64 pr.funcs.length] 3)) := (Below.refl _ _).alloc (by simp) _
 have HB0 := Lib.hid hB0; clear hB0
 go_wp2_with fail
 go_loopw [3, 4] (fun u i wr => ∃ k : Nat, k ≤ pr.shapes.length ∧ i = .int .i64 k ∧ u = .int .i64 (rm (shSum pr k)) ∧ Below (w.heap.size + 1) (w.alloc (.cells #[.slice a0 pr.globals.length n0, .slice a1 pr.shapes.length n1, .slice a2 pr.funcs.length n2] 26)) wr) (fun _ i _ => pr.shapes.length - (intOf i).toNat)
 case atStart => exact ⟨0, Nat.zero_le _, rfl, rfl, HB0.out⟩
 case round =>
  obtain ⟨k, hk, rfl, rfl, hB⟩ := hrel
  obtain ⟨q1, q2, hbw⟩ := HBX.out wr hB
  have bd := rm_bd (shSum pr k)
  have hp := rm_pos (shSum pr k)
  by_cases hgo : k < pr.shapes.length ∧ shSum pr k ≤ 3000
  ·obtain ⟨hlt, hle⟩ := hgo
   have hpos : 0 ≤ rm (shSum pr k) := hp.2 hle
   obtain ⟨b, o, rfl, _, x1, x2, hx, _⟩ := HS1.out k hlt
   have hx := below_cell hbw hx
   have hc := HR1.out pr.shapes[k].length wr (shSum pr k) hle
   have hlen3 := shSum_shapes pr k hle
   have hsu : shSum pr k + [pr.shapes[k].length].sum = shSum pr (k + 1) := by rw [shSum_succ pr k hlt]; simp
   rw [hsu] at hc
   have bd2 := rm_bd (shSum pr (k + 1))
   generalize rm (shSum pr k) = r at *
   clear hle hsu hp hbw
   have hB2 := hB.alloc (by have := hB.size; simpa using this) (.cells #[.int .i64 pr.shapes[k].length] 3)
   have HC := Lib.hid hc; clear hc
   have HB2 := Lib.hid hB2; clear hB2
   clear hB
   go_wp2_with fail
   refine HC.out.mono ?_
   rintro e w3 ⟨rfl, rfl⟩
   go_wp2_with fail
   go_roundw
   case rel => exact ⟨k + 1, by omega, by go_num, rfl, HB2.out⟩
   case measure => simp [intOf]; omega
  ·have hX : ∃ X, X = shSum pr k ∧ (X = fnSum pr 0 ∨ 3000 < X) ∧ X ≤ bulk pr := by
    refine ⟨_, rfl, ?_, shSum_le pr k⟩
    by_cases h : shSum pr k ≤ 3000
    ·have hk2 : k = pr.shapes.length := by omega
     exact .inl (by rw [hk2]; simp [fnSum])
    ·exact .inr (by omega)
   obtain ⟨X, hXe, hX1, hX2⟩ := hX
   have hstop : ¬ (k < pr.shapes.length ∧ 0 ≤ rm X) := fun h => hgo ⟨h.1, by rw [← hXe]; exact (rm_pos X).1 h.2⟩
   rw [← hXe] at bd hp ⊢
   clear hgo hXe hp hbw
   have hX3 := rm_pos X
   generalize hr : rm X = r at *
   have HR := Lib.hid hr; clear hr
   have HX1 := Lib.hid hX1; clear hX1
   have HX2 := Lib.hid hX2; clear hX2
   have HX3 := Lib.hid hX3; clear hX3
   have HB := Lib.hid hB; clear hB
   have fin : ∀ wr2, Below (w.heap.size + 1) (w.alloc (.cells #[.slice a0 pr.globals.length n0, .slice a1 pr.shapes.length n1, .slice a2 pr.funcs.length n2] 26)) wr2 → ∀ j Y, (Y = fnSum pr j ∨ 3000 < Y) → Y ≤ bulk pr → ¬ (j < pr.funcs.length ∧ Y ≤ 3000) → j ≤ pr.funcs.length → decide (0 ≤ rm Y) = decide (bulk pr ≤ 3000) ∧ Below w.heap.size w wr2 := by
    intro wr2 hb2 j Y h1 h2 h3 h4
    refine ⟨?_, (HBX.out wr2 hb2).2.2⟩
    have h5 := rm_pos Y
    by_cases hY : Y ≤ 3000
    ·have hj : j = pr.funcs.length := by omega
     have hYe : Y = bulk pr := by
      rcases h1 with h1 | h1
      ·rw [h1, hj, fnSum_all]
      ·omega
     rw [hYe] at h5 hY ⊢
     simp [h5, hY]
    ·have : ¬ bulk pr ≤ 3000 := by omega
     simp [h5, hY, this]
   have FIN := Lib.hid fin; clear fin
   by_cases hlt : k < pr.shapes.length
   all_goals
    first | have hneg : r < 0 := (by omega) | skip
    clear hstop
    go_wp2_with fail
    go_loopw [3, 5] (fun u i wr => ∃ (j : Nat) (Y : Nat), j ≤ pr.funcs.length ∧ i = .int .i64 j ∧ u = .int .i64 (rm Y) ∧ (Y = fnSum pr j ∨ 3000 < Y) ∧ Y ≤ bulk pr ∧ Below (w.heap.size + 1) (w.alloc (.cells #[.slice a0 pr.globals.length n0, .slice a1 pr.shapes.length n1, .slice a2 pr.funcs.length n2] 26)) wr) (fun _ i _ => pr.funcs.length - (intOf i).toNat)
    case atStart => exact ⟨0, X, Nat.zero_le _, rfl, by rw [HR.out], HX1.out, HX2.out, HB.out⟩
    case round =>
     obtain ⟨j, Y, hj, rfl, rfl, hY1, hY2, hB2⟩ := hrel
     obtain ⟨_, t2, hbw⟩ := HBX.out _ hB2
     have bdY := rm_bd Y
     have hpY := rm_pos Y
     by_cases hgo : j < pr.funcs.length ∧ Y ≤ 3000
     ·obtain ⟨hlt2, hle⟩ := hgo
      have hYe : Y = fnSum pr j := by omega
      have hpos : 0 ≤ rm Y := hpY.2 hle
      obtain ⟨b, o, rfl, _, x0, x1, x2, x3, x4, p0, p1, p2, p3, p4, ⟨e1, e2, ⟨y0, z0, e3, _⟩, ⟨y3, z3, e4, _⟩, y4, z4, e5, _⟩⟩ := HS2.out j hlt2
      have p0 := below_cell hbw p0
      have p1 := below_cell hbw p1
      have p2 := below_cell hbw p2
      have p3 := below_cell hbw p3
      have p4 := below_cell hbw p4
      have hc := fun g hg => room_new (wr.alloc (.cells #[x0, x1, x2, x3, x4] 58)) g hg [pr.funcs[j].args.length, pr.funcs[j].objects.length, pr.funcs[j].code.length] (by simp) Y hle
      have hsu : Y + [pr.funcs[j].args.length, pr.funcs[j].objects.length, pr.funcs[j].code.length].sum = fnSum pr (j + 1) := by rw [fnSum_succ pr j hlt2, hYe]; simp
      rw [hsu] at hc
      have hle2 := fnSum_le pr (j + 1)
      have bd2 := rm_bd (fnSum pr (j + 1))
      have hB3 := (hB2.alloc (by have := hB2.size; simpa using this) (.cells #[x0, x1, x2, x3, x4] 58)).alloc (by have := hB2.size; simp at *; omega) (.cells #[.int .i64 pr.funcs[j].args.length, .int .i64 pr.funcs[j].objects.length, .int .i64 pr.funcs[j].code.length] 3)
      subst e1 e2 e3 e4 e5
      have hfl : pr.funcs.length ≤ 3000 := by
       have h1 : fnSum pr j ≤ 3000 := by omega
       unfold fnSum shSum at h1; omega
      clear hsu hpY hbw hB2 hY1 hY2 hYe hle
      generalize rm Y = y at *
      have HC := Lib.hid hc; clear hc
      have HB3 := Lib.hid hB3; clear hB3
      have HLE2 := Lib.hid hle2; clear hle2
      go_wp2_with fail
      refine (HC.out _ (by simp)).mono ?_
      rintro e w3 ⟨rfl, rfl⟩
      go_wp2_with fail
      go_roundw
      case rel => exact ⟨j + 1, fnSum pr (j + 1), by omega, by go_num, rfl, .inl rfl, HLE2.out, HB3.out⟩
      case measure => simp [intOf]; omega
     ·have hF := FIN.out _ hB2 j Y hY1 hY2 hgo hj
      have hstop : ¬ (j < pr.funcs.length ∧ 0 ≤ rm Y) := fun h => hgo ⟨h.1, hpY.1 h.2⟩
      clear hgo hpY hbw hY1 hY2 hB2
      generalize rm Y = y at *
      by_cases hlt2 : j < pr.funcs.length
      all_goals
       first | have hneg2 : y < 0 := (by omega) | skip
       clear hstop
       have HF := Lib.hid hF; clear hF
       by_cases hy : 0 ≤ y
       all_goals
        first
        | (exfalso; omega)
        | (go_wp2_with fail
           go_ret
           exact ⟨by rw [← HF.out.1]; simp [hy], HF.out.2⟩)
end Go.Proofs.YtjcjhfnjamphlaaGreat
