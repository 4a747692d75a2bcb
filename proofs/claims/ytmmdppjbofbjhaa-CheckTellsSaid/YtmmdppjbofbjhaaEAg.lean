/- New blocks that stay: what a call boxes first. Nothing of the program stands here. Families of lists that one owns, none of which lies in another's memory. Nothing of the program's text stands here. Walks: whether two programs are alike (package image). Walks: whether two programs are alike (package image): shapes, functions, programs. -/
import Derived.Test.YtmmdppjbofbjhaaEAd
import Derived.Test.YtmmdppjbofbjhaaEAf
namespace Go.Proofs.Ytmmdppjbofbjhaa
open Go.RowKit

theorem box1 (w : World) (cs : Array Value) (t : TypeId) (wr : World) (h : Below (w.heap.size + 1) (w.alloc (.cells cs t)) wr) :
    (∀ j u, cs[j]? = some u → wr.cell? ⟨w.heap.size, j, none⟩ = some u) ∧ Below w.heap.size w wr ∧ w.heap.size + 1 ≤ wr.heap.size := by
  refine ⟨fun j u hj => ?_, ((Below.refl _ _).alloc (Nat.le_refl _) _).trans (h.mono (by simp)), by have := h.size; simpa using this⟩
  rw [h.cell (by simp), cell_new]; exact hj
theorem box2 (w : World) (cs cs' : Array Value) (t t' : TypeId) (wr : World) (h : Below (w.heap.size + 2) ((w.alloc (.cells cs t)).alloc (.cells cs' t')) wr) :
    (∀ j u, cs[j]? = some u → wr.cell? ⟨w.heap.size, j, none⟩ = some u) ∧ (∀ j u, cs'[j]? = some u → wr.cell? ⟨w.heap.size + 1, j, none⟩ = some u) ∧ Below w.heap.size w wr ∧ w.heap.size + 2 ≤ wr.heap.size := by
  refine ⟨fun j u hj => ?_, fun j u hj => ?_, (((Below.refl _ _).alloc (Nat.le_refl _) _).alloc (by simp) _).trans (h.mono (by simp)), by have := h.size; simpa using this⟩
  · rw [h.cell (by simp), cell_under _ _ (by simp), cell_new]; exact hj
  · rw [h.cell (by simp)]
    have := cell_new (w.alloc (.cells cs t)) cs' t' (0, 0) j
    rw [show (w.alloc (.cells cs t)).heap.size = w.heap.size + 1 from by simp] at this
    rw [this]; exact hj
theorem new2 (w : World) (cs cs' : Array Value) (t t' : TypeId) : (∀ j u, cs[j]? = some u → (((w.alloc (.cells cs t)).alloc (.cells cs' t')).drew).cell? ⟨w.heap.size, j, none⟩ = some u) ∧
    (∀ j u, cs'[j]? = some u → (((w.alloc (.cells cs t)).alloc (.cells cs' t')).drew).cell? ⟨w.heap.size + 1, j, none⟩ = some u) ∧ Below w.heap.size w (((w.alloc (.cells cs t)).alloc (.cells cs' t')).drew) :=
  have h := box2 w cs cs' t t' _ (Below.refl _ _)
  ⟨h.1, h.2.1, h.2.2.1.drew⟩
theorem Below.ofDrew {W W' : World} (h : ∃ n, W' = W.drewN n) : Below W.heap.size W W' := by
  obtain ⟨n, rfl⟩ := h
  exact below_drewN (Below.refl _ _) n
/-- a call that only reads, told as one that leaves what was there -/
theorem Calls.drawn {P : Program} {f : FuncId} {args : Array Value} {w : World} {v : Value} (h : Calls P f args w fun e w' => e = .returned v ∧ ∃ n, w' = w.drewN n) : Calls P f args w fun e w' => e = .returned v ∧ Below w.heap.size w w' :=
  h.mono fun _ _ ⟨he, hn⟩ => ⟨he, Below.ofDrew hn⟩
/-- what was there below a call's world, and its size -/
theorem bcell {W w1 : World} (hb : Below W.heap.size W w1) : (∀ b o, b < W.heap.size → w1.cell? ⟨b, o, none⟩ = W.cell? ⟨b, o, none⟩) ∧ (∀ b o, b < W.heap.size → w1.frozen? ⟨b, o, none⟩ = W.frozen? ⟨b, o, none⟩) ∧ W.heap.size ≤ w1.heap.size :=
  ⟨fun b o h => hb.cell (p := ⟨b, o, none⟩) h, fun b o h => hb.frozen (p := ⟨b, o, none⟩) h, hb.size⟩

/-- a new row that one owns -/
theorem own_new {P : Program} {α : Type} (E : Elem P α) (w : World) (l : List α) (cs : Array Value) (h : cs.toList = l.flatMap E.enc) (hl : l.length ≤ maxLen) : Own E (w.alloc (.cells cs E.e)) w.heap.size (.slice (some ⟨w.heap.size, 0, none⟩) l.length l.length) l := by
  refine ⟨E.len l, .inr ⟨w.heap.size, l.length, cs, rfl, Nat.le_refl _, heap_new w _, Nat.le_refl _, hl, ?_, ?_⟩⟩
  · rw [← E.len l, ← h]; simp
  · rw [h, List.take_of_length_le]; rw [E.len l]; exact Nat.le_refl _
end Go.Proofs.Ytmmdppjbofbjhaa
namespace Go.Proofs.Ytmmdppjbofbjhaa
open Go.RowKit

variable {P : Program} {α : Type}
/-- an append onto one's own, told with what the elder slice still is -/
theorem run_append_keep (E : Elem P α) (w : World) (ty : TypeId) (B : Nat) (l m : List α) (v : Value) (hown : Own E w B v l) (b of c : Nat)
    (hm : CellsAt w b of (m.flatMap E.enc)) (hlen : l.length + m.length ≤ 100000000) (hB : B ≤ w.heap.size) :
    ∃ v' w', (Builtin.append_ #[E.t, E.t] ty #[v, .slice (some ⟨b, of, none⟩) m.length c]).run P w = .ok v' w' ∧ Own E w' B v' (l ++ m) ∧ w.grownBy w' v.ownBlock ∧ Fresh w v v' ∧ Own E w' B v l := by
  obtain ⟨v', w', hr, h2, h3, h4⟩ := run_append_fresh E w ty B l m v hown b of c hm hlen hB
  refine ⟨v', w', hr, h2, h3, h4, ?_⟩
  obtain ⟨i0, hi, hz0, hz1, hz2⟩ := info_parts E.info
  have hnews : ∀ j u, (m.flatMap E.enc)[j]? = some u → w.cell? ((⟨b, of, none⟩ : Addr).add j) = some u := by
    intro j u hj
    have := hm j u hj
    unfold Addr.add
    by_cases h0 : j = 0
    · subst h0; rw [if_pos rfl]; exact this
    · rw [if_neg h0]; exact this
  have h1 : ∀ u ∈ m.flatMap E.enc, u.oneCell' = true := by
    intro u hu
    obtain ⟨y, _, hy⟩ := List.mem_flatMap.1 hu
    exact E.hone y u hy
  have hby : (l.length + m.length) * E.bytes ≤ 140737488355328 := by
    have h1 := E.hby
    have h2 : (l.length + m.length) * E.bytes ≤ 100000000 * 1000 := Nat.mul_le_mul hlen h1
    omega
  have hown0 := hown
  obtain ⟨hxl, hrow⟩ := hown
  refine ⟨hxl, ?_⟩
  rcases hrow with hnil | ⟨g, cap, cur, rfl, hbg, hg, hnc, hcm, hcs, htake⟩
  · exact .inl hnil
  · right
    by_cases hroom : l.length + m.length ≤ cap
    · have hfit : l.length * i0.size + (m.flatMap E.enc).length ≤ cur.size := by rw [E.len m, hcs, hz1, ← Nat.add_mul]; exact Nat.mul_le_mul_right _ hroom
      have hr2 := run_append_room (P := P) w E.t ty E.e i0 E.ht hi g l.length cap cur hg ⟨b, of, none⟩ m.length c (m.flatMap E.enc) (by rw [hz1]; exact E.len m) hnews h1 hroom hfit
      rw [hr] at hr2
      injection hr2 with e1 e2
      subst e1
      obtain ⟨_, hrow2⟩ := h2
      rcases hrow2 with ⟨hc, _⟩ | ⟨g2, cap2, cur2, hv2, hbg2, hg2, hnc2, hcm2, hcs2, htake2⟩
      · cases hc
      · injection hv2 with q1 q2 q3
        injection q1 with q1
        injection q1 with q1
        subst q1 q3
        refine ⟨g, cap, cur2, rfl, hbg, hg2, hnc, hcm, hcs2, ?_⟩
        have : (cur2.toList.take ((l ++ m).length * E.size)).take (l.length * E.size) = l.flatMap E.enc := by
          rw [htake2, List.flatMap_append, List.take_append_of_le_length (by rw [E.len l]; exact Nat.le_refl _), List.take_of_length_le (by rw [E.len l]; exact Nat.le_refl _)]
        rw [List.take_take] at this
        rw [← this]
        congr 1
        rw [Nat.min_eq_left]
        exact Nat.mul_le_mul_right _ (by simp)
    · have holds : ∀ j u, (l.flatMap E.enc)[j]? = some u → w.cell? ((⟨g, 0, none⟩ : Addr).add j) = some u := World.ownsRow.cells (g := g) hown0 rfl
      have hr2 := run_append_grow (P := P) w E.t ty E.e i0 E.zero E.ht hi hz0 ⟨g, 0, none⟩ l.length cap (l.flatMap E.enc) (by rw [hz1]; exact E.len l) holds ⟨b, of, none⟩ m.length c (m.flatMap E.enc) (by rw [hz1]; exact E.len m) hnews (by omega) (by omega) (growslice_fits (by omega) (by rw [hz2]; exact hby))
      rw [hr] at hr2
      injection hr2 with e1 e2
      refine ⟨g, cap, cur, rfl, hbg, ?_, hnc, hcm, hcs, htake⟩
      rw [e2, Below.heap_alloc _ _ _ (heap_lt (w := w.drew) hg)]
      exact hg
/-- as an operation -/
theorem append_keep (E : Elem P α) {ops : Array Oper} {rest : List Oper} {o : Oper} {a : Act} {Q : Exit → Act → World → Prop} {w : World} (hgd : o.guard = none) (s x : Operand)
    (ho : o.op = .call { callee := .builtin .append, args := #[s, x], argTypes := #[E.t, E.t] })
    (B : Nat) (l m : List α) (v : Value) (hs : a.eval s = v) (hown : Own E w B v l) (b of c : Nat) (hx : a.eval x = .slice (some ⟨b, of, none⟩) m.length c)
    (hm : CellsAt w b of (m.flatMap E.enc)) (hlen : l.length + m.length ≤ 100000000) (hB : B ≤ w.heap.size)
    (h : ∀ v' w', Own E w' B v' (l ++ m) → w.grownBy w' v.ownBlock → Fresh w v v' → Own E w' B v l → wpList P ops Q rest (a.put o.dst v') w') : wpList P ops Q (o :: rest) a w :=
  wpList_plain hgd fun _ hK => by
    obtain ⟨v', w', hr, h2, h3, h4, h5⟩ := run_append_keep E w o.type B l m v hown b of c hm hlen hB
    unfold Oper.wp execOp
    simp only [ho, resolve, invoke, builtin, Sem.run_bind, Sem.run_pure, Result.andThen_ok, List.map_toArray, List.map_cons, List.map_nil, hs, hx, hr]
    exact hK _ _ (h v' w' h2 h3 h4 h5)
/-- one's own elements, as cells -/
theorem Own.cells {E : Elem P α} {w : World} {B : Nat} {v : Value} {l : List α} (h : Own E w B v l) (hne : 1 ≤ l.length) : ∃ g c, v = .slice (some ⟨g, 0, none⟩) l.length c ∧ B ≤ g ∧ g < w.heap.size ∧ CellsAt w g 0 (l.flatMap E.enc) := by
  have hc := fun g hg => World.ownsRow.cells (g := g) h hg
  have hlt := fun k hk => h.lt (k := k) hk
  obtain ⟨h1, h2⟩ := h
  rcases h2 with ⟨rfl, h0⟩ | ⟨g, cap, cur, rfl, hg, hh, hr⟩
  · omega
  · refine ⟨g, cap, rfl, hg, (hlt g rfl).2, fun j u hj => ?_⟩
    have := hc g rfl j u hj
    unfold Addr.add at this
    split at this
    · subst j; exact this
    · simpa using this
/-- a cell of one's own is set -/
theorem ownsRow_set {w : World} {base : Nat} {e : TypeId} {size g n c : Nat} {xs : List Value} (h : w.ownsRow base e size (.slice (some ⟨g, 0, none⟩) n c) n xs) (m : Nat) (u : Value) :
    (w.setCell ⟨g, m, none⟩ u).ownsRow base e size (.slice (some ⟨g, 0, none⟩) n c) n (xs.set m u) := by
  obtain ⟨h1, h2⟩ := h
  refine ⟨by rw [List.length_set]; exact h1, ?_⟩
  rcases h2 with ⟨hc, _⟩ | ⟨g', cap, cur, hv, hbg, hg, hnc, hcm, hcs, htake⟩
  · cases hc
  · injection hv with q1 q2 q3
    injection q1 with q1
    injection q1 with q1
    subst q1 q3
    refine .inr ⟨g, c, cur.setIfInBounds m u, rfl, hbg, ?_, hnc, hcm, by simpa using hcs, ?_⟩
    · simp only [World.setCell, Array.getElem?_modify, if_pos rfl, hg, Option.map]
      rfl
    · rw [← htake]
      simp [List.take_set]
def Disj (hs : List Hd) : Prop := ∀ i j (hi : i < hs.length) (hj : j < hs.length), i ≠ j → ∀ k, hs[i].val.ownBlock = some k → hs[j].val.ownBlock ≠ some k
/-- the lists ls lie at the heads hs, in the slice v; all of it in the blocks X -/
structure Fam (E : Elem P α) (HE : Elem P Hd) (w : World) (B : Nat) (X : Nat → Prop) (v : Value) (hs : List Hd) (ls : List (List α)) : Prop where
  own : Own HE w B v hs
  len : hs.length = ls.length
  each : ∀ j (h : j < hs.length) (h' : j < ls.length), Own E w B hs[j].val ls[j]
  apart : Disj hs
  row : ∀ k, v.ownBlock = some k → X k
  mem : ∀ j (h : j < hs.length) k, hs[j].val.ownBlock = some k → X k ∧ v.ownBlock ≠ some k
variable {E : Elem P α} {HE : Elem P Hd} {w w' : World} {B : Nat} {X : Nat → Prop} {v : Value} {hs : List Hd} {ls : List (List α)}
theorem Fam.nil (E : Elem P α) (HE : Elem P Hd) (w : World) (B : Nat) (X : Nat → Prop) : Fam E HE w B X (.slice none 0 0) [] [] :=
  ⟨Own.nil _ _ _, rfl, fun j hj _ => (by cases hj), fun i j hi _ _ => (by cases hi), fun k h => (by simp [Value.ownBlock] at h), fun j hj => (by cases hj)⟩
theorem Fam.fr {F : Nat → Prop} (h : Fam E HE w B X v hs ls) (hf : Fr F w w') (hX : ∀ k, X k → ¬ F k) : Fam E HE w' B X v hs ls :=
  ⟨h.own.fr hf (fun k hk => hX k (h.row k hk)), h.len, fun j hj hj' => (h.each j hj hj').fr hf (fun k hk => hX k (h.mem j hj k hk).1), h.apart, h.row, h.mem⟩
theorem Fam.slice (h : Fam E HE w B X v hs ls) : ∃ a c, v = .slice a ls.length c := by
  obtain ⟨a, c, hv, _⟩ := own_elems h.own
  exact ⟨a, c, by rw [hv, h.len]⟩
/-- head j, as it lies -/
theorem Fam.head (h : Fam E HE w B X v hs ls) (hsz : HE.size = 1) (henc : ∀ x, HE.enc x = [x.val]) (j : Nat) (hj : j < ls.length) :
    ∃ g c, v = .slice (some ⟨g, 0, none⟩) ls.length c ∧ X g ∧ ∃ hj' : j < hs.length, w.cell? ⟨g, j, none⟩ = some hs[j].val ∧ Own E w B hs[j].val ls[j] := by
  obtain ⟨a, c, hv, hel⟩ := own_elems h.own
  have hj' : j < hs.length := by rw [h.len]; exact hj
  obtain ⟨b, h1, h2, h3⟩ := hel j hj'
  refine ⟨b, c, by rw [hv, h1, h.len], h.row b h2, hj', ?_, h.each j hj' hj⟩
  have := h3 0 hs[j].val (by rw [henc]; rfl)
  rw [hsz] at this
  simpa using this
/-- list i is another one -/
theorem Fam.upd (h : Fam E HE w B X v hs ls) (i : Nat) (hi : i < hs.length) (l' : List α) (hf : Fr (fun k => hs[i].val.ownBlock = some k) w w') (ho : Own E w' B hs[i].val l') : Fam E HE w' B X v hs (ls.set i l') := by
  refine ⟨h.own.fr hf (fun k hk hk2 => (h.mem i hi k hk2).2 hk), by rw [List.length_set]; exact h.len, fun j hj hj' => ?_, h.apart, h.row, h.mem⟩
  by_cases hij : i = j
  · subst hij; rw [List.getElem_set_self]; exact ho
  · rw [List.getElem_set_ne hij]
    exact (h.each j hj (by simpa using hj')).fr hf (fun k hk hk2 => h.apart i j hi hj hij k hk2 hk)
end Go.Proofs.Ytmmdppjbofbjhaa
namespace Go.Proofs.Ytmmdppjbofbjhaa
open Go.ChangeShapes Go.WideShapes Go.ChangeAt Go.RowKit

instance : DecidableEq Ins := fun ⟨a, b, c, d⟩ ⟨a', b', c', d'⟩ => if h : a = a' ∧ b = b' ∧ c = c' ∧ d = d' then isTrue (by obtain ⟨rfl, rfl, rfl, rfl⟩ := h; rfl) else isFalse (fun e => h (by injection e with h1 h2 h3 h4; exact ⟨h1, h2, h3, h4⟩))
instance : DecidableEq Fun := fun ⟨a, b, c, d, x⟩ ⟨a', b', c', d', x'⟩ => if h : a = a' ∧ b = b' ∧ c = c' ∧ d = d' ∧ x = x' then isTrue (by obtain ⟨rfl, rfl, rfl, rfl, rfl⟩ := h; rfl) else isFalse (fun e => h (by injection e with h1 h2 h3 h4 h5; exact ⟨h1, h2, h3, h4, h5⟩))
theorem fun_eq (f g : Fun) : decide (f = g) = (decide (f.args = g.args) && (f.result == g.result) && (f.slots == g.slots) && decide (f.objects = g.objects) && decide (f.code = g.code)) := by
  obtain ⟨a, b, c, d, x⟩ := f
  obtain ⟨a', b', c', d', x'⟩ := g
  rw [Bool.eq_iff_iff]
  simp [and_assoc]
theorem take_eq_step {α : Type} (l m : List α) (k : Nat) (h1 : k < l.length) (h2 : k < m.length) (h : l.take k = m.take k) (hx : l[k] = m[k]) : l.take (k + 1) = m.take (k + 1) := by
  rw [take_snoc l k h1, take_snoc m k h2, h, hx]
theorem ne_of_get {α : Type} (l m : List α) (k : Nat) (h1 : k < l.length) (h2 : k < m.length) (hx : l[k] ≠ m[k]) : l ≠ m := fun h => by subst h; exact hx rfl

set_option maxRecDepth 100000 in
set_option maxHeartbeats 1600000 in
theorem eq_ints (w : World) (D D' : Nat → Prop) (a a' : Option Addr) (l m : List Int) (c c' : Nat) (hl : IntSl w D a l) (hm : IntSl w D' a' m) (hn : l.length ≤ 1000000) (hn' : m.length ≤ 1000000) :
    Calls Try.prog 124 #[.slice a l.length c, .slice a' m.length c'] w fun e w' => e = .returned (.bool (decide (l = m))) ∧ ∃ n, w' = w.drewN n := by
  by_cases hlen : l.length = m.length
  case neg =>
    have h1 : ((l.length : Int) != (m.length : Int)) = true := by rw [bne_iff_ne]; omega
    have h2 : decide (l = m) = false := by simp; intro h; rw [h] at hlen; exact hlen rfl
    rw [h2]
    clear h2 hlen
    go_enter Try.func124, Try.ntmps124
    go_wp2_with fail
    go_ret
    exact ⟨rfl, 0, rfl⟩
  have h1 : ((l.length : Int) != (m.length : Int)) = false := by rw [bne_eq_false_iff_eq]; omega
  have HLEN := Lib.hid hlen; clear hlen
  have HL := Lib.hid hl; clear hl
  have HM := Lib.hid hm; clear hm
  go_enter Try.func124, Try.ntmps124
  go_wp2_with fail
  clear h1
  go_loopw [13] (fun i wr => ∃ k : Nat, k ≤ l.length ∧ i = .int .i64 k ∧ l.take k = m.take k ∧ ∃ n, wr = w.drewN n) (fun i _ => l.length - (intOf i).toNat)
  case atStart => exact ⟨0, Nat.zero_le _, rfl, rfl, 0, rfl⟩
  case round =>
    obtain ⟨k, hk, rfl, ht, n, hwr⟩ := hrel
    by_cases hlt : k < l.length
    · have hlt2 : k < m.length := by have := HLEN.out; omega
      obtain ⟨b, o, rfl, _, hx⟩ := HL.out k hlt
      obtain ⟨b', o', rfl, _, hy⟩ := HM.out k hlt2
      have hx1 : wr.cell? ⟨b, o + k, none⟩ = some (.int .i64 l[k]) := by rw [hwr]; exact hx
      have hy1 : wr.cell? ⟨b', o' + k, none⟩ = some (.int .i64 m[k]) := by rw [hwr]; exact hy
      have hs := take_eq_step l m k hlt hlt2 ht
      have hne := ne_of_get l m k hlt hlt2
      clear hx hy ht
      generalize l[k] = x at *
      generalize m[k] = y at *
      have HS := Lib.hid hs; clear hs
      have HWR := Lib.hid hwr; clear hwr
      have HNE := Lib.hid hne; clear hne
      by_cases hxy : x = y
      · subst hxy
        go_wp2_with fail
        go_quiet (fail)
        go_wp2_with fail
        go_roundw
        case rel => exact ⟨k + 1, by omega, by go_num, by first | exact HS.out rfl | exact HS.out trivial, by rw [HWR.out]; exact ⟨_, by first | rfl | (simp; rfl)⟩⟩
        case measure => simp [intOf]; omega
      · have hb : (x != y) = true := by rw [bne_iff_ne]; exact hxy
        have hd : decide (l = m) = false := by simpa using HNE.out hxy
        have HD := Lib.hid hd; clear hd hxy
        go_wp2_with fail
        go_quiet (fail)
        go_wp2_with fail
        go_ret
        exact ⟨by rw [HD.out]; rfl, by rw [HWR.out]; exact ⟨_, by first | rfl | (simp; rfl)⟩⟩
    · have hd : decide (l = m) = true := by
        have h := HLEN.out
        have hk2 : k = l.length := by omega
        rw [hk2, List.take_length, List.take_of_length_le (by omega)] at ht
        simpa using ht
      have HD := Lib.hid hd
      have HWR := Lib.hid hwr; clear hwr
      clear hd ht
      go_wp2_with fail
      go_ret
      exact ⟨by rw [HD.out]; rfl, by rw [HWR.out]; exact ⟨_, rfl⟩⟩
set_option maxRecDepth 100000 in
set_option maxHeartbeats 1600000 in
theorem eq_instrs (w : World) (D D' : Nat → Prop) (a a' : Option Addr) (l m : List Ins) (c c' : Nat) (hl : InsSlD w D a l) (hm : InsSlD w D' a' m) (hn : l.length ≤ 1000000) (hn' : m.length ≤ 1000000) :
    Calls Try.prog 160 #[.slice a l.length c, .slice a' m.length c'] w fun e w' => e = .returned (.bool (decide (l = m))) ∧ ∃ n, w' = w.drewN n := by
  by_cases hlen : l.length = m.length
  case neg =>
    have h1 : ((l.length : Int) != (m.length : Int)) = true := by rw [bne_iff_ne]; omega
    have h2 : decide (l = m) = false := by simp; intro h; rw [h] at hlen; exact hlen rfl
    rw [h2]
    clear h2 hlen
    go_enter Try.func160, Try.ntmps160
    go_wp2_with fail
    go_ret
    exact ⟨rfl, 0, rfl⟩
  have h1 : ((l.length : Int) != (m.length : Int)) = false := by rw [bne_eq_false_iff_eq]; omega
  have HLEN := Lib.hid hlen; clear hlen
  have HL := Lib.hid hl; clear hl
  have HM := Lib.hid hm; clear hm
  go_enter Try.func160, Try.ntmps160
  go_wp2_with fail
  clear h1
  go_loopw [13] (fun i wr => ∃ k : Nat, k ≤ l.length ∧ i = .int .i64 k ∧ l.take k = m.take k ∧ ∃ n, wr = w.drewN n) (fun i _ => l.length - (intOf i).toNat)
  case atStart => exact ⟨0, Nat.zero_le _, rfl, rfl, 0, rfl⟩
  case round =>
    obtain ⟨k, hk, rfl, ht, n, hwr⟩ := hrel
    by_cases hlt : k < l.length
    · have hlt2 : k < m.length := by have := HLEN.out; omega
      obtain ⟨b, o, rfl, _, hx⟩ := HL.out k hlt
      obtain ⟨b', o', rfl, _, hy⟩ := HM.out k hlt2
      obtain ⟨p0, p1, p2, p3⟩ : InsAt wr b (o + k * 4) l[k] := by rw [hwr]; exact hx
      obtain ⟨r0, r1, r2, r3⟩ : InsAt wr b' (o' + k * 4) m[k] := by rw [hwr]; exact hy
      have hs := take_eq_step l m k hlt hlt2 ht
      have hne := ne_of_get l m k hlt hlt2
      clear hx hy ht
      generalize l[k] = x at *
      generalize m[k] = y at *
      have HS := Lib.hid hs; clear hs
      have HWR := Lib.hid hwr; clear hwr
      have HNE := Lib.hid hne; clear hne
      by_cases hxy : x = y
      · subst hxy
        go_wp2_with fail
        go_quiet (fail)
        go_wp2_with fail
        go_roundw
        case rel => exact ⟨k + 1, by omega, by go_num, by first | exact HS.out rfl | exact HS.out trivial, by rw [HWR.out]; exact ⟨_, by first | rfl | (simp; rfl)⟩⟩
        case measure => simp [intOf]; omega
      · have hd : decide (l = m) = false := by simpa using HNE.out hxy
        have HD := Lib.hid hd
        clear hd
        obtain ⟨x0, x1, x2, x3⟩ := x
        obtain ⟨y0, y1, y2, y3⟩ := y
        dsimp only at p0 p1 p2 p3 r0 r1 r2 r3
        clear HNE HS
        by_cases e0 : x0 = y0
        case neg =>
          have d0 : (x0 == y0) = false := by simpa using e0
          clear e0 hxy
          go_wp2_with fail
          go_quiet (fail)
          go_wp2_with fail
          go_ret
          exact ⟨by rw [HD.out]; rfl, by rw [HWR.out]; exact ⟨_, by first | rfl | (simp; rfl)⟩⟩
        subst e0
        by_cases e1 : x1 = y1
        case neg =>
          have d1 : (x1 == y1) = false := by simpa using e1
          clear e1 hxy
          go_wp2_with fail
          go_quiet (fail)
          go_wp2_with fail
          go_ret
          exact ⟨by rw [HD.out]; rfl, by rw [HWR.out]; exact ⟨_, by first | rfl | (simp; rfl)⟩⟩
        subst e1
        by_cases e2 : x2 = y2
        case neg =>
          have d2 : (x2 == y2) = false := by simpa using e2
          clear e2 hxy
          go_wp2_with fail
          go_quiet (fail)
          go_wp2_with fail
          go_ret
          exact ⟨by rw [HD.out]; rfl, by rw [HWR.out]; exact ⟨_, by first | rfl | (simp; rfl)⟩⟩
        subst e2
        by_cases e3 : x3 = y3
        case neg =>
          have d3 : (x3 == y3) = false := by simpa using e3
          clear e3 hxy
          go_wp2_with fail
          go_quiet (fail)
          go_wp2_with fail
          go_ret
          exact ⟨by rw [HD.out]; rfl, by rw [HWR.out]; exact ⟨_, by first | rfl | (simp; rfl)⟩⟩
        exact absurd (by rw [e3]) hxy
    · have hd : decide (l = m) = true := by
        have h := HLEN.out
        have hk2 : k = l.length := by omega
        rw [hk2, List.take_length, List.take_of_length_le (by omega)] at ht
        simpa using ht
      have HD := Lib.hid hd
      have HWR := Lib.hid hwr; clear hwr
      clear hd ht
      go_wp2_with fail
      go_ret
      exact ⟨by rw [HD.out]; rfl, by rw [HWR.out]; exact ⟨_, rfl⟩⟩
end Go.Proofs.Ytmmdppjbofbjhaa
namespace Go.Proofs.Ytmmdppjbofbjhaa
open Go.ChangeShapes Go.WideShapes Go.ChangeAt Go.RowKit

set_option maxRecDepth 100000 in
set_option maxHeartbeats 1600000 in
theorem same_shape (w : World) (D D' : Nat → Prop) (a a' : Option Addr) (l m : List Int) (c c' : Nat) (hl : IntSl w D a l) (hm : IntSl w D' a' m) (hn : l.length ≤ 1000000) (hn' : m.length ≤ 1000000) :
    Calls Try.prog 126 #[.agg #[.slice a l.length c], .agg #[.slice a' m.length c']] w fun e w' => e = .returned (.bool (decide (l = m))) ∧ Below w.heap.size w w' := by
  have hf : Fr (fun _ => False) w ((w.alloc (.cells #[.slice a l.length c] 84)).alloc (.cells #[.slice a' m.length c'] 84)) := ((Fr.refl _ _).alloc _).alloc _
  have he := eq_ints _ D D' a a' l m c c' (hl.fr hf (fun _ _ h => h)) (hm.fr hf (fun _ _ h => h)) hn hn'
  have hb : Below w.heap.size w ((w.alloc (.cells #[.slice a l.length c] 84)).alloc (.cells #[.slice a' m.length c'] 84)) := ((Below.refl _ _).alloc (Nat.le_refl _) _).alloc (by simp) _
  clear hl hm hf hn hn'
  have HE := Lib.hid he; clear he
  have HB := Lib.hid hb; clear hb
  go_enter Try.func126, Try.ntmps126
  go_wp2_with fail
  refine HE.out.mono ?_
  rintro e w1 ⟨rfl, n, rfl⟩
  go_wp2_with fail
  go_ret
  exact ⟨rfl, below_drewN HB.out n⟩

def FvVal (c0 c1 c2 c3 c4 : Value) : Value := .agg #[c0, c1, c2, c3, c4]
set_option maxRecDepth 100000 in
set_option maxHeartbeats 3200000 in
theorem alike_any (w : World) (D D' : Nat → Prop) (f g : Fun) (c0 c1 c2 c3 c4 d0 d1 d2 d3 d4 : Value) (hf : FunVal w D f c0 c1 c2 c3 c4) (hg : FunVal w D' g d0 d1 d2 d3 d4) (hnf : fnBulk f ≤ 1000000) (hng : fnBulk g ≤ 1000000) :
    Calls Try.prog 128 #[.agg #[c0, c1, c2, c3, c4], .agg #[d0, d1, d2, d3, d4]] w fun e w' => e = .returned (.bool (decide (f = g))) ∧ Below w.heap.size w w' := by
  obtain ⟨rfl, rfl, ⟨a0, m0, rfl, hs0⟩, ⟨a3, m3, rfl, hs3⟩, a4, m4, rfl, hs4⟩ := hf
  obtain ⟨rfl, rfl, ⟨b0, n0, rfl, ht0⟩, ⟨b3, n3, rfl, ht3⟩, b4, n4, rfl, ht4⟩ := hg
  unfold fnBulk at hnf hng
  have hfr : Fr (fun _ => False) w ((w.alloc (.cells #[.slice a0 f.args.length m0, .int .i64 f.result, .int .i64 f.slots, .slice a3 f.objects.length m3, .slice a4 f.code.length m4] 86)).alloc (.cells #[.slice b0 g.args.length n0, .int .i64 g.result, .int .i64 g.slots, .slice b3 g.objects.length n3, .slice b4 g.code.length n4] 86)) := ((Fr.refl _ _).alloc _).alloc _
  have hb : Below w.heap.size w ((w.alloc (.cells #[.slice a0 f.args.length m0, .int .i64 f.result, .int .i64 f.slots, .slice a3 f.objects.length m3, .slice a4 f.code.length m4] 86)).alloc (.cells #[.slice b0 g.args.length n0, .int .i64 g.result, .int .i64 g.slots, .slice b3 g.objects.length n3, .slice b4 g.code.length n4] 86)) := ((Below.refl _ _).alloc (Nat.le_refl _) _).alloc (by simp) _
  have p0 := fun n => eq_ints ((w.alloc (.cells #[.slice a0 f.args.length m0, .int .i64 f.result, .int .i64 f.slots, .slice a3 f.objects.length m3, .slice a4 f.code.length m4] 86)).alloc (.cells #[.slice b0 g.args.length n0, .int .i64 g.result, .int .i64 g.slots, .slice b3 g.objects.length n3, .slice b4 g.code.length n4] 86) |>.drewN n) D D' a0 b0 f.args g.args m0 n0 (hs0.fr (hfr.drewN n) (fun _ _ h => h)) (ht0.fr (hfr.drewN n) (fun _ _ h => h)) (by omega) (by omega)
  have p3 := fun n => eq_ints ((w.alloc (.cells #[.slice a0 f.args.length m0, .int .i64 f.result, .int .i64 f.slots, .slice a3 f.objects.length m3, .slice a4 f.code.length m4] 86)).alloc (.cells #[.slice b0 g.args.length n0, .int .i64 g.result, .int .i64 g.slots, .slice b3 g.objects.length n3, .slice b4 g.code.length n4] 86) |>.drewN n) D D' a3 b3 f.objects g.objects m3 n3 (hs3.fr (hfr.drewN n) (fun _ _ h => h)) (ht3.fr (hfr.drewN n) (fun _ _ h => h)) (by omega) (by omega)
  have p4 := fun n => eq_instrs ((w.alloc (.cells #[.slice a0 f.args.length m0, .int .i64 f.result, .int .i64 f.slots, .slice a3 f.objects.length m3, .slice a4 f.code.length m4] 86)).alloc (.cells #[.slice b0 g.args.length n0, .int .i64 g.result, .int .i64 g.slots, .slice b3 g.objects.length n3, .slice b4 g.code.length n4] 86) |>.drewN n) D D' a4 b4 f.code g.code m4 n4 (hs4.fr (hfr.drewN n) (fun _ _ h => h)) (ht4.fr (hfr.drewN n) (fun _ _ h => h)) (by omega) (by omega)
  have hd := fun_eq f g
  rw [hd]
  clear hd hs0 hs3 hs4 ht0 ht3 ht4 hfr hnf hng
  generalize decide (f.args = g.args) = u0 at *
  generalize decide (f.objects = g.objects) = u3 at *
  generalize decide (f.code = g.code) = u4 at *
  generalize f.result = x1 at *
  generalize g.result = y1 at *
  generalize f.slots = x2 at *
  generalize g.slots = y2 at *
  have P0 := Lib.hid p0; clear p0
  have P3 := Lib.hid p3; clear p3
  have P4 := Lib.hid p4; clear p4
  have HB := Lib.hid hb; clear hb
  go_enter Try.func128, Try.ntmps128
  go_wp2_with fail
  refine (P0.out 0).mono ?_
  rintro e w1 ⟨rfl, n1, rfl⟩
  cases u0
  · go_wp2_with fail
    go_ret
    exact ⟨rfl, below_drewN HB.out _⟩
  by_cases h1 : x1 = y1
  case neg =>
    have h1' : (x1 == y1) = false := by simpa using h1
    go_wp2_with fail
    go_ret
    exact ⟨by simp [h1'], below_drewN HB.out _⟩
  subst h1
  by_cases h2 : x2 = y2
  case neg =>
    have h2' : (x2 == y2) = false := by simpa using h2
    go_wp2_with fail
    go_ret
    exact ⟨by simp [h2'], below_drewN HB.out _⟩
  subst h2
  go_wp2_with fail
  refine (P3.out _).mono ?_
  rintro e w1 ⟨rfl, n2, rfl⟩
  cases u3
  · go_wp2_with fail
    go_ret
    exact ⟨by simp, by first | exact below_drewN HB.out _ | exact below_drewN (below_drewN HB.out _) _⟩
  go_wp2_with fail
  refine (P4.out _).mono ?_
  rintro e w1 ⟨rfl, n3, rfl⟩
  go_wp2_with fail
  go_ret
  exact ⟨by simp, by first | exact below_drewN HB.out _ | exact below_drewN (below_drewN HB.out _) _⟩

theorem list_eq_step {α : Type} [DecidableEq α] (l m : List α) (k : Nat) (h1 : k < l.length) (h2 : k < m.length) (h : l.take k = m.take k) : (decide (l[k] = m[k]) = true → l.take (k + 1) = m.take (k + 1)) ∧ (decide (l[k] = m[k]) = false → decide (l = m) = false) :=
  ⟨fun e => take_eq_step l m k h1 h2 h (by simpa using e), fun e => by simpa using ne_of_get l m k h1 h2 (by simpa using e)⟩

set_option maxRecDepth 100000 in
set_option maxHeartbeats 3200000 in
theorem eq_shapes (w : World) (D D' : Nat → Prop) (a a' : Option Addr) (l m : List (List Int)) (c c' : Nat) (hl : ShSl w D a l) (hm : ShSl w D' a' m) (hn : l.length ≤ 1000000) (hn' : m.length ≤ 1000000) (hsz : ∀ x ∈ l, x.length ≤ 1000000) (hsz' : ∀ x ∈ m, x.length ≤ 1000000) (fv : Value) (hfv : fv = .func (.func 126) #[] #[]) :
    Calls Try.prog 125 #[.slice a l.length c, .slice a' m.length c', fv] w fun e w' => e = .returned (.bool (decide (l = m))) ∧ Below w.heap.size w w' := by
  subst hfv
  by_cases hlen : l.length = m.length
  case neg =>
    have h1 : ((l.length : Int) != (m.length : Int)) = true := by rw [bne_iff_ne]; omega
    have h2 : decide (l = m) = false := by simp; intro h; rw [h] at hlen; exact hlen rfl
    rw [h2]
    clear h2 hlen
    go_enter Try.func125, Try.ntmps125
    go_wp2_with fail
    go_ret
    exact ⟨rfl, Below.refl _ _⟩
  have h1 : ((l.length : Int) != (m.length : Int)) = false := by rw [bne_eq_false_iff_eq]; omega
  have HLEN := Lib.hid hlen; clear hlen
  have HL := Lib.hid hl; clear hl
  have HM := Lib.hid hm; clear hm
  have HSZ := Lib.hid hsz; clear hsz
  have HSZ' := Lib.hid hsz'; clear hsz'
  go_enter Try.func125, Try.ntmps125
  go_wp2_with fail
  clear h1
  go_loopw [17] (fun i wr => ∃ k : Nat, k ≤ l.length ∧ i = .int .i64 k ∧ l.take k = m.take k ∧ Below w.heap.size w wr) (fun i _ => l.length - (intOf i).toNat)
  case atStart => exact ⟨0, Nat.zero_le _, rfl, rfl, Below.refl _ _⟩
  case round =>
    obtain ⟨k, hk, rfl, ht, hB⟩ := hrel
    by_cases hlt : k < l.length
    · have hlt2 : k < m.length := by have := HLEN.out; omega
      have hst := list_eq_step l m k hlt hlt2 ht
      have HST := Lib.hid hst; clear hst
      have HB := Lib.hid hB; clear hB
      clear ht
      obtain ⟨b, o, rfl, _, x1, x2, hx, hx2⟩ := HL.out k hlt
      obtain ⟨b', o', rfl, _, y1, y2, hy, hy2⟩ := HM.out k hlt2
      have hx := below_cell HB.out hx
      have hy := below_cell HB.out hy
      have hy1 : ∀ ob, (wr.alloc ob).cell? ⟨b', o' + k, none⟩ = some (.slice y1 m[k].length y2) := fun ob => (cell_under _ _ (World.block_lt hy)).trans hy
      have hfr : Fr (fun _ => False) w ((wr.alloc (.cells #[.slice x1 l[k].length x2] 84)).alloc (.cells #[.slice y1 m[k].length y2] 84)) := ((Fr.of_below HB.out _).alloc _).alloc _
      have CALL := same_shape _ D D' x1 y1 l[k] m[k] x2 y2 (hx2.fr hfr (fun _ _ h => h)) (hy2.fr hfr (fun _ _ h => h)) (HSZ.out _ (List.getElem_mem hlt)) (HSZ'.out _ (List.getElem_mem hlt2))
      clear hx2 hy2 hfr
      cases hd : decide (l[k] = m[k])
      · have hno := HST.out.2 hd
        have HNO := Lib.hid hno; clear hno
        rw [hd] at CALL
        have CALL2 := Lib.hid CALL
        clear CALL hd
        go_wp2_with fail
        refine CALL2.out.mono ?_
        rintro e w3 ⟨rfl, hb3⟩
        have HB3 := Lib.hid (HB.out.trans ((((Below.refl _ _).alloc (Nat.le_refl _) _).alloc (by simp) _).trans (hb3.mono (by simp; omega)) |>.mono HB.out.size))
        clear hb3
        go_wp2_with fail
        go_ret
        exact ⟨by rw [HNO.out]; rfl, HB3.out⟩
      · have hyes := HST.out.1 hd
        have HYES := Lib.hid hyes; clear hyes
        rw [hd] at CALL
        have CALL2 := Lib.hid CALL
        clear CALL hd
        go_wp2_with fail
        refine CALL2.out.mono ?_
        rintro e w3 ⟨rfl, hb3⟩
        have HB3 := Lib.hid (HB.out.trans ((((Below.refl _ _).alloc (Nat.le_refl _) _).alloc (by simp) _).trans (hb3.mono (by simp; omega)) |>.mono HB.out.size))
        clear hb3
        go_wp2_with fail
        go_roundw
        case rel => exact ⟨k + 1, by omega, by go_num, HYES.out, HB3.out⟩
        case measure => simp [intOf]; omega
    · have hd : decide (l = m) = true := by
        have h := HLEN.out
        have hk2 : k = l.length := by omega
        rw [hk2, List.take_length, List.take_of_length_le (by omega)] at ht
        simpa using ht
      have HD := Lib.hid hd; clear hd
      have HB := Lib.hid hB; clear hB
      clear ht
      go_wp2_with fail
      go_ret
      exact ⟨by rw [HD.out]; rfl, HB.out⟩
set_option maxRecDepth 100000 in
set_option maxHeartbeats 3200000 in
theorem eq_funcs (w : World) (D D' : Nat → Prop) (a a' : Option Addr) (l m : List Fun) (c c' : Nat) (hl : FnSl w D a l) (hm : FnSl w D' a' m) (hn : l.length ≤ 1000000) (hn' : m.length ≤ 1000000) (hsz : ∀ x ∈ l, fnBulk x ≤ 1000000) (hsz' : ∀ x ∈ m, fnBulk x ≤ 1000000) (fv : Value) (hfv : fv = .func (.func 128) #[] #[]) :
    Calls Try.prog 127 #[.slice a l.length c, .slice a' m.length c', fv] w fun e w' => e = .returned (.bool (decide (l = m))) ∧ Below w.heap.size w w' := by
  subst hfv
  by_cases hlen : l.length = m.length
  case neg =>
    have h1 : ((l.length : Int) != (m.length : Int)) = true := by rw [bne_iff_ne]; omega
    have h2 : decide (l = m) = false := by simp; intro h; rw [h] at hlen; exact hlen rfl
    rw [h2]
    clear h2 hlen
    go_enter Try.func127, Try.ntmps127
    go_wp2_with fail
    go_ret
    exact ⟨rfl, Below.refl _ _⟩
  have h1 : ((l.length : Int) != (m.length : Int)) = false := by rw [bne_eq_false_iff_eq]; omega
  have HLEN := Lib.hid hlen; clear hlen
  have HL := Lib.hid hl; clear hl
  have HM := Lib.hid hm; clear hm
  have HSZ := Lib.hid hsz; clear hsz
  have HSZ' := Lib.hid hsz'; clear hsz'
  go_enter Try.func127, Try.ntmps127
  go_wp2_with fail
  clear h1
  go_loopw [17] (fun i wr => ∃ k : Nat, k ≤ l.length ∧ i = .int .i64 k ∧ l.take k = m.take k ∧ Below w.heap.size w wr) (fun i _ => l.length - (intOf i).toNat)
  case atStart => exact ⟨0, Nat.zero_le _, rfl, rfl, Below.refl _ _⟩
  case round =>
    obtain ⟨k, hk, rfl, ht, hB⟩ := hrel
    by_cases hlt : k < l.length
    · have hlt2 : k < m.length := by have := HLEN.out; omega
      have hst := list_eq_step l m k hlt hlt2 ht
      have HST := Lib.hid hst; clear hst
      have HB := Lib.hid hB; clear hB
      clear ht
      obtain ⟨b, o, rfl, _, x0, x1, x2, x3, x4, p0, p1, p2, p3, p4, hx⟩ := HL.out k hlt
      obtain ⟨b', o', rfl, _, y0, y1, y2, y3, y4, r0, r1, r2, r3, r4, hy⟩ := HM.out k hlt2
      have p0 := below_cell HB.out p0
      have p1 := below_cell HB.out p1
      have p2 := below_cell HB.out p2
      have p3 := below_cell HB.out p3
      have p4 := below_cell HB.out p4
      have r0 := below_cell HB.out r0
      have r1 := below_cell HB.out r1
      have r2 := below_cell HB.out r2
      have r3 := below_cell HB.out r3
      have r4 := below_cell HB.out r4
      have t0 : ∀ ob, (wr.alloc ob).cell? ⟨b', o' + k * 5, none⟩ = some y0 := fun ob => (cell_under _ _ (World.block_lt r0)).trans r0
      have t1 : ∀ ob, (wr.alloc ob).cell? ⟨b', o' + k * 5 + 1, none⟩ = some y1 := fun ob => (cell_under _ _ (World.block_lt r1)).trans r1
      have t2 : ∀ ob, (wr.alloc ob).cell? ⟨b', o' + k * 5 + 2, none⟩ = some y2 := fun ob => (cell_under _ _ (World.block_lt r2)).trans r2
      have t3 : ∀ ob, (wr.alloc ob).cell? ⟨b', o' + k * 5 + 3, none⟩ = some y3 := fun ob => (cell_under _ _ (World.block_lt r3)).trans r3
      have t4 : ∀ ob, (wr.alloc ob).cell? ⟨b', o' + k * 5 + 4, none⟩ = some y4 := fun ob => (cell_under _ _ (World.block_lt r4)).trans r4
      obtain ⟨rfl, rfl, ⟨aa0, n0, rfl, hs0⟩, ⟨aa3, n3, rfl, hs3⟩, aa4, n4, rfl, hs4⟩ := hx
      obtain ⟨rfl, rfl, ⟨ab0, m0, rfl, ht0⟩, ⟨ab3, m3, rfl, ht3⟩, ab4, m4, rfl, ht4⟩ := hy
      have hfr : Fr (fun _ => False) w ((wr.alloc (.cells #[.slice aa0 l[k].args.length n0, .int .i64 l[k].result, .int .i64 l[k].slots, .slice aa3 l[k].objects.length n3, .slice aa4 l[k].code.length n4] 86)).alloc (.cells #[.slice ab0 m[k].args.length m0, .int .i64 m[k].result, .int .i64 m[k].slots, .slice ab3 m[k].objects.length m3, .slice ab4 m[k].code.length m4] 86)) := ((Fr.of_below HB.out _).alloc _).alloc _
      have CALL := alike_any _ D D' l[k] m[k] _ _ _ _ _ _ _ _ _ _ (FunVal.fr ⟨rfl, rfl, ⟨aa0, n0, rfl, hs0⟩, ⟨aa3, n3, rfl, hs3⟩, aa4, n4, rfl, hs4⟩ hfr (fun _ _ h => h)) (FunVal.fr ⟨rfl, rfl, ⟨ab0, m0, rfl, ht0⟩, ⟨ab3, m3, rfl, ht3⟩, ab4, m4, rfl, ht4⟩ hfr (fun _ _ h => h)) (HSZ.out _ (List.getElem_mem hlt)) (HSZ'.out _ (List.getElem_mem hlt2))
      clear hs0 hs3 hs4 ht0 ht3 ht4 hfr r0 r1 r2 r3 r4
      cases hd : decide (l[k] = m[k])
      · have hno := HST.out.2 hd
        have HNO := Lib.hid hno; clear hno
        rw [hd] at CALL
        have CALL2 := Lib.hid CALL
        clear CALL hd
        go_wp2_with fail
        refine CALL2.out.mono ?_
        rintro e w3 ⟨rfl, hb3⟩
        have HB3 := Lib.hid (HB.out.trans ((((Below.refl _ _).alloc (Nat.le_refl _) _).alloc (by simp) _).trans (hb3.mono (by simp; omega)) |>.mono HB.out.size))
        clear hb3
        go_wp2_with fail
        go_ret
        exact ⟨by rw [HNO.out]; rfl, HB3.out⟩
      · have hyes := HST.out.1 hd
        have HYES := Lib.hid hyes; clear hyes
        rw [hd] at CALL
        have CALL2 := Lib.hid CALL
        clear CALL hd
        go_wp2_with fail
        refine CALL2.out.mono ?_
        rintro e w3 ⟨rfl, hb3⟩
        have HB3 := Lib.hid (HB.out.trans ((((Below.refl _ _).alloc (Nat.le_refl _) _).alloc (by simp) _).trans (hb3.mono (by simp; omega)) |>.mono HB.out.size))
        clear hb3
        go_wp2_with fail
        go_roundw
        case rel => exact ⟨k + 1, by omega, by go_num, HYES.out, HB3.out⟩
        case measure => simp [intOf]; omega
    · have hd : decide (l = m) = true := by
        have h := HLEN.out
        have hk2 : k = l.length := by omega
        rw [hk2, List.take_length, List.take_of_length_le (by omega)] at ht
        simpa using ht
      have HD := Lib.hid hd; clear hd
      have HB := Lib.hid hB; clear hB
      clear ht
      go_wp2_with fail
      go_ret
      exact ⟨by rw [HD.out]; rfl, HB.out⟩
end Go.Proofs.Ytmmdppjbofbjhaa
