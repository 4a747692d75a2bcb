/- Walks: what the kinds of a program tell; the first call of chapter 12's statements. A queue onto which rows are appended; a row of marks; the search for what can be reached, plainly. -/
import Derived.Test.YtjcjhfnjamphlaaKBk
import Derived.Deep.Upon
set_option linter.unusedVariables false
set_option linter.unusedSimpArgs false
namespace Go.Proofs.Ytjcjhfnjamphlaa
open Go.ChangeShapes Go.WideShapes Go.ChangeAt Go.RowKit Go.Maps
set_option maxRecDepth 100000 in
theorem kindsM_any (w : World) (B mb b nm : Nat) (V : Nat → Prop) (C : Pl → Option (List Int)) (h : MapsAt w B mb b nm V C) (fn q : Int) (hI : i64B fn ∧ i64B q) (hCl : ∀ x K, C x = some K → K.length ≤ 100000) :
    Calls Try.prog 21 #[.pointer (some ⟨mb, 0, none⟩), .int .i64 fn, .int .i64 q] w fun e w' => ∃ v, e = .returned v ∧ Own intE w' w.heap.size v ((C ⟨(fn, q), hI⟩).getD []) ∧ Below w.heap.size w w' := by
  obtain ⟨hr, hm, _⟩ := h
  have k0 : w.cell? ⟨mb, 0, none⟩ = some (.map (some b)) := (row_cell hr 0).1
  cases hc : C ⟨(fn, q), hI⟩ with
  | none =>
    have hlk : (Instr.lookup 72 (.map (some b)) (.agg #[.int .i64 fn, .int .i64 q]) false).run Try.prog w = .ok (.slice none 0 0) w := (hm.none_run _ hc).2
    have cl := cloneInts_any w (fun _ => False) none [] 0 (fun j hj => by cases hj) (by simp)
    clear hr hm hCl hc
    have CL := Lib.hid cl; clear cl
    go_enter Try.func21, Try.ntmps21
    go_wp2_with fail
    refine CL.out.mono ?_
    rintro e w1 ⟨v, rfl, ho, hb⟩
    have HO := Lib.hid ho; clear ho
    have HB := Lib.hid hb; clear hb
    clear hlk
    go_wp2_with fail
    go_ret
    exact ⟨v, rfl, HO.out, HB.out⟩
  | some K =>
    obtain ⟨a, c, hs, _, hlk⟩ := hm.some_run _ K hc
    have hlk : (Instr.lookup 72 (.map (some b)) (.agg #[.int .i64 fn, .int .i64 q]) false).run Try.prog w = .ok (.slice a K.length c) w := hlk
    have cl := cloneInts_any w _ a K c hs (by have := hCl _ K hc; omega)
    clear hr hm hCl hc hs
    have CL := Lib.hid cl; clear cl
    go_enter Try.func21, Try.ntmps21
    go_wp2_with fail
    refine CL.out.mono ?_
    rintro e w1 ⟨v, rfl, ho, hb⟩
    have HO := Lib.hid ho; clear ho
    have HB := Lib.hid hb; clear hb
    clear hlk
    go_wp2_with fail
    go_ret
    exact ⟨v, rfl, HO.out, HB.out⟩
set_option maxRecDepth 100000 in
theorem reachedM_any (w : World) (B mb b nm : Nat) (V : Nat → Prop) (C : Pl → Option (List Int)) (h : MapsAt w B mb b nm V C) (fn q : Int) (hI : i64B fn ∧ i64B q) :
    Calls Try.prog 20 #[.pointer (some ⟨mb, 0, none⟩), .int .i64 fn, .int .i64 q] w fun e w' => e = .returned (.bool (C ⟨(fn, q), hI⟩).isSome) ∧ w = w' := by
  obtain ⟨hr, hm, _⟩ := h
  have k0 : w.cell? ⟨mb, 0, none⟩ = some (.map (some b)) := (row_cell hr 0).1
  cases hc : C ⟨(fn, q), hI⟩ with
  | none =>
    have hlk : (Instr.lookup 72 (.map (some b)) (.agg #[.int .i64 fn, .int .i64 q]) true).run Try.prog w = .ok (.tuple #[.slice none 0 0, .bool false]) w := (hm.none_run _ hc).1
    clear hr hm hc
    go_enter Try.func20, Try.ntmps20
    go_wp2_with fail
    go_ret
    exact ⟨rfl, rfl⟩
  | some K =>
    obtain ⟨a, c, _, hlk, _⟩ := hm.some_run _ K hc
    have hlk : (Instr.lookup 72 (.map (some b)) (.agg #[.int .i64 fn, .int .i64 q]) true).run Try.prog w = .ok (.tuple #[.slice a K.length c, .bool true]) w := hlk
    clear hr hm hc
    go_enter Try.func20, Try.ntmps20
    go_wp2_with fail
    go_ret
    exact ⟨rfl, rfl⟩
theorem MapsAt.below {w w' : World} {B mb b nm : Nat} {V : Nat → Prop} {C : Pl → Option (List Int)} (h : MapsAt w B mb b nm V C) (hb : Below w.heap.size w w') : MapsAt w' B mb b nm V C := by
  obtain ⟨h1, h2, h3, h4, h5⟩ := h
  exact ⟨(Fr.of_below hb (fun _ => False)).heap h1 (fun h => h), h2.fr (Fr.of_below hb (fun _ => False)) (fun h => h) (fun _ _ h => h), h3, h4, fun q hq => ⟨(h5 q hq).1, Nat.lt_of_lt_of_le (h5 q hq).2 hb.size⟩⟩
def pf : Prg := ⟨[], [[1]], [⟨[], 0, 1, [], [⟨1, 0, 1, 0⟩, ⟨10, 0, 3, 0⟩, ⟨11, 0, 0, 0⟩, ⟨27, 0, 0, 0⟩]⟩]⟩
def ff : Fun := ⟨[], 0, 1, [], [⟨1, 0, 1, 0⟩, ⟨10, 0, 3, 0⟩, ⟨11, 0, 0, 0⟩, ⟨27, 0, 0, 0⟩]⟩
theorem pf_S : progS pf = (0, 0, 0) := by decide +kernel
theorem pf_B : PrgB pf ∧ PrgR pf := by
  unfold PrgB PrgR FunB Ins.wf i64B pf
  simp
def sx : Flo := fun q => if q = 0 then some [0] else if q = 1 then some [1] else if q = 2 then some [1] else if q = 3 then some [0] else none
theorem le_one {x y : Int} (h : x = 0 ∨ x = y) : Le [x] [y] := ⟨rfl, fun j => by
  cases j with
  | zero => simpa using h
  | succ j => exact .inl rfl⟩
theorem one_le {K : List Int} {y : Int} (h : Le K [y]) : ∃ x, K = [x] ∧ (x = 0 ∨ x = y) := by
  obtain ⟨h1, h2⟩ := h
  match K, h1 with
  | [x], _ => exact ⟨x, rfl, by simpa using h2 0⟩
theorem le_to {K : List Int} {x : Int} (h : Le [x] K) : ∃ y, K = [y] ∧ (x = 0 ∨ x = y) := by
  obtain ⟨h1, h2⟩ := h
  match K, h1 with
  | [y], _ => exact ⟨y, rfl, by simpa using h2 0⟩
theorem sx_sol : Sol pf ff sx := by
  refine ⟨⟨[0], rfl, Le.refl _⟩, fun q K hq => ?_, fun q K i hq hi m hm hml => ?_⟩
  · unfold sx at hq
    split at hq
    · injection hq with hq; subst hq; subst_vars; exact ⟨by decide, rfl⟩
    · split at hq
      · injection hq with hq; subst hq; subst_vars; exact ⟨by decide, rfl⟩
      · split at hq
        · injection hq with hq; subst hq; subst_vars; exact ⟨by decide, rfl⟩
        · split at hq
          · injection hq with hq; subst hq; subst_vars; exact ⟨by decide, rfl⟩
          · cases hq
  · have hq4 : q = 0 ∨ q = 1 ∨ q = 2 ∨ q = 3 := by
      have : q < 4 := by
        rcases Nat.lt_or_ge q 4 with h | h
        · exact h
        · rw [List.getElem?_eq_none (by exact h)] at hi; cases hi
      omega
    rcases hq4 with rfl | rfl | rfl | rfl
    · injection hq with hq; subst hq
      injection hi with hi; subst hi
      have hm : (m : Int) ∈ [(1 : Int)] := hm
      simp at hm
      obtain rfl : m = 1 := by omega
      exact ⟨[1], rfl, le_one (.inr rfl)⟩
    · injection hq with hq; subst hq
      injection hi with hi; subst hi
      have hm : (m : Int) ∈ [(2 : Int), 3] := hm
      simp at hm
      rcases hm with hm | hm
      · obtain rfl : m = 2 := by omega
        exact ⟨[1], rfl, le_one (.inr rfl)⟩
      · obtain rfl : m = 3 := by omega
        exact ⟨[0], rfl, le_one (.inl rfl)⟩
    · injection hq with hq; subst hq
      injection hi with hi; subst hi
      have hm : (m : Int) ∈ [(3 : Int)] := hm
      simp at hm
      obtain rfl : m = 3 := by omega
      exact ⟨[0], rfl, le_one (.inl rfl)⟩
    · injection hi with hi; subst hi
      have hm : (m : Int) ∈ ([] : List Int) := hm
      cases hm
theorem pf_flow {M : Flo} (h : IsFlow pf ff M) : (∃ x, M 0 = some [x]) ∧ M 1 = some [1] ∧ M 2 = some [1] ∧ M 3 = some [0] ∧ M 4 = none := by
  obtain ⟨hs, hg⟩ := h
  have hg := hg sx sx_sol
  obtain ⟨K0, h0, hle0⟩ := hs.first
  obtain ⟨x0, rfl, _⟩ := one_le (show Le K0 [0] from hle0)
  obtain ⟨K1, h1, _⟩ := hs.step 0 _ _ h0 rfl 1 (by show (1 : Int) ∈ [(1 : Int)]; simp) (by decide)
  obtain ⟨L1, hL1, hl1⟩ := hg 1 K1 h1
  injection hL1 with hL1
  subst hL1
  obtain ⟨y1, rfl, hy1⟩ := le_to hl1
  obtain rfl : y1 = 1 := by omega
  obtain ⟨K2, h2, _⟩ := hs.step 1 _ _ h1 rfl 2 (by show (2 : Int) ∈ [(2 : Int), 3]; simp) (by decide)
  obtain ⟨L2, hL2, hl2⟩ := hg 2 K2 h2
  injection hL2 with hL2
  subst hL2
  obtain ⟨y2, rfl, hy2⟩ := le_to hl2
  obtain rfl : y2 = 1 := by omega
  obtain ⟨K3, h3, hl3⟩ := hs.step 1 _ _ h1 rfl 3 (by show (3 : Int) ∈ [(2 : Int), 3]; simp) (by decide)
  obtain ⟨K3', h3', hl3'⟩ := hs.step 2 _ _ h2 rfl 3 (by show (3 : Int) ∈ [(3 : Int)]; simp) (by decide)
  rw [h3] at h3'
  injection h3' with e
  subst e
  obtain ⟨x3, rfl, hx3⟩ := one_le (show Le K3 [1] from hl3)
  obtain ⟨x3', e, hx3'⟩ := one_le (show Le [x3] [16] from hl3')
  injection e with e _
  subst e
  obtain rfl : x3 = 0 := by omega
  refine ⟨⟨x0, h0⟩, h1, h2, h3, ?_⟩
  cases h4 : M 4 with
  | none => rfl
  | some K =>
    have := (hs.len 4 K h4).1
    exact absurd this (by decide)
theorem pf_ok {M : Flo} (h : IsFlow pf ff M) : (flowE pf ff M).1 = 0 := by
  obtain ⟨⟨x, h0⟩, h1, h2, h3, h4⟩ := pf_flow h
  refine flowE_ok ?_ ?_
  · exact find_none (fun q hq => by
      have hq : q < 4 := hq
      have hq4 : q = 0 ∨ q = 1 ∨ q = 2 ∨ q = 3 := by omega
      unfold outsAt
      rcases hq4 with rfl | rfl | rfl | rfl
      · rw [h0]; rfl
      · rw [h1]; rfl
      · rw [h2]; rfl
      · rw [h3]; rfl)
  · exact find_none (fun q hq => by
      have hq : q < 4 := hq
      have hq4 : q = 0 ∨ q = 1 ∨ q = 2 ∨ q = 3 := by omega
      unfold wrongAt
      rcases hq4 with rfl | rfl | rfl | rfl
      · rw [h0]; rfl
      · rw [h1]; rfl
      · rw [h2]; rfl
      · rw [h3]; rfl)
theorem pf_err {E : Int} {fn pc : Nat} (h : FlowErr pf E fn pc) : False := by
  obtain ⟨hE, h⟩ := h
  rcases h with h | ⟨_, hfn, Ms, hm, _, hf⟩
  · rw [pf_S] at h
    injection h with h
    exact hE h.symm
  · have hfn : fn < 1 := hfn
    obtain rfl : fn = 0 := by omega
    have := pf_ok (hm 0 (Nat.le_refl _))
    have hf : flowE pf ff (Ms 0) = (E, pc) := hf
    rw [hf] at this
    exact hE this
end Go.Proofs.Ytjcjhfnjamphlaa
namespace Go.Proofs.Ytjcjhfnjamphlaa
open Go.ChangeShapes Go.WideShapes Go.ChangeAt Go.RowKit Go.Maps
theorem sets_grown {q : Nat} : ∀ (vs : List Value) (w : World) (o : Nat), w.grownBy (w.setCells q o vs) (some q)
  | [], w, o => ⟨rfl, rfl, rfl, Nat.le_refl _, fun _ _ _ => rfl⟩
  | v :: vs, w, o => by
    have h := sets_grown (q := q) vs (w.setCell ⟨q, o, none⟩ v) (o + 1)
    have hz : (w.setCell ⟨q, o, none⟩ v).heap.size = w.heap.size := by simp [World.setCell]
    refine ⟨h.os, h.tape, h.output, by have := h.size; rw [hz] at this; exact this, fun k hk hn => ?_⟩
    have h2 := h.block k (by rw [hz]; exact hk) hn
    exact h2.trans (Below.heap_setCell _ _ _ _ (fun e => hn (by rw [e])))
theorem Que.le {w : World} {B : Nat} {a : Option Addr} {n c : Nat} {l : List Int} (h : Que w B (.slice a n c) l) : l.length ≤ c ∧ n = l.length := by
  rcases h with ⟨a', e, rfl, _⟩ | ⟨g, pre, c', e, hc, _⟩
  · injection e with e1 e2 e3
    subst e2 e3
    exact ⟨Nat.zero_le _, rfl⟩
  · injection e with e1 e2 e3
    subst e2 e3
    exact ⟨hc, rfl⟩
theorem ints_flat (m : List Int) : m.flatMap intE.enc = intsV m := by
  unfold intsV
  induction m with
  | nil => rfl
  | cons y m ih => rw [List.flatMap_cons, ih]; rfl
set_option maxRecDepth 100000 in
/-- an append of a row onto a queue -/
theorem Que.appends {w : World} {B : Nat} {v : Value} {l : List Int} (h : Que w B v l) (hB : B ≤ w.heap.size) (ty : TypeId) (D : Nat → Prop) (xa : Option Addr) (xs : List Int) (c : Nat) (hx : IntSl w D xa xs) (hl : l.length + xs.length ≤ 1000000) :
    ∃ v' w', (Builtin.append_ #[22, 22] ty #[v, .slice xa xs.length c]).run Try.prog w = .ok v' w' ∧ Que w' B v' (l ++ xs) ∧ w.grownBy w' v.ownBlock ∧ Fresh w v v' := by
  obtain ⟨i0, hi, hz0, hz1, hz2⟩ := info_parts intE.info
  have hz1 : i0.size = 1 := hz1
  by_cases h0 : xs = []
  · subst h0
    obtain ⟨a, c', rfl⟩ := h.slice
    have hle := h.le.1
    have hsrc : Src Try.prog i0.size 22 (.slice xa 0 c) 0 [] w := by
      cases xa with
      | none => exact Src.ofNil w Try.underlying22 c
      | some x => exact Src.ofSlice w Try.underlying22 x 0 c [] (by simp) (fun j u hj => by cases hj) (fun _ h => by cases h)
    have hr := run_append_nothing (P := Try.prog) w 22 22 ty 3 i0 Try.underlying22 hi a l.length c' hle _ hsrc
    exact ⟨_, w, hr, by simpa using h, ⟨rfl, rfl, rfl, Nat.le_refl _, fun _ _ _ => rfl⟩, fun k hk => .inl hk⟩
  have hpos : 0 < xs.length := List.length_pos_iff.2 h0
  obtain ⟨b, oo, rfl, _, _⟩ := hx 0 hpos
  have hne : ∀ j u, (intsV xs)[j]? = some u → w.cell? ((⟨b, oo, none⟩ : Addr).add j) = some u := fun j u hj => by
    rw [addr_add _ rfl]
    unfold intsV at hj
    rw [List.getElem?_map] at hj
    have hjl : j < xs.length := by
      rcases Nat.lt_or_ge j xs.length with h | h
      · exact h
      · rw [List.getElem?_eq_none h] at hj; cases hj
    rw [List.getElem?_eq_getElem hjl] at hj
    obtain ⟨b', o', e, _, hc⟩ := hx j hjl
    injection e with e
    injection e with e1 e2
    subst e1 e2
    rw [hc]
    exact hj
  have h1c : ∀ u ∈ intsV xs, u.oneCell' = true := fun u hu => by
    unfold intsV at hu
    obtain ⟨z, _, rfl⟩ := List.mem_map.1 hu
    rfl
  have hxl : (intsV xs).length = xs.length := by simp [intsV]
  have grown : ∀ (v' : Value) (w' : World), w'.ownsRow w.heap.size 3 1 v' (l.length + xs.length) (intsV l ++ intsV xs) → Que w' B v' (l ++ xs) ∧ ∀ k, v'.ownBlock = some k → w.heap.size ≤ k := fun v' w' ho => by
    have ho2 : Own intE w' w.heap.size v' (l ++ xs) := by
      unfold Own
      rw [ints_flat, List.length_append]
      unfold intsV at ho ⊢
      rw [List.map_append]
      exact ho
    refine ⟨?_, fun k hk => (ho2.lt hk).1⟩
    rcases id ho2.2 with ⟨_, h0⟩ | ⟨g, cap, cur, rfl, _, _, hc, _⟩
    · rw [List.length_append] at h0; omega
    · exact Que.own hc (ho2.base (fun k hk => Nat.le_trans hB (ho2.lt hk).1))
  have hby : (l.length + xs.length) * i0.bytes ≤ 140737488355328 := by
    have h1 := intE.hby
    have h2 : (l.length + xs.length) * intE.bytes ≤ 1000001 * 1000 := Nat.mul_le_mul (by omega) h1
    rw [hz2]
    omega
  have hgb : ∀ {w' : World} {k : Option Nat}, w.grownBy w' none → w.grownBy w' k := fun h3 => ⟨h3.os, h3.tape, h3.output, h3.size, fun k hk hn => h3.block k hk (fun e => by cases e)⟩
  rcases h with ⟨a, rfl, rfl, hk⟩ | ⟨g, pre, cap, rfl, hc, ho⟩
  · cases a with
    | none =>
      obtain ⟨v', w', hr, h2, h3, h4⟩ := run_append_fresh intE w ty w.heap.size [] xs (.slice none 0 0) (Own.nil _ _ _) b oo c (fun j u hj => by
        have := hne j u (by rw [ints_flat] at hj; exact hj)
        rw [addr_add _ rfl] at this
        exact this) (by simpa using Nat.le_trans hl (by decide)) (Nat.le_refl _)
      have h2' : w'.ownsRow w.heap.size 3 1 v' (([] : List Int).length + xs.length) (intsV [] ++ intsV xs) := by
        have := h2
        unfold Own at this
        rw [ints_flat] at this
        rw [show ([] : List Int).length + xs.length = xs.length from Nat.zero_add _]
        exact this
      exact ⟨v', w', hr, (grown v' w' h2').1, h3, h4⟩
    | some a =>
      obtain ⟨v', w', hr, h2, h3⟩ := run_append_arg_grows (P := Try.prog) w 22 ty 3 i0 intE.zero 1 i0.bytes Try.underlying22 hi hz0 hz1 rfl rfl (by decide) a 0 0 [] rfl (fun j u hj => by cases hj) ⟨b, oo, none⟩ xs.length c (intsV xs) (by rw [hxl, Nat.mul_one]) hne (by omega) (by unfold maxLen; omega) (by simpa using hby)
      have hg := grown v' w' h2
      exact ⟨v', w', hr, hg.1, hgb h3, fun k hk => .inr (hg.2 k hk)⟩
  · have hcells : ∀ j u, (intsV (pre ++ l))[j]? = some u → w.cell? ⟨g, j, none⟩ = some u := fun j u hj => by
      have := World.ownsRow.cells (g := g) (show w.ownsRow B intE.e intE.size _ _ _ from ho) rfl j u (by rw [ints_flat]; exact hj)
      rw [addr_add _ rfl] at this
      simpa using this
    by_cases hroom : l.length + xs.length ≤ cap
    · have hlen : (pre ++ l).length = pre.length + l.length := List.length_append
      obtain ⟨ho1, ho2⟩ := ho
      rcases ho2 with ⟨hv, _⟩ | ⟨g', cap', cur, hv, hbg, hg, hnc, hcm, hcs, htake⟩
      · cases hv
      injection hv with e1 e2 e3
      injection e1 with e1
      injection e1 with e1
      subst e1 e3
      have hcs : cur.size = (pre.length + cap) * 1 := hcs
      have hin : ∀ j, j < xs.length → (w.cell? ⟨g, pre.length + l.length * i0.size + j, none⟩).isSome = true ∧ w.frozen? ⟨g, pre.length + l.length * i0.size + j, none⟩ = false := fun j hj => by
        refine ⟨?_, (row_cell hg _).2⟩
        rw [(row_cell hg _).1, Array.getElem?_eq_getElem (by rw [hz1]; omega)]
        rfl
      have hr4 := run_append_room_cells (P := Try.prog) w 22 ty 3 i0 Try.underlying22 hi g pre.length l.length cap ⟨b, oo, none⟩ xs.length c (intsV xs) (by rw [hz1, hxl, Nat.mul_one]) hne h1c hroom (fun j hj => (hin j (by rw [← hxl]; exact hj)).1) (fun j hj => (hin j (by rw [← hxl]; exact hj)).2)
      rw [show pre.length + l.length * i0.size = (pre ++ l).length from by rw [hz1]; omega] at hr4
      refine ⟨_, _, hr4, .inr ⟨g, pre, cap, by simp, by simpa using hroom, ?_⟩, sets_grown _ _ _, fun k hk => .inl (by simpa [Value.ownBlock] using hk)⟩
      have hl3 : (pre ++ (l ++ xs)).length = (pre ++ l).length + xs.length := by simp; omega
      have hrow : w.heap[g]? = some (.cells cur.toList.toArray 3) := by rw [Array.toArray_toList]; exact hg
      have hs := row_sets (intsV xs) w (pre ++ l).length cur.toList hrow (by rw [hxl]; simp only [Array.length_toList]; omega)
      refine ⟨by rw [intE.len], .inr ⟨g, pre.length + cap, _, rfl, hbg, hs, by omega, hcm, ?_, ?_⟩⟩
      · show (_ : List Value).toArray.size = (pre.length + cap) * 1
        simp only [List.size_toArray, List.length_append, List.length_take, List.length_drop, Array.length_toList, hxl]
        omega
      · have hsz : intE.size = 1 := rfl
        have ht : cur.toList.take (pre ++ l).length = intsV (pre ++ l) := by
          rw [← ints_flat, ← htake, hsz, Nat.mul_one]
        rw [ints_flat, hsz, Nat.mul_one, hl3, ht]
        show List.take _ (intsV (pre ++ l) ++ intsV xs ++ _) = _
        rw [List.take_append_of_le_length (by simp [intsV]; omega), List.take_of_length_le (by simp [intsV]; omega)]
        simp [intsV]
    · obtain ⟨v', w', hr, h2, h3⟩ := run_append_arg_grows (P := Try.prog) w 22 ty 3 i0 intE.zero 1 i0.bytes Try.underlying22 hi hz0 hz1 rfl rfl (by decide) ⟨g, pre.length, none⟩ l.length cap (intsV l) (by simp [intsV]) (fun j u hj => by
        rw [addr_add _ rfl]
        exact hcells (pre.length + j) u (by
          unfold intsV at hj ⊢
          rw [List.map_append, List.getElem?_append_right (by simp), List.length_map, Nat.add_sub_cancel_left]
          exact hj)) ⟨b, oo, none⟩ xs.length c (intsV xs) (by rw [hxl, Nat.mul_one]) hne (by omega) (by unfold maxLen; omega) hby
      have hg := grown v' w' h2
      exact ⟨v', w', hr, hg.1, hgb h3, fun k hk => .inr (hg.2 k hk)⟩
theorem wp_ques {w : World} {ops : Array Oper} {rest : List Oper} {o : Oper} {a : Act} {Q : Exit → Act → World → Prop} (hgd : o.guard = none) (s x : Operand)
    (ho : o.op = .call { callee := .builtin .append, args := #[s, x], argTypes := #[22, 22] })
    (B : Nat) (l : List Int) (v : Value) (hs : a.eval s = v) (hq : Que w B v l) (D : Nat → Prop) (xa : Option Addr) (xs : List Int) (c : Nat) (hx : a.eval x = .slice xa xs.length c)
    (hc : IntSl w D xa xs) (hl : l.length + xs.length ≤ 1000000) (hB : B ≤ w.heap.size)
    (h : ∀ v' w', Que w' B v' (l ++ xs) → w.grownBy w' v.ownBlock → Fresh w v v' → wpList Try.prog ops Q rest (a.put o.dst v') w') : wpList Try.prog ops Q (o :: rest) a w := by
  refine wpList_plain hgd fun K' hK' => ?_
  obtain ⟨v', w', hr, h2, h3, h4⟩ := hq.appends hB o.type D xa xs c hc hl
  unfold Oper.wp
  simp [execOp, ho, resolve, invoke, builtin, hs, hx, hr, Result.andThen]
  exact hK' _ _ (h v' w' h2 h3 h4)
def boolsV (l : List Bool) : List Value := l.map Value.bool
theorem make_bools (w : World) (n : Nat) (hn : n ≤ 100000) : (Instr.makeSlice 55 (.int .i64 n) (.int .i64 n)).run Try.prog w = .ok (.slice (some ⟨w.heap.size, 0, none⟩) n n) (w.alloc (.cells (boolsV (List.replicate n false)).toArray 4)) := by
  have hinf : (Try.prog.info? 4).map (fun i => (i.zero, i.size, i.bytes)) = some (some (.bool false), 1, 1) := by kernel_rfl
  obtain ⟨i0, hi, hz0, hz1, hz2⟩ := info_parts hinf
  have h := run_makeSlice (P := Try.prog) (w := w) 55 4 i0 (.bool false) Try.underlying55 hi hz0 .i64 .i64 (n : Int) (n : Int) (by omega) (Int.le_refl _) (by rw [hz1]; show (n : Int).toNat * 1 ≤ 16777216; omega) (by rw [hz2]; show (1 : Int) * (n : Int) ≤ 281474976710656; omega) (by omega)
  rw [h]
  simp only [Int.toNat_natCast, hz1]
  have e : madeCells (Value.bool false).cells (n * 1) = (boolsV (List.replicate n false)).toArray := by
    show madeCells #[Value.bool false] (n * 1) = _
    unfold madeCells boolsV
    apply Array.ext
    · simp
    · intro i h1 h2
      simp [Nat.mod_one]
  rw [e]
theorem bools_set {w : World} {g : Nat} {l : List Bool} (h : w.heap[g]? = some (.cells (boolsV l).toArray 4)) (q : Nat) (b : Bool) : (w.setCell ⟨g, q, none⟩ (.bool b)).heap[g]? = some (.cells (boolsV (l.set q b)).toArray 4) := by
  have h1 := row_set h q (.bool b)
  rw [h1]
  simp [boolsV]
theorem bools_cell {w : World} {g : Nat} {l : List Bool} (h : w.heap[g]? = some (.cells (boolsV l).toArray 4)) (q : Nat) (hq : q < l.length) : w.cell? ⟨g, q, none⟩ = some (.bool l[q]) ∧ w.frozen? ⟨g, q, none⟩ = false := by
  refine ⟨?_, (row_cell h q).2⟩
  rw [(row_cell h q).1]
  simp [boolsV, hq]
structure Srch (f : Fun) (M : Flo) (I : List Bool) (Q : List Int) : Prop where
  len : I.length = f.code.length
  low : ∀ q : Nat, I[q]? = some true → (M q).isSome = true
  qlow : ∀ x ∈ Q, 0 ≤ x ∧ (x < (f.code.length : Int) → (M x.toNat).isSome = true)
  first : I[0]? = some true ∨ (0 : Int) ∈ Q
  step : ∀ q : Nat, I[q]? = some true → ∀ m : Nat, (m : Int) ∈ nextK (insAt f q) q → m < f.code.length → I[m]? = some true ∨ (m : Int) ∈ Q
theorem Srch.start {p : Prg} {f : Fun} {M : Flo} (h : IsFlow p f M) : Srch f M (List.replicate f.code.length false) [0] := by
  obtain ⟨K, hK, _⟩ := h.1.first
  have hn : ∀ q : Nat, (List.replicate f.code.length false)[q]? ≠ some true := fun q e => by
    rw [List.getElem?_replicate] at e
    split at e <;> cases e
  refine ⟨by simp, fun q hq => absurd hq (hn q), fun x hx => ?_, .inr (by simp), fun q hq => absurd hq (hn q)⟩
  simp at hx
  subst hx
  exact ⟨Int.le_refl _, fun _ => by show (M 0).isSome = true; rw [hK]; rfl⟩
theorem Srch.skip {f : Fun} {M : Flo} {I : List Bool} {x : Int} {Q : List Int} (h : Srch f M I (x :: Q)) (hx : (f.code.length : Int) ≤ x ∨ I[x.toNat]? = some true) (h0 : 0 < f.code.length) : Srch f M I Q := by
  refine ⟨h.len, h.low, fun y hy => h.qlow y (List.mem_cons_of_mem _ hy), ?_, fun q hq m hm hl => ?_⟩
  · rcases h.first with h1 | h1
    · exact .inl h1
    · rcases List.mem_cons.1 h1 with e | e
      · subst e
        rcases hx with hx | hx
        · omega
        · exact .inl hx
      · exact .inr e
  · rcases h.step q hq m hm hl with h1 | h1
    · exact .inl h1
    · rcases List.mem_cons.1 h1 with e | e
      · subst e
        rcases hx with hx | hx
        · omega
        · exact .inl hx
      · exact .inr e
theorem Srch.take {p : Prg} {f : Fun} {M : Flo} {I : List Bool} {q : Nat} {Q NL : List Int} (hf : IsFlow p f M) (h : Srch f M I ((q : Int) :: Q)) (hq : q < f.code.length) (hN : NL = nextK (insAt f q) q) (hpos : ∀ x ∈ NL, 0 ≤ x) : Srch f M (I.set q true) (Q ++ NL) := by
  have hset : ∀ m : Nat, (I.set q true)[m]? = some true ↔ m = q ∨ I[m]? = some true := fun m => by
    rw [List.getElem?_set]
    by_cases e : q = m
    · subst e
      rw [if_pos rfl, if_pos (by rw [h.len]; exact hq)]
      simp
    · rw [if_neg e]
      exact ⟨.inr, fun h => h.elim (fun e' => absurd e'.symm e) id⟩
  have hqs : (M q).isSome = true := by
    have := (h.qlow _ (List.mem_cons_self ..)).2 (by omega)
    simpa using this
  have hi : f.code[q]? = some (insAt f q) := by unfold insAt; simp [hq]
  refine ⟨by simpa using h.len, fun m hm => ?_, fun x hx => ?_, ?_, fun m hm k hk hl => ?_⟩
  · rcases (hset m).1 hm with e | e
    · rw [e]; exact hqs
    · exact h.low m e
  · rcases List.mem_append.1 hx with e | e
    · exact h.qlow x (List.mem_cons_of_mem _ e)
    · refine ⟨hpos x e, fun hl => ?_⟩
      obtain ⟨K, hK⟩ := Option.isSome_iff_exists.1 hqs
      have hp := hpos x e
      obtain ⟨L, hL, _⟩ := hf.1.step q K _ hK hi x.toNat (by rw [Int.toNat_of_nonneg hp, ← hN]; exact e) (by omega)
      rw [hL]; rfl
  · rcases h.first with e | e
    · exact .inl ((hset 0).2 (.inr e))
    · rcases List.mem_cons.1 e with e | e
      · exact .inl ((hset 0).2 (.inl (by omega)))
      · exact .inr (List.mem_append_left _ e)
  · rcases (hset m).1 hm with e | e
    · subst e
      exact .inr (List.mem_append_right _ (by rw [hN]; exact hk))
    · rcases h.step m e k hk hl with e2 | e2
      · exact .inl ((hset k).2 (.inr e2))
      · rcases List.mem_cons.1 e2 with e3 | e3
        · exact .inl ((hset k).2 (.inl (by omega)))
        · exact .inr (List.mem_append_left _ e3)
theorem Srch.done {p : Prg} {f : Fun} {M : Flo} {I : List Bool} (hf : IsFlow p f M) (h : Srch f M I []) (ha : (f.args.length : Int) ≤ f.slots) (q : Nat) (hq : q < f.code.length) (hqI : q < I.length) : (M q).isSome = I[q] := by
  have hS : Sol p f (fun m => if I[m]? = some true then some (List.replicate f.slots.toNat 0) else none) := by
    have hz : ∀ K : List Int, K.length = f.slots.toNat → Le (List.replicate f.slots.toNat 0) K := fun K hK => ⟨by simp [hK], fun j => by
      left
      rw [List.getElem?_replicate]
      split <;> rfl⟩
    refine ⟨⟨_, if_pos (h.first.resolve_right (by simp)), hz _ (firstK_len ha)⟩, fun m K hm => ?_, fun m K i hm hi k hk hl => ?_⟩
    · split at hm
      next e =>
        injection hm with hm
        subst hm
        refine ⟨?_, by simp⟩
        rcases Nat.lt_or_ge m I.length with h1 | h1
        · rw [← h.len]; exact h1
        · rw [List.getElem?_eq_none h1] at e; cases e
      next => cases hm
    · split at hm
      next e =>
        injection hm with hm
        subst hm
        have hie : insAt f m = i := by unfold insAt; rw [hi]; rfl
        refine ⟨_, if_pos ((h.step m e k (by rw [hie]; exact hk) hl).resolve_right (by simp)), hz _ (by rw [outK_len]; simp)⟩
      next => cases hm
  have hge : I[q]? = some I[q] := List.getElem?_eq_getElem hqI
  cases hI : I[q] with
  | true =>
    rw [hI] at hge
    exact h.low q hge
  | false =>
    rw [hI] at hge
    cases hm : M q with
    | none => rfl
    | some K =>
      obtain ⟨L, hL, _⟩ := hf.2 _ hS q K hm
      rw [if_neg (by rw [hge]; decide)] at hL
      cases hL
def msrS (I : List Bool) (Q : List Int) : Nat := 3 * I.countP (fun b => !b) + Q.length
theorem msrS_take {I : List Bool} {q : Nat} {Q NL : List Int} {x : Int} (h : I[q]? = some false) (hN : NL.length ≤ 2) : msrS (I.set q true) (Q ++ NL) < msrS I (x :: Q) := by
  have hq : q < I.length := by
    rcases Nat.lt_or_ge q I.length with h1 | h1
    · exact h1
    · rw [List.getElem?_eq_none h1] at h; cases h
  rw [List.getElem?_eq_getElem hq] at h
  injection h with h
  have h1 : (I.set q true).countP (fun b => !b) + 1 = I.countP (fun b => !b) := by
    have h2 : 0 < I.countP (fun b => !b) := List.countP_pos_iff.2 ⟨_, List.getElem_mem hq, by rw [h]; rfl⟩
    rw [List.countP_set hq]
    simp [h]
    omega
  unfold msrS
  simp
  omega
theorem mem_sum {α : Type} (g : α → Nat) : ∀ (l : List α) (x : α), x ∈ l → g x ≤ (l.map g).sum
  | y :: l, x, h => by
    rw [List.map_cons, List.sum_cons]
    rcases List.mem_cons.1 h with e | e
    · subst e; omega
    · have := mem_sum g l x e; omega
theorem prgR_small {p : Prg} (h : bulk p ≤ 3000) : PrgR p := by
  unfold bulk at h
  refine ⟨by omega, by omega, by omega, fun s hs => ?_, fun f hf => ?_⟩
  · have := mem_sum shBulk _ s hs
    unfold shBulk at this
    unfold shBulk at h
    omega
  · have := mem_sum fnBulk _ f hf
    unfold fnBulk at this
    unfold fnBulk at h
    omega
theorem next_pos {p : Prg} {f : Fun} (hp : PrgFit p) (hf : FunFit p f) {q : Nat} (hq : q < f.code.length) : ∀ x ∈ nextK (insAt f q) q, 0 ≤ x := fun x hx => by
  have hi : f.code[q]? = some (insAt f q) := by unfold insAt; simp [hq]
  exact (nextK_in (stepOk hp (hf.ins q _ hi) (by have := hf.args; omega)) hq hx).1
theorem allM_at {n k : Nat} {Ms : Nat → Flo} (hk : k < n) (q : Nat) (h : i64B (k : Int) ∧ i64B (q : Int)) : allM n Ms ⟨((k : Int), (q : Int)), h⟩ = Ms k q := by
  unfold allM
  dsimp only
  rw [if_pos (by omega), if_pos (by omega)]
  simp
theorem allM_len {p : Prg} {n : Nat} {Ms : Nat → Flo} (hp : PrgFit p) (hn : n = p.funcs.length) (hms : ∀ i, i < n → IsFlow p (fnAt p i) (Ms i) ∧ (flowE p (fnAt p i) (Ms i)).1 = 0) : ∀ x K, allM n Ms x = some K → K.length ≤ 100000 := fun x K hx => by
  unfold allM at hx
  split at hx
  next hx1 =>
    split at hx
    · have h1 := (hms x.1.1.toNat (by omega)).1.1.len _ _ hx
      have h2 := hp.fn (fnAt p x.1.1.toNat) (by unfold fnAt; rw [List.getElem?_eq_getElem (by omega)]; exact List.getElem_mem _)
      have := h2.slots
      omega
    · cases hx
  next => cases hx
end Go.Proofs.Ytjcjhfnjamphlaa
