import Derived.Test.YtjcjhfnjamphlaaGreatZBk
import Derived.Deep.Upon
set_option linter.unusedVariables false
set_option linter.unusedSimpArgs false
namespace Go.Proofs.YtjcjhfnjamphlaaGreat
open Go.ChangeShapes Go.WideShapes Go.ChangeAt Go.RowKit Go.Maps
set_option maxRecDepth 100000 in
theorem kindsM_any (w : World) (B mb b nm : Nat) (V : Nat → Prop) (C : Pl → Option (List Int)) (h : MapsAt w B mb b nm V C) (fn q : Int) (hI : i64B fn ∧ i64B q) (hCl : ∀ x K, C x = some K → K.length ≤ 100000) :
  Calls Tryz.prog 8 #[.pointer (some ⟨mb, 0, none⟩), .int .i64 fn, .int .i64 q] w fun e w' => ∃ v, e = .returned v ∧ Own intE w' w.heap.size v ((C ⟨(fn, q), hI⟩).getD []) ∧ Below w.heap.size w w' := by
 obtain ⟨hr, hm, _⟩ := h
 have k0 : w.cell? ⟨mb, 0, none⟩ = some (.map (some b)) := (row_cell hr 0).1
 cases hc : C ⟨(fn, q), hI⟩ with
 | none =>
  have hlk : (Instr.lookup 63 (.map (some b)) (.agg #[.int .i64 fn, .int .i64 q]) false).run Tryz.prog w = .ok (.slice none 0 0) w := (hm.none_run _ hc).2
  have cl := cloneInts_any w (fun _ => False) none [] 0 (fun j hj => by cases hj) (by simp)
  clear hr hm hCl hc
  have CL := Lib.hid cl; clear cl
  go_enter Tryz.func8, Tryz.ntmps8
  go_wp2_with fail
  refine CL.out.mono ?_
  rintro e w1 ⟨v, rfl, ho, hb⟩
  have HO := Lib.hid ho; clear ho
  have HB := Lib.hid hb; clear hb
  clear hlk
  go_wp2_with fail
  go_ret
  exact ⟨v, rfl, HO.out, HB.out⟩
 | some K =>
  obtain ⟨a, c, hs, _, hlk⟩ := hm.some_run _ K hc
  have hlk : (Instr.lookup 63 (.map (some b)) (.agg #[.int .i64 fn, .int .i64 q]) false).run Tryz.prog w = .ok (.slice a K.length c) w := hlk
  have cl := cloneInts_any w _ a K c hs (by have := hCl _ K hc; omega)
  clear hr hm hCl hc hs
  have CL := Lib.hid cl; clear cl
  go_enter Tryz.func8, Tryz.ntmps8
  go_wp2_with fail
  refine CL.out.mono ?_
  rintro e w1 ⟨v, rfl, ho, hb⟩
  have HO := Lib.hid ho; clear ho
  have HB := Lib.hid hb; clear hb
  clear hlk
  go_wp2_with fail
  go_ret
  exact ⟨v, rfl, HO.out, HB.out⟩
set_option maxRecDepth 100000 in
theorem reachedM_any (w : World) (B mb b nm : Nat) (V : Nat → Prop) (C : Pl → Option (List Int)) (h : MapsAt w B mb b nm V C) (fn q : Int) (hI : i64B fn ∧ i64B q) :
  Calls Tryz.prog 12 #[.pointer (some ⟨mb, 0, none⟩), .int .i64 fn, .int .i64 q] w fun e w' => e = .returned (.bool (C ⟨(fn, q), hI⟩).isSome) ∧ w = w' := by
 obtain ⟨hr, hm, _⟩ := h
 have k0 : w.cell? ⟨mb, 0, none⟩ = some (.map (some b)) := (row_cell hr 0).1
 cases hc : C ⟨(fn, q), hI⟩ with
 | none =>
  have hlk : (Instr.lookup 63 (.map (some b)) (.agg #[.int .i64 fn, .int .i64 q]) true).run Tryz.prog w = .ok (.tuple #[.slice none 0 0, .bool false]) w := (hm.none_run _ hc).1
  clear hr hm hc
  go_enter Tryz.func12, Tryz.ntmps12
  go_wp2_with fail
  go_ret
  exact ⟨rfl, rfl⟩
 | some K =>
  obtain ⟨a, c, _, hlk, _⟩ := hm.some_run _ K hc
  have hlk : (Instr.lookup 63 (.map (some b)) (.agg #[.int .i64 fn, .int .i64 q]) true).run Tryz.prog w = .ok (.tuple #[.slice a K.length c, .bool true]) w := hlk
  clear hr hm hc
  go_enter Tryz.func12, Tryz.ntmps12
  go_wp2_with fail
  go_ret
  exact ⟨rfl, rfl⟩
theorem MapsAt.below {w w' : World} {B mb b nm : Nat} {V : Nat → Prop} {C : Pl → Option (List Int)} (h : MapsAt w B mb b nm V C) (hb : Below w.heap.size w w') : MapsAt w' B mb b nm V C := by
 obtain ⟨h1, h2, h3, h4, h5⟩ := h
 exact ⟨(Fr.of_below hb (fun _ => False)).heap h1 (fun h => h), h2.fr (Fr.of_below hb (fun _ => False)) (fun h => h) (fun _ _ h => h), h3, h4, fun q hq => ⟨(h5 q hq).1, Nat.lt_of_lt_of_le (h5 q hq).2 hb.size⟩⟩
def pf : Prg := ⟨[], [[1]], [⟨[], 0, 1, [], [⟨1, 0, 1, 0⟩, ⟨10, 0, 3, 0⟩, ⟨11, 0, 0, 0⟩, ⟨27, 0, 0, 0⟩]⟩]⟩
def ff : Fun := ⟨[], 0, 1, [], [⟨1, 0, 1, 0⟩, ⟨10, 0, 3, 0⟩, ⟨11, 0, 0, 0⟩, ⟨27, 0, 0, 0⟩]⟩
theorem pf_S : progS pf = (0, 0, 0) := by decide +kernel
theorem pf_B : PrgB pf ∧ PrgR pf := by
 unfold PrgB PrgR FunB Ins.wf i64B pf
 simp
def sx : Flo := fun q => if q = 0 then some [0] else if q = 1 then some [1] else if q = 2 then some [1] else if q = 3 then some [0] else none
theorem le_one {x y : Int} (h : x = 0 ∨ x = y) : Le [x] [y] := ⟨rfl, fun j => by
 cases j with
 | zero => simpa using h
 | succ j => exact .inl rfl⟩
theorem one_le {K : List Int} {y : Int} (h : Le K [y]) : ∃ x, K = [x] ∧ (x = 0 ∨ x = y) := by
 obtain ⟨h1, h2⟩ := h
 match K, h1 with
 | [x], _ => exact ⟨x, rfl, by simpa using h2 0⟩
theorem le_to {K : List Int} {x : Int} (h : Le [x] K) : ∃ y, K = [y] ∧ (x = 0 ∨ x = y) := by
 obtain ⟨h1, h2⟩ := h
 match K, h1 with
 | [y], _ => exact ⟨y, rfl, by simpa using h2 0⟩
theorem sx_sol : Sol pf ff sx := by
 refine ⟨⟨[0], rfl, Le.refl _⟩, fun q K hq => ?_, fun q K i hq hi m hm hml => ?_⟩
 ·unfold sx at hq
  split at hq
  ·injection hq with hq; subst hq; subst_vars; exact ⟨by decide, rfl⟩
  ·split at hq
   ·injection hq with hq; subst hq; subst_vars; exact ⟨by decide, rfl⟩
   ·split at hq
    ·injection hq with hq; subst hq; subst_vars; exact ⟨by decide, rfl⟩
    ·split at hq
     ·injection hq with hq; subst hq; subst_vars; exact ⟨by decide, rfl⟩
     ·cases hq
 ·have hq4 : q = 0 ∨ q = 1 ∨ q = 2 ∨ q = 3 := by
   have : q < 4 := by
    rcases Nat.lt_or_ge q 4 with h | h
    ·exact h
    ·rw [List.getElem?_eq_none (by exact h)] at hi; cases hi
   omega
  rcases hq4 with rfl | rfl | rfl | rfl
  ·injection hq with hq; subst hq
   injection hi with hi; subst hi
   have hm : (m : Int) ∈ [(1 : Int)] := hm
   simp at hm
   obtain rfl : m = 1 := by omega
   exact ⟨[1], rfl, le_one (.inr rfl)⟩
  ·injection hq with hq; subst hq
   injection hi with hi; subst hi
   have hm : (m : Int) ∈ [(2 : Int), 3] := hm
   simp at hm
   rcases hm with hm | hm
   ·obtain rfl : m = 2 := by omega
    exact ⟨[1], rfl, le_one (.inr rfl)⟩
   ·obtain rfl : m = 3 := by omega
    exact ⟨[0], rfl, le_one (.inl rfl)⟩
  ·injection hq with hq; subst hq
   injection hi with hi; subst hi
   have hm : (m : Int) ∈ [(3 : Int)] := hm
   simp at hm
   obtain rfl : m = 3 := by omega
   exact ⟨[0], rfl, le_one (.inl rfl)⟩
  ·injection hi with hi; subst hi
   have hm : (m : Int) ∈ ([] : List Int) := hm
   cases hm
theorem pf_flow {M : Flo} (h : IsFlow pf ff M) : (∃ x, M 0 = some [x]) ∧ M 1 = some [1] ∧ M 2 = some [1] ∧ M 3 = some [0] ∧ M 4 = none := by
 obtain ⟨hs, hg⟩ := h
 have hg := hg sx sx_sol
 obtain ⟨K0, h0, hle0⟩ := hs.first
 obtain ⟨x0, rfl, _⟩ := one_le (show Le K0 [0] from hle0)
 obtain ⟨K1, h1, _⟩ := hs.step 0 _ _ h0 rfl 1 (by show (1 : Int) ∈ [(1 : Int)]; simp) (by decide)
 obtain ⟨L1, hL1, hl1⟩ := hg 1 K1 h1
 injection hL1 with hL1
 subst hL1
 obtain ⟨y1, rfl, hy1⟩ := le_to hl1
 obtain rfl : y1 = 1 := by omega
 obtain ⟨K2, h2, _⟩ := hs.step 1 _ _ h1 rfl 2 (by show (2 : Int) ∈ [(2 : Int), 3]; simp) (by decide)
 obtain ⟨L2, hL2, hl2⟩ := hg 2 K2 h2
 injection hL2 with hL2
 subst hL2
 obtain ⟨y2, rfl, hy2⟩ := le_to hl2
 obtain rfl : y2 = 1 := by omega
 obtain ⟨K3, h3, hl3⟩ := hs.step 1 _ _ h1 rfl 3 (by show (3 : Int) ∈ [(2 : Int), 3]; simp) (by decide)
 obtain ⟨K3', h3', hl3'⟩ := hs.step 2 _ _ h2 rfl 3 (by show (3 : Int) ∈ [(3 : Int)]; simp) (by decide)
 rw [h3] at h3'
 injection h3' with e
 subst e
 obtain ⟨x3, rfl, hx3⟩ := one_le (show Le K3 [1] from hl3)
 obtain ⟨x3', e, hx3'⟩ := one_le (show Le [x3] [16] from hl3')
 injection e with e _
 subst e
 obtain rfl : x3 = 0 := by omega
 refine ⟨⟨x0, h0⟩, h1, h2, h3, ?_⟩
 cases h4 : M 4 with
 | none => rfl
 | some K =>
  have := (hs.len 4 K h4).1
  exact absurd this (by decide)
theorem pf_ok {M : Flo} (h : IsFlow pf ff M) : (flowE pf ff M).1 = 0 := by
 obtain ⟨⟨x, h0⟩, h1, h2, h3, h4⟩ := pf_flow h
 refine flowE_ok ?_ ?_
 ·exact find_none (fun q hq => by
   have hq : q < 4 := hq
   have hq4 : q = 0 ∨ q = 1 ∨ q = 2 ∨ q = 3 := by omega
   unfold outsAt
   rcases hq4 with rfl | rfl | rfl | rfl
   ·rw [h0]; rfl
   ·rw [h1]; rfl
   ·rw [h2]; rfl
   ·rw [h3]; rfl)
 ·exact find_none (fun q hq => by
   have hq : q < 4 := hq
   have hq4 : q = 0 ∨ q = 1 ∨ q = 2 ∨ q = 3 := by omega
   unfold wrongAt
   rcases hq4 with rfl | rfl | rfl | rfl
   ·rw [h0]; rfl
   ·rw [h1]; rfl
   ·rw [h2]; rfl
   ·rw [h3]; rfl)
theorem pf_err {E : Int} {fn pc : Nat} (h : FlowErr pf E fn pc) : False := by
 obtain ⟨hE, h⟩ := h
 rcases h with h | ⟨_, hfn, Ms, hm, _, hf⟩
 ·rw [pf_S] at h
  injection h with h
  exact hE h.symm
 ·have hfn : fn < 1 := hfn
  obtain rfl : fn = 0 := by omega
  have := pf_ok (hm 0 (Nat.le_refl _))
  have hf : flowE pf ff (Ms 0) = (E, pc) := hf
  rw [hf] at this
  exact hE this
end Go.Proofs.YtjcjhfnjamphlaaGreat
namespace Go.Proofs.YtjcjhfnjamphlaaGreat
open Go.ChangeShapes Go.WideShapes Go.ChangeAt Go.RowKit Go.Maps
def boolsV (l : List Bool) : List Value := l.map Value.bool
theorem make_bools (w : World) (n : Nat) (hn : n ≤ 100000) : (Instr.makeSlice 103 (.int .i64 n) (.int .i64 n)).run Tryz.prog w = .ok (.slice (some ⟨w.heap.size, 0, none⟩) n n) (w.alloc (.cells (boolsV (List.replicate n false)).toArray 4)) := by
 have hinf : (Tryz.prog.info? 4).map (fun i => (i.zero, i.size, i.bytes)) = some (some (.bool false), 1, 1) := by kernel_rfl
 obtain ⟨i0, hi, hz0, hz1, hz2⟩ := info_parts hinf
 have h := run_makeSlice (P := Tryz.prog) (w := w) 103 4 i0 (.bool false) Tryz.underlying103 hi hz0 .i64 .i64 (n : Int) (n : Int) (by omega) (Int.le_refl _) (by rw [hz1]; show (n : Int).toNat * 1 ≤ 16777216; omega) (by rw [hz2]; show (1 : Int) * (n : Int) ≤ 281474976710656; omega) (by omega)
 rw [h]
 simp only [Int.toNat_natCast, hz1]
 have e : madeCells (Value.bool false).cells (n * 1) = (boolsV (List.replicate n false)).toArray := by
  show madeCells #[Value.bool false] (n * 1) = _
  unfold madeCells boolsV
  apply Array.ext
  ·simp
  ·intro i h1 h2
   simp [Nat.mod_one]
 rw [e]
theorem bools_set {w : World} {g : Nat} {l : List Bool} (h : w.heap[g]? = some (.cells (boolsV l).toArray 4)) (q : Nat) (b : Bool) : (w.setCell ⟨g, q, none⟩ (.bool b)).heap[g]? = some (.cells (boolsV (l.set q b)).toArray 4) := by
 have h1 := row_set h q (.bool b)
 rw [h1]
 simp [boolsV]
theorem bools_cell {w : World} {g : Nat} {l : List Bool} (h : w.heap[g]? = some (.cells (boolsV l).toArray 4)) (q : Nat) (hq : q < l.length) : w.cell? ⟨g, q, none⟩ = some (.bool l[q]) ∧ w.frozen? ⟨g, q, none⟩ = false := by
 refine ⟨?_, (row_cell h q).2⟩
 rw [(row_cell h q).1]
 simp [boolsV, hq]
theorem mem_sum {α : Type} (g : α → Nat) : ∀ (l : List α) (x : α), x ∈ l → g x ≤ (l.map g).sum
 | y :: l, x, h => by
  rw [List.map_cons, List.sum_cons]
  rcases List.mem_cons.1 h with e | e
  ·subst e; omega
  ·have := mem_sum g l x e; omega
theorem prgR_small {p : Prg} (h : bulk p ≤ 3000) : PrgR p := by
 unfold bulk at h
 refine ⟨by omega, by omega, by omega, fun s hs => ?_, fun f hf => ?_⟩
 ·have := mem_sum shBulk _ s hs
  unfold shBulk at this
  unfold shBulk at h
  omega
 ·have := mem_sum fnBulk _ f hf
  unfold fnBulk at this
  unfold fnBulk at h
  omega
theorem allM_at {n k : Nat} {Ms : Nat → Flo} (hk : k < n) (q : Nat) (h : i64B (k : Int) ∧ i64B (q : Int)) : allM n Ms ⟨((k : Int), (q : Int)), h⟩ = Ms k q := by
 unfold allM
 dsimp only
 rw [if_pos (by omega), if_pos (by omega)]
 simp
theorem allM_len {p : Prg} {n : Nat} {Ms : Nat → Flo} (hp : PrgFit p) (hn : n = p.funcs.length) (hms : ∀ i, i < n → IsFlow p (fnAt p i) (Ms i) ∧ (flowE p (fnAt p i) (Ms i)).1 = 0) : ∀ x K, allM n Ms x = some K → K.length ≤ 100000 := fun x K hx => by
 unfold allM at hx
 split at hx
 next hx1 =>
  split at hx
  ·have h1 := (hms x.1.1.toNat (by omega)).1.1.len _ _ hx
   have h2 := hp.fn (fnAt p x.1.1.toNat) (by unfold fnAt; rw [List.getElem?_eq_getElem (by omega)]; exact List.getElem_mem _)
   have := h2.slots
   omega
  ·cases hx
 next => cases hx
end Go.Proofs.YtjcjhfnjamphlaaGreat
namespace Go.Proofs.YtjcjhfnjamphlaaGreat
theorem i64B_small {x : Int} (h : 0 ≤ x) (h2 : x < 1000000) : i64B x := ⟨by omega, by omega⟩
theorem getD_b {l : List Int} (h : ∀ x ∈ l, i64B x) (k : Nat) : i64B ((l[k]?).getD 0) := by
 rcases Nat.lt_or_ge k l.length with h1 | h1
 ·rw [List.getElem?_eq_getElem h1]
  exact h _ (List.getElem_mem h1)
 ·rw [List.getElem?_eq_none h1]
  exact i64B_small (by decide) (by decide)
theorem kindA_b {K : List Int} (h : ∀ x ∈ K, i64B x) (k : Int) : i64B (kindA K k) := by
 unfold kindA
 split
 ·exact getD_b h _
 ·exact i64B_small (by decide) (by decide)
theorem fieldA_b {p : Prg} (hp : PrgB p) (s k : Int) : i64B (fieldA p s k) := by
 unfold fieldA
 split
 ·refine getD_b (fun x hx => ?_) _
  cases h : p.shapes[s.toNat]? with
  | none => rw [h] at hx; cases hx
  | some l =>
   rw [h] at hx
   exact hp.2.1 l (List.mem_of_getElem? h) x hx
 ·exact i64B_small (by decide) (by decide)
theorem throughA_b {p : Prg} (hp : PrgB p) (op : Int) (K : List Int) (s k : Int) : i64B (throughA p op K s k) := by
 unfold throughA thrV
 split
 ·exact i64B_small (by decide) (by decide)
 ·exact fieldA_b hp _ _
theorem setsK_b {p : Prg} {f : Fun} {i : Ins} {K : List Int} {n : Nat} (hf : PrgFit p) (hp : PrgB p) (hff : FunFit p f) (ho : StepOk p f i n) (hK : ∀ x ∈ K, i64B x) : i64B (setsK p f i K) := by
 unfold setsK
 split
 ·exact kindA_b hK _
 split
 next h => have := ho.news h; exact i64B_small (by omega) (by omega)
 split
 ·exact throughA_b hp _ _ _ _
 split
 ·exact getD_b hp.1 _
 split
 next h =>
  have h1 := ho.addr h
  have h2 : i.b.toNat < f.objects.length := by omega
  rw [List.getElem?_eq_getElem h2]
  have h3 := withinB_of (hff.objs _ (List.getElem_mem h2))
  have := hf.shapes
  exact i64B_small (by show 0 ≤ 64 + f.objects[i.b.toNat]; omega) (by show 64 + f.objects[i.b.toNat] < 1000000; omega)
 split
 next h =>
  have h1 := ho.call (.inl h)
  exact (hp.2.2 _ (calleeR_mem h1.1)).2.1
 ·exact i64B_small (by decide) (by decide)
theorem set_b {K : List Int} (h : ∀ x ∈ K, i64B x) (k : Nat) {y : Int} (hy : i64B y) : ∀ x ∈ K.set k y, i64B x := fun x hx => by
 rcases List.mem_or_eq_of_mem_set hx with h1 | h1
 ·exact h x h1
 ·exact h1 ▸ hy
theorem outK_b {p : Prg} {f : Fun} {i : Ins} {K : List Int} {n : Nat} (hf : PrgFit p) (hp : PrgB p) (hff : FunFit p f) (ho : StepOk p f i n) (hK : ∀ x ∈ K, i64B x) : ∀ x ∈ outK p f i K, i64B x := by
 have hs := setsK_b hf hp hff ho hK
 have h0 : i64B 0 := i64B_small (by decide) (by decide)
 have h1 : ∀ x ∈ (if writesK p i = true then K.set i.a.toNat (if readsK p f.result i K = true then setsK p f i K else 0) else K), i64B x := by
  split
  ·refine set_b hK _ ?_
   split
   ·exact hs
   ·exact h0
  ·exact hK
 unfold outK
 split
 ·exact set_b h1 _ (i64B_small (by decide) (by decide))
 ·exact h1
theorem le_b {K L : List Int} (h : Le K L) (hL : ∀ x ∈ L, i64B x) : ∀ x ∈ K, i64B x := fun x hx => by
 obtain ⟨j, hj, rfl⟩ := List.getElem_of_mem hx
 have h1 := h.2 j
 rw [List.getElem?_eq_getElem hj] at h1
 have h1 : K[j] = 0 ∨ K[j] = (L[j]?).getD 0 := h1
 rcases h1 with e | e
 ·rw [e]; exact i64B_small (by decide) (by decide)
 ·rw [e]; exact getD_b hL j
theorem firstK_b {p : Prg} {f : Fun} (hp : PrgB p) (hf : f ∈ p.funcs) : ∀ x ∈ firstK f, i64B x := fun x hx => by
 unfold firstK at hx
 rcases List.mem_append.1 hx with h | h
 ·exact (hp.2.2 f hf).1 x h
 ·rw [(List.mem_replicate.1 h).2]; exact i64B_small (by decide) (by decide)
open Classical in
theorem next_in {p : Prg} {f : Fun} (hp : PrgFit p) (hf : FunFit p f) {q : Nat} (hq : q < f.code.length) : ∀ x ∈ nextK (insAt f q) q, 0 ≤ x ∧ x ≤ (f.code.length : Int) := fun x hx => by
 have hi : f.code[q]? = some (insAt f q) := by unfold insAt; simp [hq]
 exact nextK_in (stepOk hp (hf.ins q _ hi) (by have := hf.args; omega)) hq hx
end Go.Proofs.YtjcjhfnjamphlaaGreat
namespace Go.Proofs.YtjcjhfnjamphlaaGreat
def PendAt (more : Bool) (pc : Nat) : Nat → Int → Prop := fun q _ => more = true ∨ pc ≤ q
def PendIn (more : Bool) (pc : Nat) (rem : List Int) : Nat → Int → Prop := fun q m => more = true ∨ pc < q ∨ (q = pc ∧ m ∈ rem)
theorem FInv.enter {p : Prg} {f : Fun} {M : Flo} {more : Bool} {pc : Nat} {i : Ins} {NL : List Int} (h : FInv p f M (PendAt more pc)) (hi : f.code[pc]? = some i) (hN : NL = nextK i pc) : FInv p f M (PendIn more pc NL) :=
 ⟨h.low, h.first, h.len, fun q K' i' hq hi' m hm1 hml hn => h.step q K' i' hq hi' m hm1 hml (fun hP => by
  rcases hP with hP | hP
  ·exact hn (.inl hP)
  ·by_cases e : q = pc
   ·subst e
    rw [hi] at hi'
    injection hi' with hi'
    subst hi'
    exact hn (.inr (.inr ⟨rfl, hN ▸ hm1⟩))
   ·exact hn (.inr (.inl (by omega))))⟩
theorem FInv.leave {p : Prg} {f : Fun} {M : Flo} {more : Bool} {pc : Nat} (h : FInv p f M (PendIn more pc [])) : FInv p f M (PendAt more (pc + 1)) :=
 h.weaken (fun q m hP => by
  rcases hP with hP | hP | hP
  ·exact .inl hP
  ·exact .inr hP
  ·cases hP.2)
theorem FInv.pass {p : Prg} {f : Fun} {M : Flo} {more : Bool} {pc : Nat} (h : FInv p f M (PendAt more pc)) (hn : M pc = none) : FInv p f M (PendAt more (pc + 1)) :=
 ⟨h.low, h.first, h.len, fun q K' i' hq hi' m hm1 hml hP => h.step q K' i' hq hi' m hm1 hml (fun hP' => by
  rcases hP' with hP' | hP'
  ·exact hP (.inl hP')
  ·by_cases e : q = pc
   ·subst e
    rw [hn] at hq
    cases hq
   ·exact hP (.inr (by show pc + 1 ≤ q; omega)))⟩
theorem FInv.beyond {p : Prg} {f : Fun} {M : Flo} {more : Bool} {pc : Nat} {x : Int} {rem : List Int} (h : FInv p f M (PendIn more pc (x :: rem))) (hx : ¬ x < f.code.length) : FInv p f M (PendIn more pc rem) :=
 ⟨h.low, h.first, h.len, fun q K' i' hq hi' m hm1 hml hP => h.step q K' i' hq hi' m hm1 hml (fun hP' => by
  rcases hP' with hP' | hP' | ⟨e1, e2⟩
  ·exact hP (.inl hP')
  ·exact hP (.inr (.inl hP'))
  ·rcases List.mem_cons.1 e2 with e3 | e3
   ·omega
   ·exact hP (.inr (.inr ⟨e1, e3⟩)))⟩
theorem FInv.turned {p : Prg} {f : Fun} {M : Flo} {more : Bool} {pc n : Nat} {K : List Int} {l : List Int} (h : FInv p f M (PendIn more pc l)) (hn : n < f.code.length) (hK : K.length = f.slots.toNat) (hlow : ∀ S, Sol p f S → ∃ L, S n = some L ∧ Le L K) : ∀ rem, FInv p f (comeM M n K) (PendIn true pc rem) := fun _ =>
 (h.come n K hn hK hlow).1.weaken (fun _ _ _ => .inl rfl)
theorem FInv.still {p : Prg} {f : Fun} {M : Flo} {more : Bool} {pc n : Nat} {K0 : List Int} {i : Ins} {rem : List Int} (h : FInv p f M (PendIn more pc ((n : Int) :: rem))) (h0 : more = true ∨ M pc = some K0) (hi : f.code[pc]? = some i) (hn : n < f.code.length) (hK : (outK p f i K0).length = f.slots.toNat)
  (hlow : ∀ S, Sol p f S → ∃ L, S n = some L ∧ Le L (outK p f i K0)) (hc : ¬ changes M n (outK p f i K0)) : FInv p f M (PendIn more pc rem) := by
 obtain ⟨_, L, hL, hle⟩ := h.come n _ hn hK hlow
 rw [comeM_same hc] at hL
 refine ⟨h.low, h.first, h.len, fun q K' i' hq hi' m hm1 hml hP => ?_⟩
 by_cases hP' : PendIn more pc ((n : Int) :: rem) q m
 ·rcases hP' with hP' | hP' | ⟨e1, e2⟩
  ·exact absurd (.inl hP') hP
  ·exact absurd (.inr (.inl hP')) hP
  ·rcases List.mem_cons.1 e2 with e3 | e3
   ·rcases h0 with h0 | h0
    ·exact absurd (.inl h0) hP
    ·have e3 : m = n := by omega
     subst e3 e1
     rw [h0] at hq
     injection hq with hq
     subst hq
     rw [hi] at hi'
     injection hi' with hi'
     subst hi'
     exact ⟨L, hL, hle⟩
   ·exact absurd (.inr (.inr ⟨e1, e3⟩)) hP
 ·exact h.step q K' i' hq hi' m hm1 hml hP'
theorem FInv.ended {p : Prg} {f : Fun} {M : Flo} (h : FInv p f M (PendAt false f.code.length)) : IsFlow p f M := by
 have h2 : FInv p f M (fun _ _ => False) := ⟨h.low, h.first, h.len, fun q K' i' hq hi' m hm1 hml _ => h.step q K' i' hq hi' m hm1 hml (fun hP => by
  rcases hP with hP | hP
  ·cases hP
  ·have := (h.len q K' hq).1; omega)⟩
 exact h2.done (fun _ _ h => h)
theorem FInv.again {p : Prg} {f : Fun} {M : Flo} {P : Nat → Int → Prop} (h : FInv p f M P) : FInv p f M (PendAt false 0) := h.weaken (fun _ _ _ => .inr (Nat.zero_le _))
theorem comeM_none' {M : Flo} {n : Nat} {K : List Int} (h : M n = none) : changes M n K := fun was hw => by rw [h] at hw; cases hw
end Go.Proofs.YtjcjhfnjamphlaaGreat
namespace Go.Proofs.YtjcjhfnjamphlaaGreat
open Go.ChangeShapes Go.WideShapes Go.ChangeAt Go.RowKit Go.Maps
def slZ : Value := .slice none 0 0
structure Rf (w : World) (N b1 b2 : Nat) (V : Nat → Prop) (M : Flo) : Prop where
 rows : ∃ R : List Value, w.heap[b1]? = some (.cells R.toArray 22) ∧ R.length = N ∧ ∀ q (h : q < R.length), (M q = none → R[q] = slZ) ∧ ∀ K, M q = some K → ∃ a c, R[q] = .slice (some a) K.length c ∧ IntSl w V (some a) K
 marks : ∃ I : List Bool, w.heap[b2]? = some (.cells (boolsV I).toArray 4) ∧ I.length = N ∧ ∀ q (h : q < I.length), I[q] = (M q).isSome
 ne : b1 ≠ b2
 v : ∀ k, V k → k ≠ b1 ∧ k ≠ b2 ∧ k < w.heap.size
def WB (b1 b2 : Nat) : Nat → Prop := fun k => k = b1 ∨ k = b2
theorem Rf.fr {F : Nat → Prop} {w w' : World} {N b1 b2 : Nat} {V : Nat → Prop} {M : Flo} (h : Rf w N b1 b2 V M) (hf : Fr F w w') (h1 : ¬ F b1) (h2 : ¬ F b2) (hV : ∀ k, V k → ¬ F k) : Rf w' N b1 b2 V M := by
 obtain ⟨⟨R, r1, r2, r3⟩, ⟨I, i1, i2, i3⟩, hn, hv⟩ := h
 refine ⟨⟨R, hf.heap r1 h1, r2, fun q hq => ⟨(r3 q hq).1, fun K hK => ?_⟩⟩, ⟨I, hf.heap i1 h2, i2, i3⟩, hn, fun k hk => ?_⟩
 ·obtain ⟨a, c, e, hs⟩ := (r3 q hq).2 K hK
  exact ⟨a, c, e, hs.fr hf hV⟩
 ·obtain ⟨a1, a2, a3⟩ := hv k hk
  exact ⟨a1, a2, Nat.lt_of_lt_of_le a3 hf.size⟩
theorem Rf.below {w w' : World} {N b1 b2 : Nat} {V : Nat → Prop} {M : Flo} (h : Rf w N b1 b2 V M) (hb : Below w.heap.size w w') : Rf w' N b1 b2 V M := h.fr (Fr.of_below hb (fun _ => False)) (fun h => h) (fun h => h) (fun _ _ h => h)
theorem Rf.wide {w : World} {N b1 b2 : Nat} {V V' : Nat → Prop} {M : Flo} (h : Rf w N b1 b2 V M) (hV : ∀ k, V k → V' k) (hv' : ∀ k, V' k → k ≠ b1 ∧ k ≠ b2 ∧ k < w.heap.size) : Rf w N b1 b2 V' M := by
 obtain ⟨⟨R, r1, r2, r3⟩, hm, hn, hv⟩ := h
 refine ⟨⟨R, r1, r2, fun q hq => ⟨(r3 q hq).1, fun K hK => ?_⟩⟩, hm, hn, hv'⟩
 obtain ⟨a, c, e, hs⟩ := (r3 q hq).2 K hK
 exact ⟨a, c, e, hs.wide hV⟩
theorem Rf.mark {w : World} {N b1 b2 : Nat} {V : Nat → Prop} {M : Flo} (h : Rf w N b1 b2 V M) {q : Nat} (hq : q < N) : w.cell? ⟨b2, q, none⟩ = some (.bool (M q).isSome) ∧ w.frozen? ⟨b2, q, none⟩ = false := by
 obtain ⟨I, i1, i2, i3⟩ := h.marks
 obtain ⟨c1, c2⟩ := bools_cell i1 q (by omega)
 exact ⟨by rw [c1, i3 q (by omega)], c2⟩
theorem Rf.cell {w : World} {N b1 b2 : Nat} {V : Nat → Prop} {M : Flo} (h : Rf w N b1 b2 V M) {q : Nat} (hq : q < N) : ∃ a n c, w.cell? ⟨b1, q, none⟩ = some (.slice a n c) ∧ w.frozen? ⟨b1, q, none⟩ = false ∧ (M q = none → a = none ∧ n = 0 ∧ c = 0) ∧ ∀ K, M q = some K → n = K.length ∧ IntSl w V a K ∧ a.isSome = true := by
 obtain ⟨R, r1, r2, r3⟩ := h.rows
 have hqR : q < R.length := by omega
 have c1 := (row_cell r1 q).1
 have c2 := (row_cell r1 q).2
 have e : R.toArray[q]? = some R[q] := by simp [hqR]
 rw [e] at c1
 obtain ⟨h1, h2⟩ := r3 q hqR
 cases hm : M q with
 | none =>
  rw [h1 hm] at c1
  exact ⟨none, 0, 0, c1, c2, fun _ => ⟨rfl, rfl, rfl⟩, fun K hK => by cases hK⟩
 | some K =>
  obtain ⟨a, c, e2, hs⟩ := h2 K hm
  rw [e2] at c1
  exact ⟨some a, _, c, c1, c2, fun h => (by cases h), fun K' hK' => (by injection hK' with hK'; subst hK'; exact ⟨rfl, hs, rfl⟩)⟩
theorem Rf.put {w : World} {N b1 b2 : Nat} {V : Nat → Prop} {M M' : Flo} (h : Rf w N b1 b2 V M) {q : Nat} (hq : q < N) (a : Addr) (K : List Int) (c : Nat) (hs : IntSl w V (some a) K) (hM : ∀ r, M' r = if r = q then some K else M r) (hm : (M q).isSome = true) :
  Rf (w.setCell ⟨b1, q, none⟩ (.slice (some a) K.length c)) N b1 b2 V M' := by
 have hf := (Fr.refl (onB b1) w).setCell (p := ⟨b1, q, none⟩) (fun _ => rfl) (.slice (some a) K.length c)
 obtain ⟨⟨R, r1, r2, r3⟩, ⟨I, i1, i2, i3⟩, hn, hv⟩ := h
 have hV : ∀ k, V k → ¬ onB b1 k := fun k hk e => (hv k hk).1 e
 have r1' := row_set r1 q (.slice (some a) K.length c)
 have er : R.toArray.setIfInBounds q (.slice (some a) K.length c) = (R.set q (.slice (some a) K.length c)).toArray := by simp
 rw [er] at r1'
 refine ⟨⟨_, r1', by simpa using r2, fun r hr => ?_⟩, ⟨I, hf.heap i1 (fun e => hn e.symm), i2, fun r hr => ?_⟩, hn, fun k hk => ⟨(hv k hk).1, (hv k hk).2.1, Nat.lt_of_lt_of_le (hv k hk).2.2 hf.size⟩⟩
 ·rw [hM r]
  have hr' : r < R.length := by simpa using hr
  by_cases e : r = q
  ·subst e
   rw [if_pos rfl]
   refine ⟨fun h => (by cases h), fun K' hK' => ?_⟩
   injection hK' with hK'
   subst hK'
   exact ⟨a, c, by simp, hs.fr hf hV⟩
  ·rw [if_neg e, List.getElem_set_ne (fun e' => e e'.symm)]
   refine ⟨(r3 r hr').1, fun K' hK' => ?_⟩
   obtain ⟨a', c', e', hs'⟩ := (r3 r hr').2 K' hK'
   exact ⟨a', c', e', hs'.fr hf hV⟩
 ·rw [hM r, i3 r hr]
  by_cases e : r = q
  ·subst e
   rw [if_pos rfl, hm]
   rfl
  ·rw [if_neg e]
theorem Rf.new {w : World} {N b1 b2 : Nat} {V : Nat → Prop} {M M' : Flo} (h : Rf w N b1 b2 V M) {q : Nat} (hq : q < N) (a : Addr) (K : List Int) (c : Nat) (hs : IntSl w V (some a) K) (hM : ∀ r, M' r = if r = q then some K else M r) :
  Rf ((w.setCell ⟨b1, q, none⟩ (.slice (some a) K.length c)).setCell ⟨b2, q, none⟩ (.bool true)) N b1 b2 V M' := by
 have hf := (Fr.refl (onB b1) w).setCell (p := ⟨b1, q, none⟩) (fun _ => rfl) (.slice (some a) K.length c)
 have hf2 := (Fr.refl (onB b2) (w.setCell ⟨b1, q, none⟩ (.slice (some a) K.length c))).setCell (p := ⟨b2, q, none⟩) (fun _ => rfl) (.bool true)
 obtain ⟨⟨R, r1, r2, r3⟩, ⟨I, i1, i2, i3⟩, hn, hv⟩ := h
 have hV : ∀ k, V k → ¬ onB b1 k := fun k hk e => (hv k hk).1 e
 have hV2 : ∀ k, V k → ¬ onB b2 k := fun k hk e => (hv k hk).2.1 e
 have r1' := row_set r1 q (.slice (some a) K.length c)
 have er : R.toArray.setIfInBounds q (.slice (some a) K.length c) = (R.set q (.slice (some a) K.length c)).toArray := by simp
 rw [er] at r1'
 have i1' := bools_set (hf.heap i1 (fun e => hn e.symm)) q true
 refine ⟨⟨_, hf2.heap r1' (fun e => hn e), by simpa using r2, fun r hr => ?_⟩, ⟨_, i1', by simpa using i2, fun r hr => ?_⟩, hn, fun k hk => ⟨(hv k hk).1, (hv k hk).2.1, Nat.lt_of_lt_of_le (Nat.lt_of_lt_of_le (hv k hk).2.2 hf.size) hf2.size⟩⟩
 ·rw [hM r]
  have hr' : r < R.length := by simpa using hr
  by_cases e : r = q
  ·subst e
   rw [if_pos rfl]
   refine ⟨fun h => (by cases h), fun K' hK' => ?_⟩
   injection hK' with hK'
   subst hK'
   exact ⟨a, c, by simp, (hs.fr hf hV).fr hf2 hV2⟩
  ·rw [if_neg e, List.getElem_set_ne (fun e' => e e'.symm)]
   refine ⟨(r3 r hr').1, fun K' hK' => ?_⟩
   obtain ⟨a', c', e', hs'⟩ := (r3 r hr').2 K' hK'
   exact ⟨a', c', e', (hs'.fr hf hV).fr hf2 hV2⟩
 ·have hr' : r < I.length := by simpa using hr
  rw [hM r]
  by_cases e : r = q
  ·subst e
   rw [if_pos rfl]
   simp
  ·rw [if_neg e, List.getElem_set_ne (fun e' => e e'.symm)]
   exact i3 r hr'
theorem Rf.nil {w : World} {N b1 b2 : Nat} {V : Nat → Prop} {M : Flo} (h : Rf w N b1 b2 V M) {q : Nat} (hm : M q = none) : Rf (w.setCell ⟨b1, q, none⟩ slZ) N b1 b2 V M := by
 have hf := (Fr.refl (onB b1) w).setCell (p := ⟨b1, q, none⟩) (fun _ => rfl) slZ
 obtain ⟨⟨R, r1, r2, r3⟩, ⟨I, i1, i2, i3⟩, hn, hv⟩ := h
 have hV : ∀ k, V k → ¬ onB b1 k := fun k hk e => (hv k hk).1 e
 have r1' := row_set r1 q slZ
 have er : R.toArray.setIfInBounds q slZ = (R.set q slZ).toArray := by simp
 rw [er] at r1'
 refine ⟨⟨_, r1', by simpa using r2, fun r hr => ?_⟩, ⟨I, hf.heap i1 (fun e => hn e.symm), i2, i3⟩, hn, fun k hk => ⟨(hv k hk).1, (hv k hk).2.1, Nat.lt_of_lt_of_le (hv k hk).2.2 hf.size⟩⟩
 have hr' : r < R.length := by simpa using hr
 by_cases e : r = q
 ·subst e
  exact ⟨fun _ => by simp, fun K hK => by rw [hm] at hK; cases hK⟩
 ·rw [List.getElem_set_ne (fun e' => e e'.symm)]
  refine ⟨(r3 r hr').1, fun K' hK' => ?_⟩
  obtain ⟨a', c', e', hs'⟩ := (r3 r hr').2 K' hK'
  exact ⟨a', c', e', hs'.fr hf hV⟩
def nilRows (n : Nat) : Array Value := (List.replicate n slZ).toArray
theorem make_rows (w : World) (n : Nat) (hn : n ≤ 100000) : (Instr.makeSlice 39 (.int .i64 n) (.int .i64 n)).run Tryz.prog w = .ok (.slice (some ⟨w.heap.size, 0, none⟩) n n) (w.alloc (.cells (nilRows n) 22)) := by
 have hinf : (Tryz.prog.info? 22).map (fun i => (i.zero, i.size, i.bytes)) = some (some slZ, 1, 24) := by kernel_rfl
 obtain ⟨i0, hi, hz0, hz1, hz2⟩ := info_parts hinf
 have h := run_makeSlice (P := Tryz.prog) (w := w) 39 22 i0 slZ Tryz.underlying39 hi hz0 .i64 .i64 (n : Int) (n : Int) (by omega) (Int.le_refl _) (by rw [hz1]; show (n : Int).toNat * 1 ≤ 16777216; omega) (by rw [hz2]; show (24 : Int) * (n : Int) ≤ 281474976710656; omega) (by omega)
 rw [h]
 simp only [Int.toNat_natCast, hz1]
 have e : madeCells slZ.cells (n * 1) = nilRows n := by
  show madeCells #[slZ] (n * 1) = _
  unfold madeCells nilRows
  apply Array.ext
  ·simp
  ·intro i h1 h2
   simp [Nat.mod_one]
 rw [e]
theorem Rf.made {w : World} {N b1 b2 : Nat} (h1 : w.heap[b1]? = some (.cells (nilRows N) 22)) (h2 : w.heap[b2]? = some (.cells (boolsV (List.replicate N false)).toArray 4)) (hn : b1 ≠ b2) : Rf w N b1 b2 (fun _ => False) (fun _ => none) :=
 ⟨⟨_, h1, by simp, fun q hq => ⟨fun _ => by simp, fun K hK => by cases hK⟩⟩, ⟨_, h2, by simp, fun q hq => by simp⟩, hn, fun k hk => hk.elim⟩
end Go.Proofs.YtjcjhfnjamphlaaGreat
