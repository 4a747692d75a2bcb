/- Walks: what the kinds of a program tell; the first call of chapter 12's statements. Walk: the first call of chapter 12's statements. What comes in: numbers. -/
import Derived.Test.YtjcjhfnjamphlaaJBo
import Derived.Test.YtjcjhfnjamphlaaJAv
set_option linter.unusedVariables false
set_option linter.unusedSimpArgs false
namespace Go.Proofs.Ytjcjhfnjamphlaa
open Go.ChangeShapes Go.WideShapes Go.ChangeAt Go.RowKit Go.Maps
set_option maxRecDepth 100000 in
theorem kindsM_any (w : World) (B mb b nm : Nat) (V : Nat → Prop) (C : Pl → Option (List Int)) (h : MapsAt w B mb b nm V C) (fn q : Int) (hI : i64B fn ∧ i64B q) (hCl : ∀ x K, C x = some K → K.length ≤ 100000) :
    Calls Try.prog 21 #[.pointer (some ⟨mb, 0, none⟩), .int .i64 fn, .int .i64 q] w fun e w' => ∃ v, e = .returned v ∧ Own intE w' w.heap.size v ((C ⟨(fn, q), hI⟩).getD []) ∧ Below w.heap.size w w' := by
  obtain ⟨hr, hm, _⟩ := h
  have k0 : w.cell? ⟨mb, 0, none⟩ = some (.map (some b)) := (row_cell hr 0).1
  cases hc : C ⟨(fn, q), hI⟩ with
  | none =>
    have hlk : (Instr.lookup 72 (.map (some b)) (.agg #[.int .i64 fn, .int .i64 q]) false).run Try.prog w = .ok (.slice none 0 0) w := (hm.none_run _ hc).2
    have cl := cloneInts_any w (fun _ => False) none [] 0 (fun j hj => by cases hj) (by simp)
    clear hr hm hCl hc
    have CL := Lib.hid cl; clear cl
    go_enter Try.func21, Try.ntmps21
    go_wp2_with fail
    refine CL.out.mono ?_
    rintro e w1 ⟨v, rfl, ho, hb⟩
    have HO := Lib.hid ho; clear ho
    have HB := Lib.hid hb; clear hb
    clear hlk
    go_wp2_with fail
    go_ret
    exact ⟨v, rfl, HO.out, HB.out⟩
  | some K =>
    obtain ⟨a, c, hs, _, hlk⟩ := hm.some_run _ K hc
    have hlk : (Instr.lookup 72 (.map (some b)) (.agg #[.int .i64 fn, .int .i64 q]) false).run Try.prog w = .ok (.slice a K.length c) w := hlk
    have cl := cloneInts_any w _ a K c hs (by have := hCl _ K hc; omega)
    clear hr hm hCl hc hs
    have CL := Lib.hid cl; clear cl
    go_enter Try.func21, Try.ntmps21
    go_wp2_with fail
    refine CL.out.mono ?_
    rintro e w1 ⟨v, rfl, ho, hb⟩
    have HO := Lib.hid ho; clear ho
    have HB := Lib.hid hb; clear hb
    clear hlk
    go_wp2_with fail
    go_ret
    exact ⟨v, rfl, HO.out, HB.out⟩
set_option maxRecDepth 100000 in
theorem reachedM_any (w : World) (B mb b nm : Nat) (V : Nat → Prop) (C : Pl → Option (List Int)) (h : MapsAt w B mb b nm V C) (fn q : Int) (hI : i64B fn ∧ i64B q) :
    Calls Try.prog 20 #[.pointer (some ⟨mb, 0, none⟩), .int .i64 fn, .int .i64 q] w fun e w' => e = .returned (.bool (C ⟨(fn, q), hI⟩).isSome) ∧ w = w' := by
  obtain ⟨hr, hm, _⟩ := h
  have k0 : w.cell? ⟨mb, 0, none⟩ = some (.map (some b)) := (row_cell hr 0).1
  cases hc : C ⟨(fn, q), hI⟩ with
  | none =>
    have hlk : (Instr.lookup 72 (.map (some b)) (.agg #[.int .i64 fn, .int .i64 q]) true).run Try.prog w = .ok (.tuple #[.slice none 0 0, .bool false]) w := (hm.none_run _ hc).1
    clear hr hm hc
    go_enter Try.func20, Try.ntmps20
    go_wp2_with fail
    go_ret
    exact ⟨rfl, rfl⟩
  | some K =>
    obtain ⟨a, c, _, hlk, _⟩ := hm.some_run _ K hc
    have hlk : (Instr.lookup 72 (.map (some b)) (.agg #[.int .i64 fn, .int .i64 q]) true).run Try.prog w = .ok (.tuple #[.slice a K.length c, .bool true]) w := hlk
    clear hr hm hc
    go_enter Try.func20, Try.ntmps20
    go_wp2_with fail
    go_ret
    exact ⟨rfl, rfl⟩
theorem MapsAt.below {w w' : World} {B mb b nm : Nat} {V : Nat → Prop} {C : Pl → Option (List Int)} (h : MapsAt w B mb b nm V C) (hb : Below w.heap.size w w') : MapsAt w' B mb b nm V C := by
  obtain ⟨h1, h2, h3, h4, h5⟩ := h
  exact ⟨(Fr.of_below hb (fun _ => False)).heap h1 (fun h => h), h2.fr (Fr.of_below hb (fun _ => False)) (fun h => h) (fun _ _ h => h), h3, h4, fun q hq => ⟨(h5 q hq).1, Nat.lt_of_lt_of_le (h5 q hq).2 hb.size⟩⟩
def pf : Prg := ⟨[], [[1]], [⟨[], 0, 1, [], [⟨1, 0, 1, 0⟩, ⟨10, 0, 3, 0⟩, ⟨11, 0, 0, 0⟩, ⟨27, 0, 0, 0⟩]⟩]⟩
def ff : Fun := ⟨[], 0, 1, [], [⟨1, 0, 1, 0⟩, ⟨10, 0, 3, 0⟩, ⟨11, 0, 0, 0⟩, ⟨27, 0, 0, 0⟩]⟩
theorem pf_S : progS pf = (0, 0, 0) := by decide +kernel
theorem pf_B : PrgB pf ∧ PrgR pf := by
  unfold PrgB PrgR FunB Ins.wf i64B pf
  simp
def sx : Flo := fun q => if q = 0 then some [0] else if q = 1 then some [1] else if q = 2 then some [1] else if q = 3 then some [0] else none
theorem le_one {x y : Int} (h : x = 0 ∨ x = y) : Le [x] [y] := ⟨rfl, fun j => by
  cases j with
  | zero => simpa using h
  | succ j => exact .inl rfl⟩
theorem one_le {K : List Int} {y : Int} (h : Le K [y]) : ∃ x, K = [x] ∧ (x = 0 ∨ x = y) := by
  obtain ⟨h1, h2⟩ := h
  match K, h1 with
  | [x], _ => exact ⟨x, rfl, by simpa using h2 0⟩
theorem le_to {K : List Int} {x : Int} (h : Le [x] K) : ∃ y, K = [y] ∧ (x = 0 ∨ x = y) := by
  obtain ⟨h1, h2⟩ := h
  match K, h1 with
  | [y], _ => exact ⟨y, rfl, by simpa using h2 0⟩
theorem sx_sol : Sol pf ff sx := by
  refine ⟨⟨[0], rfl, Le.refl _⟩, fun q K hq => ?_, fun q K i hq hi m hm hml => ?_⟩
  · unfold sx at hq
    split at hq
    · injection hq with hq; subst hq; subst_vars; exact ⟨by decide, rfl⟩
    · split at hq
      · injection hq with hq; subst hq; subst_vars; exact ⟨by decide, rfl⟩
      · split at hq
        · injection hq with hq; subst hq; subst_vars; exact ⟨by decide, rfl⟩
        · split at hq
          · injection hq with hq; subst hq; subst_vars; exact ⟨by decide, rfl⟩
          · cases hq
  · have hq4 : q = 0 ∨ q = 1 ∨ q = 2 ∨ q = 3 := by
      have : q < 4 := by
        rcases Nat.lt_or_ge q 4 with h | h
        · exact h
        · rw [List.getElem?_eq_none (by exact h)] at hi; cases hi
      omega
    rcases hq4 with rfl | rfl | rfl | rfl
    · injection hq with hq; subst hq
      injection hi with hi; subst hi
      have hm : (m : Int) ∈ [(1 : Int)] := hm
      simp at hm
      obtain rfl : m = 1 := by omega
      exact ⟨[1], rfl, le_one (.inr rfl)⟩
    · injection hq with hq; subst hq
      injection hi with hi; subst hi
      have hm : (m : Int) ∈ [(2 : Int), 3] := hm
      simp at hm
      rcases hm with hm | hm
      · obtain rfl : m = 2 := by omega
        exact ⟨[1], rfl, le_one (.inr rfl)⟩
      · obtain rfl : m = 3 := by omega
        exact ⟨[0], rfl, le_one (.inl rfl)⟩
    · injection hq with hq; subst hq
      injection hi with hi; subst hi
      have hm : (m : Int) ∈ [(3 : Int)] := hm
      simp at hm
      obtain rfl : m = 3 := by omega
      exact ⟨[0], rfl, le_one (.inl rfl)⟩
    · injection hi with hi; subst hi
      have hm : (m : Int) ∈ ([] : List Int) := hm
      cases hm
theorem pf_flow {M : Flo} (h : IsFlow pf ff M) : (∃ x, M 0 = some [x]) ∧ M 1 = some [1] ∧ M 2 = some [1] ∧ M 3 = some [0] ∧ M 4 = none := by
  obtain ⟨hs, hg⟩ := h
  have hg := hg sx sx_sol
  obtain ⟨K0, h0, hle0⟩ := hs.first
  obtain ⟨x0, rfl, _⟩ := one_le (show Le K0 [0] from hle0)
  obtain ⟨K1, h1, _⟩ := hs.step 0 _ _ h0 rfl 1 (by show (1 : Int) ∈ [(1 : Int)]; simp) (by decide)
  obtain ⟨L1, hL1, hl1⟩ := hg 1 K1 h1
  injection hL1 with hL1
  subst hL1
  obtain ⟨y1, rfl, hy1⟩ := le_to hl1
  obtain rfl : y1 = 1 := by omega
  obtain ⟨K2, h2, _⟩ := hs.step 1 _ _ h1 rfl 2 (by show (2 : Int) ∈ [(2 : Int), 3]; simp) (by decide)
  obtain ⟨L2, hL2, hl2⟩ := hg 2 K2 h2
  injection hL2 with hL2
  subst hL2
  obtain ⟨y2, rfl, hy2⟩ := le_to hl2
  obtain rfl : y2 = 1 := by omega
  obtain ⟨K3, h3, hl3⟩ := hs.step 1 _ _ h1 rfl 3 (by show (3 : Int) ∈ [(2 : Int), 3]; simp) (by decide)
  obtain ⟨K3', h3', hl3'⟩ := hs.step 2 _ _ h2 rfl 3 (by show (3 : Int) ∈ [(3 : Int)]; simp) (by decide)
  rw [h3] at h3'
  injection h3' with e
  subst e
  obtain ⟨x3, rfl, hx3⟩ := one_le (show Le K3 [1] from hl3)
  obtain ⟨x3', e, hx3'⟩ := one_le (show Le [x3] [16] from hl3')
  injection e with e _
  subst e
  obtain rfl : x3 = 0 := by omega
  refine ⟨⟨x0, h0⟩, h1, h2, h3, ?_⟩
  cases h4 : M 4 with
  | none => rfl
  | some K =>
    have := (hs.len 4 K h4).1
    exact absurd this (by decide)
theorem pf_ok {M : Flo} (h : IsFlow pf ff M) : (flowE pf ff M).1 = 0 := by
  obtain ⟨⟨x, h0⟩, h1, h2, h3, h4⟩ := pf_flow h
  refine flowE_ok ?_ ?_
  · exact find_none (fun q hq => by
      have hq : q < 4 := hq
      have hq4 : q = 0 ∨ q = 1 ∨ q = 2 ∨ q = 3 := by omega
      unfold outsAt
      rcases hq4 with rfl | rfl | rfl | rfl
      · rw [h0]; rfl
      · rw [h1]; rfl
      · rw [h2]; rfl
      · rw [h3]; rfl)
  · exact find_none (fun q hq => by
      have hq : q < 4 := hq
      have hq4 : q = 0 ∨ q = 1 ∨ q = 2 ∨ q = 3 := by omega
      unfold wrongAt
      rcases hq4 with rfl | rfl | rfl | rfl
      · rw [h0]; rfl
      · rw [h1]; rfl
      · rw [h2]; rfl
      · rw [h3]; rfl)
theorem pf_err {E : Int} {fn pc : Nat} (h : FlowErr pf E fn pc) : False := by
  obtain ⟨hE, h⟩ := h
  rcases h with h | ⟨_, hfn, Ms, hm, _, hf⟩
  · rw [pf_S] at h
    injection h with h
    exact hE h.symm
  · have hfn : fn < 1 := hfn
    obtain rfl : fn = 0 := by omega
    have := pf_ok (hm 0 (Nat.le_refl _))
    have hf : flowE pf ff (Ms 0) = (E, pc) := hf
    rw [hf] at this
    exact hE this
end Go.Proofs.Ytjcjhfnjamphlaa
namespace Go.Proofs.Ytjcjhfnjamphlaa
open Go.ChangeShapes Go.WideShapes Go.ChangeAt Go.RowKit Go.Maps
def wF0 (w : World) : World := w.alloc (.cells #[.int .i64 1] 3)
def wF1 (w : World) : World := (wF0 w).alloc (.cells #[.slice (some ⟨w.heap.size, 0, none⟩) 1 1] 58)
def wF2 (w : World) : World := (wF1 w).alloc (.cells #[.int .i64 1, .int .i64 0, .int .i64 1, .int .i64 0, .int .i64 10, .int .i64 0, .int .i64 3, .int .i64 0, .int .i64 11, .int .i64 0, .int .i64 0, .int .i64 0, .int .i64 27, .int .i64 0, .int .i64 0, .int .i64 0] 47)
def wF3 (w : World) : World := (wF2 w).alloc (.cells #[.slice none 0 0, .int .i64 0, .int .i64 1, .slice none 0 0, .slice (some ⟨w.heap.size + 2, 0, none⟩) 4 4] 41)
def wF (w : World) : World := (wF3 w).alloc (.cells #[.slice none 0 0, .slice (some ⟨w.heap.size + 1, 0, none⟩) 1 1, .slice (some ⟨w.heap.size + 3, 0, none⟩) 1 1] 26)
theorem wF_sizes (w : World) : (wF0 w).heap.size = w.heap.size + 1 ∧ (wF1 w).heap.size = w.heap.size + 2 ∧ (wF2 w).heap.size = w.heap.size + 3 ∧ (wF3 w).heap.size = w.heap.size + 4 ∧ (wF w).heap.size = w.heap.size + 5 := by
  simp [wF, wF3, wF2, wF1, wF0]
theorem wF_below (w : World) : Below (wF3 w).heap.size (wF3 w) (wF w) ∧ Below (wF2 w).heap.size (wF2 w) (wF w) ∧ Below (wF1 w).heap.size (wF1 w) (wF w) ∧ Below (wF0 w).heap.size (wF0 w) (wF w) ∧ Below w.heap.size w (wF w) := by
  obtain ⟨s0, s1, s2, s3, s4⟩ := wF_sizes w
  have b3 : Below (wF3 w).heap.size (wF3 w) (wF w) := (Below.refl _ _).alloc (Nat.le_refl _) _
  have b2 : Below (wF2 w).heap.size (wF2 w) (wF w) := ((Below.refl _ _).alloc (Nat.le_refl _) _).trans (b3.mono (by rw [s2, s3]; omega))
  have b1 : Below (wF1 w).heap.size (wF1 w) (wF w) := ((Below.refl _ _).alloc (Nat.le_refl _) _).trans (b2.mono (by rw [s1, s2]; omega))
  have b0 : Below (wF0 w).heap.size (wF0 w) (wF w) := ((Below.refl _ _).alloc (Nat.le_refl _) _).trans (b1.mono (by rw [s0, s1]; omega))
  exact ⟨b3, b2, b1, b0, ((Below.refl _ _).alloc (Nat.le_refl _) _).trans (b0.mono (by rw [s0]; omega))⟩
theorem wF_rows (w : World) : (wF w).heap[w.heap.size]? = some (.cells #[.int .i64 1] 3) ∧ (wF w).heap[w.heap.size + 1]? = some (.cells #[.slice (some ⟨w.heap.size, 0, none⟩) 1 1] 58) ∧
    (wF w).heap[w.heap.size + 2]? = some (.cells #[.int .i64 1, .int .i64 0, .int .i64 1, .int .i64 0, .int .i64 10, .int .i64 0, .int .i64 3, .int .i64 0, .int .i64 11, .int .i64 0, .int .i64 0, .int .i64 0, .int .i64 27, .int .i64 0, .int .i64 0, .int .i64 0] 47) ∧
    (wF w).heap[w.heap.size + 3]? = some (.cells #[.slice none 0 0, .int .i64 0, .int .i64 1, .slice none 0 0, .slice (some ⟨w.heap.size + 2, 0, none⟩) 4 4] 41) ∧
    (wF w).heap[w.heap.size + 4]? = some (.cells #[.slice none 0 0, .slice (some ⟨w.heap.size + 1, 0, none⟩) 1 1, .slice (some ⟨w.heap.size + 3, 0, none⟩) 1 1] 26) := by
  obtain ⟨s0, s1, s2, s3, s4⟩ := wF_sizes w
  obtain ⟨b3, b2, b1, b0, _⟩ := wF_below w
  have h : ∀ {a : World}, Below a.heap.size a (wF w) → ∀ {k o}, a.heap[k]? = some o → (wF w).heap[k]? = some o := fun hb _ _ hk => (Fr.of_below hb (fun _ => False)).heap hk (fun h => h)
  have e1 := heap_new (wF0 w) (.cells #[.slice (some ⟨w.heap.size, 0, none⟩) 1 1] 58)
  have e2 := heap_new (wF1 w) (.cells #[.int .i64 1, .int .i64 0, .int .i64 1, .int .i64 0, .int .i64 10, .int .i64 0, .int .i64 3, .int .i64 0, .int .i64 11, .int .i64 0, .int .i64 0, .int .i64 0, .int .i64 27, .int .i64 0, .int .i64 0, .int .i64 0] 47)
  have e3 := heap_new (wF2 w) (.cells #[.slice none 0 0, .int .i64 0, .int .i64 1, .slice none 0 0, .slice (some ⟨w.heap.size + 2, 0, none⟩) 4 4] 41)
  have e4 := heap_new (wF3 w) (.cells #[.slice none 0 0, .slice (some ⟨w.heap.size + 1, 0, none⟩) 1 1, .slice (some ⟨w.heap.size + 3, 0, none⟩) 1 1] 26)
  rw [s0] at e1
  rw [s1] at e2
  rw [s2] at e3
  rw [s3] at e4
  exact ⟨h b0 (heap_new w _), h b1 e1, h b2 e2, h b3 e3, e4⟩
theorem wF_prg (w : World) : PrgVal (wF w) (fun k => k < w.heap.size + 4) pf (.slice none 0 0) (.slice (some ⟨w.heap.size + 1, 0, none⟩) 1 1) (.slice (some ⟨w.heap.size + 3, 0, none⟩) 1 1) := by
  obtain ⟨r0, r1, r2, r3, _⟩ := wF_rows w
  refine ⟨⟨none, 0, rfl, fun j hj => by cases hj⟩, ⟨_, 1, rfl, fun j hj => ?_⟩, _, 1, rfl, fun j hj => ?_⟩
  · obtain rfl : j = 0 := by have : j < 1 := hj; omega
    refine ⟨w.heap.size + 1, 0, rfl, by show w.heap.size + 1 < w.heap.size + 4; omega, _, 1, (row_cell r1 0).1, fun i hi => ?_⟩
    obtain rfl : i = 0 := by have : i < 1 := hi; omega
    exact ⟨w.heap.size, 0, rfl, by show w.heap.size < w.heap.size + 4; omega, (row_cell r0 0).1⟩
  · obtain rfl : j = 0 := by have : j < 1 := hj; omega
    refine ⟨w.heap.size + 3, 0, rfl, by show w.heap.size + 3 < w.heap.size + 4; omega, _, _, _, _, _, (row_cell r3 0).1, (row_cell r3 1).1, (row_cell r3 2).1, (row_cell r3 3).1, (row_cell r3 4).1, rfl, rfl, ⟨none, 0, rfl, fun j hj => by cases hj⟩, ⟨none, 0, rfl, fun j hj => by cases hj⟩, _, 4, rfl, fun i hi => ?_⟩
    have hi4 : i = 0 ∨ i = 1 ∨ i = 2 ∨ i = 3 := by have : i < 4 := hi; omega
    rcases hi4 with rfl | rfl | rfl | rfl
    · exact ⟨w.heap.size + 2, 0, rfl, by show w.heap.size + 2 < w.heap.size + 4; omega, (row_cell r2 0).1, (row_cell r2 1).1, (row_cell r2 2).1, (row_cell r2 3).1⟩
    · exact ⟨w.heap.size + 2, 0, rfl, by show w.heap.size + 2 < w.heap.size + 4; omega, (row_cell r2 4).1, (row_cell r2 5).1, (row_cell r2 6).1, (row_cell r2 7).1⟩
    · exact ⟨w.heap.size + 2, 0, rfl, by show w.heap.size + 2 < w.heap.size + 4; omega, (row_cell r2 8).1, (row_cell r2 9).1, (row_cell r2 10).1, (row_cell r2 11).1⟩
    · exact ⟨w.heap.size + 2, 0, rfl, by show w.heap.size + 2 < w.heap.size + 4; omega, (row_cell r2 12).1, (row_cell r2 13).1, (row_cell r2 14).1, (row_cell r2 15).1⟩
set_option maxRecDepth 100000 in
set_option maxHeartbeats 3200000 in
theorem alive12 (w : World) :
    Calls Try.prog 8 #[] w fun e w' => e = .returned (.bool true) ∧ Below w.heap.size w w' := by
  obtain ⟨_, _, _, _, hB⟩ := wF_below w
  obtain ⟨_, _, _, _, hsz⟩ := wF_sizes w
  obtain ⟨_, _, _, _, r4⟩ := wF_rows w
  have fp := flowProg_any (wF w) _ (fun k hk => by rw [hsz]; have : k < w.heap.size + 4 := hk; omega) pf _ _ _ (wF_prg w) pf_B.1 pf_B.2
  have k0 := (row_cell r4 0).1
  have k1 := (row_cell r4 1).1
  have k2 := (row_cell r4 2).1
  have hwa : wF w = wF w := rfl
  conv at hwa => rhs; unfold wF wF3 wF2 wF1 wF0
  generalize wF w = W at *
  clear r4 hsz
  have FP := Lib.hid fp; clear fp
  have HB := Lib.hid hB; clear hB
  have HWA := Lib.hid hwa; clear hwa
  go_enter Try.func8, Try.ntmps8
  go_upto_region 2 with fail
  rw [← HWA.out]
  have k0 : W.cell? ⟨w.heap.size + 4, 0, none⟩ = some (.slice none 0 0) := k0
  have k1 : W.cell? ⟨w.heap.size + 4, 1, none⟩ = some (.slice (some ⟨w.heap.size + 1, 0, none⟩) 1 1) := k1
  have k2 : W.cell? ⟨w.heap.size + 4, 2, none⟩ = some (.slice (some ⟨w.heap.size + 3, 0, none⟩) 1 1) := k2
  go_wp2_with fail
  refine FP.out.mono ?_
  rintro e w1 ⟨hb1, ⟨E, fn, pc, hfe, _⟩ | ⟨_, Ms, mb, b, nm, V, hms, rfl, hmp⟩⟩
  · exact (pf_err hfe).elim
  clear k0 k1 k2
  have hfl := (hms 0 (by decide)).1
  obtain ⟨_, _, hM2, hM3, hM4⟩ := pf_flow (show IsFlow pf ff (Ms 0) from hfl)
  have hcl : ∀ x K, allM pf.funcs.length Ms x = some K → K.length ≤ 100000 := fun x K hx => by
    unfold allM at hx
    split at hx
    · next h1 =>
      split at hx
      · have h2 : x.1.1.toNat = 0 := by have h3 : x.1.1 < ((1 : Nat) : Int) := h1.2; omega
        rw [h2] at hx
        have := (hfl.1.len _ _ hx).2
        have h4 : K.length = 1 := this
        omega
      · cases hx
    · cases hx
  have hI : ∀ q : Int, 0 ≤ q → q ≤ 4 → i64B 0 ∧ i64B q := fun q h1 h2 => ⟨⟨by omega, by omega⟩, ⟨by omega, by omega⟩⟩
  have km := fun W' (h : MapsAt W' W.heap.size mb b nm V (allM pf.funcs.length Ms)) q h1 h2 => kindsM_any W' _ mb b nm V _ h 0 q (hI q h1 h2) hcl
  have rm := fun W' (h : MapsAt W' W.heap.size mb b nm V (allM pf.funcs.length Ms)) q h1 h2 => reachedM_any W' _ mb b nm V _ h 0 q (hI q h1 h2)
  have e2 : allM pf.funcs.length Ms ⟨(0, 2), hI 2 (by omega) (by omega)⟩ = some [1] := hM2
  have e3 : allM pf.funcs.length Ms ⟨(0, 3), hI 3 (by omega) (by omega)⟩ = some [0] := hM3
  have e4 : allM pf.funcs.length Ms ⟨(0, 4), hI 4 (by omega) (by omega)⟩ = none := hM4
  have k2 := fun W' h => km W' h 2 (by omega) (by omega)
  have k3 := fun W' h => km W' h 3 (by omega) (by omega)
  have q3 := fun W' h => rm W' h 3 (by omega) (by omega)
  have q4 := fun W' h => rm W' h 4 (by omega) (by omega)
  rw [e2] at k2
  rw [e3] at k3 q3
  rw [e4] at q4
  have hB1 := HB.out.trans (hb1.mono HB.out.size)
  have hb2 := hB1.alloc hB1.size (.cells #[.int .i64 0, .int .i64 0] 34)
  have hmp2 := hmp.below ((Below.refl w1.heap.size w1).alloc (Nat.le_refl _) (.cells #[.int .i64 0, .int .i64 0] 34))
  obtain ⟨w2, hw2⟩ : ∃ w2, w2 = w1.alloc (.cells #[.int .i64 0, .int .i64 0] 34) := ⟨_, rfl⟩
  rw [← hw2] at hb2 hmp2
  have HW2 := Lib.hid hw2
  clear hms hmp hb1 hfl hM2 hM3 hM4 hcl hI km rm e2 e3 e4 hw2 hB1
  generalize allM pf.funcs.length Ms = C at *
  have HMP := Lib.hid hmp2
  have HBB := Lib.hid hb2
  have K2 := Lib.hid k2
  have K3 := Lib.hid k3
  have Q3 := Lib.hid q3
  have Q4 := Lib.hid q4
  clear hmp2 hb2 k2 k3 q3 q4
  go_upto_region 5 with fail
  rw [← HW2.out]
  go_wp2_with fail
  refine (K2.out _ HMP.out).mono ?_
  rintro e w3 ⟨v3, rfl, ho3, hb3⟩
  have HMP3 := Lib.hid (HMP.out.below hb3)
  have HO3 := Lib.hid ho3
  have HB3 := Lib.hid (HBB.out.trans (hb3.mono HBB.out.size))
  clear ho3 hb3
  go_wp2_with fail
  refine (K3.out _ HMP3.out).mono ?_
  rintro e w4 ⟨v4, rfl, ho4, hb4⟩
  obtain ⟨a3, c3, rfl, hs3⟩ := own_int (HO3.out.below hb4)
  obtain ⟨a4, c4, rfl, hs4⟩ := own_int ho4
  obtain ⟨b3, o3, rfl, _, hx3⟩ := hs3 0 (by decide)
  obtain ⟨b4, o4, rfl, _, hx4⟩ := hs4 0 (by decide)
  have hx3 : w4.cell? ⟨b3, o3, none⟩ = some (.int .i64 1) := hx3
  have hx4 : w4.cell? ⟨b4, o4, none⟩ = some (.int .i64 0) := hx4
  have HMP4 := Lib.hid (HMP3.out.below hb4)
  have HB4 := Lib.hid (HB3.out.trans (hb4.mono HB3.out.size))
  clear ho4 hb4 hs3 hs4
  trace_state
  go_wp2_with fail
  refine (Q3.out _ HMP4.out).mono ?_
  rintro e w5 ⟨rfl, rfl⟩
  go_wp2_with fail
  refine (Q4.out _ HMP4.out).mono ?_
  rintro e w5 ⟨rfl, rfl⟩
  go_wp2_with fail
  go_ret
  exact ⟨rfl, HB4.out⟩
end Go.Proofs.Ytjcjhfnjamphlaa
namespace Go.Proofs.Ytjcjhfnjamphlaa
open Go.ChangeShapes Go.WideShapes Go.ChangeAt Go.RowKit
variable {H : Type} {enc : TypeId × Value → H}
set_option maxRecDepth 100000 in
/-- numbers that come in -/
theorem open_ints {w : World} {base b : Nat} {v : Value} {sp : Nat → Bool} {d : DataW H} {p : List MemPlace} (hv : Value.okWide Try.prog w .any base 22 v)
    (h : DataW.Trod enc Try.prog w b sp true 22 v d p) : ∃ (a : Option Addr) (l : List Int) (c : Nat), v = .slice a l.length c ∧ IntSl w (fun k => k < w.heap.size) a l := by
  obtain ⟨fuel, hf⟩ := h
  obtain ⟨a0, len0, cap0, rfl⟩ := okWide_slice Try.underlying22 hv
  obtain ⟨a, l, c, h1, h2, _⟩ := trodB_ints hf
  simp [Value.cells] at h1
  obtain ⟨rfl, rfl, rfl⟩ := h1
  exact ⟨_, l, _, rfl, h2⟩
end Go.Proofs.Ytjcjhfnjamphlaa
