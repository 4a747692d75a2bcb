import Derived.Test.YthkhgihjigmkoaaGreatCBt
import Derived.Test.YthkhgihjigmkoaaGreatCAz
import Derived.Test.YthkhgihjigmkoaaGreatCAn
set_option linter.unusedVariables false
set_option linter.unusedSimpArgs false
namespace Go.Proofs.YthkhgihjigmkoaaGreat
open Go.ChangeShapes Go.WideShapes Go.ChangeAt Go.RowKit Go.Maps
def leB (K L : List Int) : Bool := K.length == L.length && (List.range K.length).all fun j => (K[j]?).getD 0 == 0 || (K[j]?).getD 0 == (L[j]?).getD 0
theorem leB_le {K L : List Int} (h : leB K L = true) : Le K L := by
 unfold leB at h
 rw [Bool.and_eq_true] at h
 refine ⟨by simpa using h.1, fun j => ?_⟩
 rcases Nat.lt_or_ge j K.length with hj | hj
 ·have := List.all_eq_true.1 h.2 j (List.mem_range.2 hj)
  simpa using this
 ·rw [List.getElem?_eq_none hj]
  exact .inl rfl
def tblF (t : List (Option (List Int))) : Flo := fun q => (t[q]?).getD none
def solB (p : Prg) (f : Fun) (t : List (Option (List Int))) : Bool :=
 t.length == f.code.length && (match tblF t 0 with | some K => leB K (firstK f) | none => false) &&
 (List.range f.code.length).all fun q => match tblF t q with
  | none => true
  | some K => K.length == f.slots.toNat && (nextK (insAt f q) q).all fun m => !decide (0 ≤ m ∧ m < f.code.length) || (match tblF t m.toNat with | some L => leB L (outK p f (insAt f q) K) | none => false)
def treeB (p : Prg) (f : Fun) (t : List (Option (List Int))) (par : List Nat) : Bool :=
 (List.range f.code.length).all fun q => match tblF t q with
  | none => true
  | some K => (q == 0 && leB K (firstK f) && leB (firstK f) K) || (let r := (par[q]?).getD 0; decide (r < q) && (nextK (insAt f r) r).contains (q : Int) && (match tblF t r with | some L => outK p f (insAt f r) L == K | none => false))
theorem isFlow_tbl {p : Prg} {f : Fun} {t : List (Option (List Int))} {par : List Nat} (ho : ∀ i ∈ f.code, InsOk p i) (h1 : solB p f t = true) (h2 : treeB p f t par = true) : IsFlow p f (tblF t) := by
 have hlen : t.length = f.code.length := by
  unfold solB at h1
  rw [Bool.and_eq_true, Bool.and_eq_true] at h1
  simpa using h1.1.1
 have hlt : ∀ q K, tblF t q = some K → q < f.code.length := fun q K hq => by
  rcases Nat.lt_or_ge q t.length with h | h
  ·omega
  ·unfold tblF at hq
   rw [List.getElem?_eq_none h] at hq
   cases hq
 have hat : ∀ q i, f.code[q]? = some i → insAt f q = i := fun q i hi => by unfold insAt; rw [hi]; rfl
 have hin : ∀ {q}, q < f.code.length → f.code[q]? = some (insAt f q) := fun {q} hq => by
  unfold insAt
  rw [List.getElem?_eq_getElem hq]
  rfl
 unfold solB at h1
 rw [Bool.and_eq_true, Bool.and_eq_true] at h1
 obtain ⟨⟨_, h1a⟩, h1b⟩ := h1
 have hrow : ∀ q K, tblF t q = some K → K.length = f.slots.toNat ∧ ∀ m : Nat, (m : Int) ∈ nextK (insAt f q) q → m < f.code.length → ∃ L, tblF t m = some L ∧ Le L (outK p f (insAt f q) K) := fun q K hq => by
  have h3 := List.all_eq_true.1 h1b q (List.mem_range.2 (hlt q K hq))
  simp only [hq] at h3
  rw [Bool.and_eq_true] at h3
  refine ⟨by simpa using h3.1, fun m hm hml => ?_⟩
  have h4 := List.all_eq_true.1 h3.2 (m : Int) hm
  rw [decide_eq_true (show (0 : Int) ≤ (m : Int) ∧ (m : Int) < (f.code.length : Int) by omega)] at h4
  simp only [Int.toNat_natCast, Bool.not_true, Bool.false_or] at h4
  cases hL : tblF t m with
  | none => rw [hL] at h4; cases h4
  | some L => rw [hL] at h4; exact ⟨L, rfl, leB_le h4⟩
 refine ⟨⟨?_, fun q K hq => ⟨hlt q K hq, (hrow q K hq).1⟩, fun q K i hq hi m hm hml => ?_⟩, fun S hS q => ?_⟩
 ·cases h0 : tblF t 0 with
  | none => rw [h0] at h1a; cases h1a
  | some K => rw [h0] at h1a; exact ⟨K, rfl, leB_le h1a⟩
 ·have e := hat q i hi
  subst e
  exact (hrow q K hq).2 m hm hml
 ·induction q using Nat.strongRecOn with
  | ind q ih =>
   intro K hq
   have hql := hlt q K hq
   have h3 := List.all_eq_true.1 h2 q (List.mem_range.2 hql)
   simp only [hq] at h3
   rw [Bool.or_eq_true] at h3
   rcases h3 with h3 | h3
   ·rw [Bool.and_eq_true, Bool.and_eq_true] at h3
    obtain ⟨⟨e, _⟩, h5⟩ := h3
    have e : q = 0 := by simpa using e
    subst e
    obtain ⟨L, hL, hle⟩ := hS.first
    exact ⟨L, hL, hle.trans (leB_le h5)⟩
   ·generalize (par[q]?).getD 0 = r at h3
    simp only [Bool.and_eq_true] at h3
    obtain ⟨⟨hr, hc⟩, hK⟩ := h3
    have hr := of_decide_eq_true hr
    cases hL : tblF t r with
    | none => rw [hL] at hK; cases hK
    | some L =>
     rw [hL] at hK
     have hK : outK p f (insAt f r) L = K := by simpa using hK
     have hrl := hlt r L hL
     obtain ⟨L', hL', hle'⟩ := ih r hr L hL
     have hmem : (q : Int) ∈ nextK (insAt f r) r := by simpa using hc
     obtain ⟨M, hM, hMle⟩ := hS.step r L' _ hL' (hin hrl) q hmem hql
     refine ⟨M, hM, hMle.trans ?_⟩
     rw [← hK]
     exact outK_le hle' p f _ (ho _ (List.mem_of_getElem? (hin hrl)))
theorem flow_uniq {p : Prg} {f : Fun} {M N : Flo} (h : IsFlow p f M) (h2 : IsFlow p f N) : M = N := by
 have hle2 : ∀ {K L : List Int}, Le K L → Le L K → K = L := fun {K L} h h2 => by
  refine List.ext_getElem h.1 fun j hj hj2 => ?_
  have e := h.2 j
  have e2 := h2.2 j
  rw [List.getElem?_eq_getElem hj, List.getElem?_eq_getElem hj2] at e e2
  simp only [Option.getD_some] at e e2
  omega
 funext q
 cases hm : M q with
 | none =>
  cases hn : N q with
  | none => rfl
  | some K =>
   obtain ⟨L, hL, _⟩ := h2.2 M h.1 q K hn
   rw [hm] at hL
   cases hL
 | some K =>
  obtain ⟨L, hL, hle⟩ := h.2 N h2.1 q K hm
  obtain ⟨K2, hK2, hle3⟩ := h2.2 M h.1 q L hL
  rw [hm] at hK2
  injection hK2 with e
  subst e
  rw [hL, hle2 hle hle3]
def TabOk (p : Prg) (tb : Nat → List (Option (List Int))) : Prop := ∀ i, i < p.funcs.length → IsFlow p (fnAt p i) (tblF (tb i)) ∧ (flowE p (fnAt p i) (tblF (tb i))).1 = 0
theorem tab_flow {p : Prg} {tb : Nat → List (Option (List Int))} (h0 : (progS p).1 = 0) (ht : TabOk p tb) {w : World} {e : Ending} {w' : World} (h : FlowPost p w e w') :
  Below w.heap.size w w' ∧ ∃ Ms mb b nm V, (∀ i, i < p.funcs.length → Ms i = tblF (tb i)) ∧ e = .returned (.tuple #[.pointer (some ⟨mb, 0, none⟩), .int .i64 0, .agg #[.int .i64 0, .int .i64 0]]) ∧ MapsAt w' w.heap.size mb b nm V (allM p.funcs.length Ms) := by
 obtain ⟨hb, h⟩ := h
 refine ⟨hb, ?_⟩
 rcases h with ⟨E, fn, pc, hf, _⟩ | ⟨_, Ms, mb, b, nm, V, hms, he, hm⟩
 ·obtain ⟨hE, hf⟩ := hf
  rcases hf with hf | ⟨_, hfn, Ms, hms, _, hfe⟩
  ·rw [hf] at h0
   exact absurd h0 hE
  ·have hu := flow_uniq (hms fn (Nat.le_refl _)) (ht fn hfn).1
   rw [hu] at hfe
   have h2 := (ht fn hfn).2
   rw [hfe] at h2
   exact absurd h2 hE
 ·exact ⟨Ms, mb, b, nm, V, fun i hi => flow_uniq (hms i hi).1 (ht i hi).1, he, hm⟩
end Go.Proofs.YthkhgihjigmkoaaGreat
namespace Go.Proofs.YthkhgihjigmkoaaGreat.Tk
open Go.ChangeShapes Go.WideShapes Go.ChangeAt Go.RowKit Go.Maps
def qA : TPrg := ⟨[], [⟨0, 1, []⟩]⟩
def pA : Prg := ⟨[], [], [⟨[], 0, 1, [], [⟨1, 0, 5, 0⟩, ⟨29, 0, 0, 0⟩, ⟨27, 0, 0, 0⟩]⟩]⟩
def tA (_ : Nat) : List (Option (List Int)) := [some [0], some [1], some [1]]
theorem qA_small : PSmall qA := by
 unfold PSmall qA
 simp
theorem wA : wordsN qA (0 : Nat) = 3 := by decide
theorem pA_S : progS pA = (0, 0, 0) := by decide +kernel
theorem pA_B : PrgB pA ∧ PrgR pA := by
 unfold PrgB PrgR FunB Ins.wf i64B pA
 simp
theorem insOk_of (p : Prg) (o a b c : Int) (h : o ≠ 17 ∧ o ≠ 21 ∧ o ≠ 23 ∧ o ≠ 24) : InsOk p ⟨o, a, b, c⟩ :=
 ⟨fun e => absurd e h.1, fun k _ e => by have e : o = 21 ∨ o = 23 ∨ o = 24 := e; omega⟩
theorem pA_tab : TabOk pA tA := fun i hi => by
 obtain rfl : i = 0 := by have : i < 1 := hi; omega
 refine ⟨isFlow_tbl (par := [0, 0, 1]) (fun j hj => ?_) (by decide +kernel) (by decide +kernel), by decide +kernel⟩
 have hj : j ∈ [(⟨1, 0, 5, 0⟩ : Ins), ⟨29, 0, 0, 0⟩, ⟨27, 0, 0, 0⟩] := hj
 simp at hj
 rcases hj with rfl | rfl | rfl <;> exact insOk_of _ _ _ _ _ (by decide)
def TA (pc : Int) (x : Int) : Tk := ⟨1073741824, [0, 0, x, 0, 0, 0, 0, 0], [⟨0, pc, 0, -1, none, 0, 0⟩], [⟨false, false, 0⟩]⟩
theorem TA_ok (pc x : Int) : TkOk (TA pc x) := ⟨by show 1 ≤ 1000; decide, by show 1 ≤ 1000; decide, by show 8 ≤ 100000; decide, fun q hq => by
 have h1 : q ∈ ([⟨0, pc, 0, -1, none, 0, 0⟩] : List Part) := hq
 simp at h1
 rw [h1]
 exact ⟨Int.le_refl 0, show (0 : Int) ≤ 100000000 by decide⟩⟩
theorem asks_any (w : World) (k : Int) : Calls Tryz.prog 36 #[.int .i64 k] w fun e w' => e = .returned (.bool (decide (3 ≤ k ∧ k ≤ 7))) ∧ w = w' := by
 by_cases h1 : 3 ≤ k
 ·by_cases h2 : k ≤ 7
  ·rw [decide_eq_true ⟨h1, h2⟩]
   go_enter Tryz.func36, Tryz.ntmps36
   go_wp2_with fail
   go_ret
   first | exact ⟨rfl, rfl⟩ | exact ⟨congrArg (fun b => Ending.returned (Value.bool b)) (decide_eq_true (by omega)), rfl⟩
  ·rw [decide_eq_false (fun h => h2 h.2)]
   go_enter Tryz.func36, Tryz.ntmps36
   go_wp2_with fail
   go_ret
   first | exact ⟨rfl, rfl⟩ | exact ⟨congrArg (fun b => Ending.returned (Value.bool b)) (decide_eq_false (by omega)), rfl⟩
 ·rw [decide_eq_false (fun h => h1 h.1)]
  go_enter Tryz.func36, Tryz.ntmps36
  go_wp2_with fail
  go_ret
  first | exact ⟨rfl, rfl⟩ | exact ⟨congrArg (fun b => Ending.returned (Value.bool b)) (decide_eq_false (by omega)), rfl⟩
set_option maxRecDepth 100000 in
set_option maxHeartbeats 3200000 in
theorem alive23 (w : World) :
  Calls Tryz.prog 26 #[] w fun e w' => e = .returned (.bool true) ∧ Below w.heap.size w w' := by
 obtain ⟨W1, h1⟩ : ∃ W1, W1 = w.alloc (.cells #[.int .i64 1, .int .i64 0, .int .i64 5, .int .i64 0, .int .i64 29, .int .i64 0, .int .i64 0, .int .i64 0, .int .i64 27, .int .i64 0, .int .i64 0, .int .i64 0] 59) := ⟨_, rfl⟩
 have s1 : W1.heap.size = w.heap.size + 1 := by rw [h1]; simp
 have b1 : Below w.heap.size w W1 := by rw [h1]; exact (Below.refl _ _).alloc (Nat.le_refl _) _
 have r0 : W1.heap[w.heap.size]? = some (.cells #[.int .i64 1, .int .i64 0, .int .i64 5, .int .i64 0, .int .i64 29, .int .i64 0, .int .i64 0, .int .i64 0, .int .i64 27, .int .i64 0, .int .i64 0, .int .i64 0] 59) := by rw [h1]; exact heap_new _ _
 obtain ⟨W2, h2⟩ : ∃ W2, W2 = W1.alloc (.cells #[.slice none 0 0, .int .i64 0, .int .i64 1, .slice none 0 0, .slice (some ⟨w.heap.size, 0, none⟩) 3 3] 74) := ⟨_, rfl⟩
 have s2 : W2.heap.size = w.heap.size + 1 + 1 := by rw [h2]; simp [s1]
 have b2 : Below W1.heap.size W1 W2 := by rw [h2]; exact (Below.refl _ _).alloc (Nat.le_refl _) _
 have r1 : W2.heap[w.heap.size + 1]? = some (.cells #[.slice none 0 0, .int .i64 0, .int .i64 1, .slice none 0 0, .slice (some ⟨w.heap.size, 0, none⟩) 3 3] 74) := by rw [h2, ← s1]; exact heap_new _ _
 obtain ⟨W3, h3⟩ : ∃ W3, W3 = W2.alloc (.cells #[.slice none 0 0, .slice none 0 0, .slice (some ⟨w.heap.size + 1, 0, none⟩) 1 1] 27) := ⟨_, rfl⟩
 have s3 : W3.heap.size = w.heap.size + 1 + 1 + 1 := by rw [h3]; simp [s2]
 have b3 : Below W2.heap.size W2 W3 := by rw [h3]; exact (Below.refl _ _).alloc (Nat.le_refl _) _
 have r2 : W3.heap[w.heap.size + 1 + 1]? = some (.cells #[.slice none 0 0, .slice none 0 0, .slice (some ⟨w.heap.size + 1, 0, none⟩) 1 1] 27) := by rw [h3, ← s2]; exact heap_new _ _
 have r0 := (Fr.of_below b2 (fun _ => False)).heap r0 (fun h => h)
 have r0 := (Fr.of_below b3 (fun _ => False)).heap r0 (fun h => h)
 have r1 := (Fr.of_below b3 (fun _ => False)).heap r1 (fun h => h)
 have hb : Below w.heap.size w W3 := b1|>.trans (b2.mono (by omega))|>.trans (b3.mono (by omega))
 have hpv : PV W3 (fun k => w.heap.size ≤ k ∧ k < W3.heap.size) qA (.slice none 0 0) (.slice none 0 0) (.slice (some ⟨w.heap.size + 1, 0, none⟩) 1 1) := by
  refine ⟨⟨none, 0, 0, rfl⟩, ⟨none, 0, rfl, fun j hj => by cases hj⟩, _, 1, rfl, fun j hj => ?_⟩
  obtain rfl : j = 0 := by have : j < 1 := hj; omega
  exact ⟨_, 0, rfl, ⟨by omega, by omega⟩, _, _, _, _, _, (row_cell r1 0).1, (row_cell r1 1).1, (row_cell r1 2).1, (row_cell r1 3).1, (row_cell r1 4).1, ⟨none, 0, rfl⟩, ⟨0, rfl⟩, rfl, ⟨none, 0, rfl, fun i hi => by cases hi⟩, _, _, _, rfl⟩
 have hpg : PrgVal W3 (fun k => w.heap.size ≤ k ∧ k < W3.heap.size) pA (.slice none 0 0) (.slice none 0 0) (.slice (some ⟨w.heap.size + 1, 0, none⟩) 1 1) := by
  refine ⟨⟨none, 0, rfl, fun j hj => by cases hj⟩, ⟨none, 0, rfl, fun j hj => by cases hj⟩, _, 1, rfl, fun j hj => ?_⟩
  obtain rfl : j = 0 := by have : j < 1 := hj; omega
  refine ⟨_, 0, rfl, ⟨by omega, by omega⟩, _, _, _, _, _, (row_cell r1 0).1, (row_cell r1 1).1, (row_cell r1 2).1, (row_cell r1 3).1, (row_cell r1 4).1, rfl, rfl, ⟨none, 0, rfl, fun i hi => by cases hi⟩, ⟨none, 0, rfl, fun i hi => by cases hi⟩, _, 3, rfl, fun i hi => ?_⟩
  have hi3 : i = 0 ∨ i = 1 ∨ i = 2 := by have : i < 3 := hi; omega
  rcases hi3 with rfl | rfl | rfl
  ·exact ⟨_, 0, rfl, ⟨by omega, by omega⟩, (row_cell r0 0).1, (row_cell r0 1).1, (row_cell r0 2).1, (row_cell r0 3).1⟩
  ·exact ⟨_, 0, rfl, ⟨by omega, by omega⟩, (row_cell r0 4).1, (row_cell r0 5).1, (row_cell r0 6).1, (row_cell r0 7).1⟩
  ·exact ⟨_, 0, rfl, ⟨by omega, by omega⟩, (row_cell r0 8).1, (row_cell r0 9).1, (row_cell r0 10).1, (row_cell r0 11).1⟩
 have k0 : W3.cell? ⟨w.heap.size + 1 + 1, 0, none⟩ = some (.slice none 0 0) := (row_cell r2 0).1
 have k1 : W3.cell? ⟨w.heap.size + 1 + 1, 1, none⟩ = some (.slice none 0 0) := (row_cell r2 1).1
 have k2 : W3.cell? ⟨w.heap.size + 1 + 1, 2, none⟩ = some (.slice (some ⟨w.heap.size + 1, 0, none⟩) 1 1) := (row_cell r2 2).1
 have hW : W3 = ((w.alloc (.cells #[.int .i64 1, .int .i64 0, .int .i64 5, .int .i64 0, .int .i64 29, .int .i64 0, .int .i64 0, .int .i64 0, .int .i64 27, .int .i64 0, .int .i64 0, .int .i64 0] 59)).alloc (.cells #[.slice none 0 0, .int .i64 0, .int .i64 1, .slice none 0 0, .slice (some ⟨w.heap.size, 0, none⟩) 3 3] 74)).alloc (.cells #[.slice none 0 0, .slice none 0 0, .slice (some ⟨w.heap.size + 1, 0, none⟩) 1 1] 27) := by rw [h3, h2, h1]
 have fp := flowProg_any W3 _ (fun k hk => hk.2) pA _ _ _ hpg pA_B.1 pA_B.2
 have hD := fun k (hk : w.heap.size ≤ k ∧ k < W3.heap.size) => hk.2
 have HW := Lib.hid hW
 have HS3 := Lib.hid s3
 clear r0 r1 r2 b1 b2 b3 s1 s2 s3 h1 h2 h3 hW
 have FP := Lib.hid fp; clear fp
 have HB := Lib.hid hb; clear hb
 have HPV := Lib.hid hpv; clear hpv
 have HPG := Lib.hid hpg; clear hpg
 go_enter Tryz.func26, Tryz.ntmps26
 go_upto_region 2 with fail
 rw [← HW.out]
 go_wp2_with fail
 refine FP.out.mono ?_
 intro e w4 hpost
 obtain ⟨hb4, Ms, mb, b, nm, V, hMs, rfl, hmp⟩ := tab_flow (tb := tA) (by rw [pA_S]) pA_tab hpost
 have hb04 := HB.out.trans (hb4.mono HB.out.size)
 have k0 := below_cell hb4 k0
 have k1 := below_cell hb4 k1
 have k2 := below_cell hb4 k2
 have hb5 : Below w4.heap.size w4 (w4.alloc (.cells #[.int .i64 0, .int .i64 0] 32)) := (Below.refl _ _).alloc (Nat.le_refl _) _
 have hv5 := (HPV.out.below hb4).below hb5
 have hg5 := (HPG.out.fr (Fr.of_below hb4 (fun _ => False)) (fun _ _ h => h)).fr (Fr.of_below hb5 (fun _ => False)) (fun _ _ h => h)
 have hsz5 := Nat.le_trans hb4.size hb5.size
 obtain ⟨W5, hW5⟩ : ∃ W5, W5 = w4.alloc (.cells #[.int .i64 0, .int .i64 0] 32) := ⟨_, rfl⟩
 rw [← hW5] at hb5 hv5 hg5 hsz5
 have hb05 := hb04.trans (hb5.mono hb04.size)
 have k0 := below_cell hb5 k0
 have k1 := below_cell hb5 k1
 have k2 := below_cell hb5 k2
 have nw := new_any W5 _ (fun k hk => Nat.lt_of_lt_of_le (hD k hk) hsz5) qA _ _ _ hv5 qA_small 0 (by decide) rfl (by decide) 0 (by omega) 8 100 8 (by omega) (by omega) (by omega) (by rw [wA]; omega) (fun w => by rw [wA]; exact fit_stay w 8 _ (by omega) (by omega) (by omega))
 rw [wA] at nw
 have HW5 := Lib.hid hW5
 clear hb4 hb5 hv5 hW5 hMs hmp hpost hb04
 have NW := Lib.hid nw; clear nw
 have HG5 := Lib.hid hg5; clear hg5
 have HB05 := Lib.hid hb05; clear hb05
 have HSZ5 := Lib.hid hsz5; clear hsz5
 have HD := Lib.hid hD; clear hD
 go_upto_region 3 with fail
 rw [← HW5.out]
 go_wp2_with fail
 refine NW.out.mono ?_
 rintro e w6 ⟨tb, F, X, rfl, hT, hXn, hF, hb6⟩
 have hXa := hXn.1
 clear hXn
 have hT : TaskAt w6 F tb qA (TA 0 0) X := hT
 have hg6 := HG5.out.fr (Fr.of_below hb6 (fun _ => False)) (fun _ _ h => h)
 have hDF : ∀ k, (w.heap.size ≤ k ∧ k < W3.heap.size) → ¬ F k ∧ k < w6.heap.size := fun k hk => ⟨fun hf => by have := hF k hf; have := HSZ5.out; omega, by have := hb6.size; have := HSZ5.out; omega⟩
 have sp := step_run w6 F tb qA (TA 0 0) X hT (by show 1 ≤ 1000; decide) (by rw [hXa]; rfl) (by show 1 ≤ 10000; decide) (by rw [hXa]; simp) [] ⟨0, 0, 0, -1, none, 0, 0⟩ rfl _ hDF pA _ _ _ (some ⟨mb, 0, none⟩) hg6 0 (by decide) rfl 0 rfl (by decide) ⟨1, 0, 5, 0⟩ rfl (TA 1 5) 0 0 0 0 0 false none 0 0 (fun wr hw => by
  have rs := run_setInt wr F tb qA (TA 0 0) X (hT.below hw) (TA_ok 0 0) [] ⟨0, 0, 0, -1, none, 0, 0⟩ rfl ⟨by decide, by decide⟩ 0 (by decide) rfl 0 rfl 0 (by decide) (by omega) (by decide) (.slice none 0 0) (.slice none 0 0) (.slice (some ⟨w.heap.size + 1, 0, none⟩) 1 1) (.pointer (some ⟨mb, 0, none⟩)) 5 0
  rw [show wrap32 5 = 5 from by decide +kernel] at rs
  exact rs)
 have k0 := below_cell hb6 k0
 have k1 := below_cell hb6 k1
 have k2 := below_cell hb6 k2
 have hb06 := HB05.out.trans (hb6.mono HB05.out.size)
 have hFw : ∀ k, F k → w.heap.size + 3 ≤ k := fun k hk => by have := hF k hk; have := HSZ5.out; have := HS3.out; omega
 have HLE6 := Lib.hid (Nat.le_trans HSZ5.out hb6.size)
 clear hb6 hF hT
 have SP := Lib.hid sp; clear sp
 have HG6 := Lib.hid hg6; clear hg6
 have HDF := Lib.hid hDF; clear hDF
 have HB06 := Lib.hid hb06; clear hb06
 have HFW := Lib.hid hFw; clear hFw
 have HXA := Lib.hid hXa; clear hXa
 go_wp2_with fail
 refine SP.out.mono ?_
 rintro e w7 ⟨rfl, F7, X7, hT7, hq7, hF7, hf7⟩
 have hXb : X7.al = [] := by rw [hq7.2.1]; exact HXA.out
 clear hq7
 have k0 := hf7.cell k0 (fun e => by have := HFW.out _ e; simp at this; omega)
 have k1 := hf7.cell k1 (fun e => by have := HFW.out _ e; simp at this; omega)
 have k2 := hf7.cell k2 (fun e => by have := HFW.out _ e; simp at this; omega)
 unfold actV
 have ha8 : Below w7.heap.size w7 (w7.alloc (.cells #[.int .i64 0, .int .i64 0, .int .i64 0, .int .i64 0, .int .i64 0, .bool false, .slice none 0 0] 63)) := (Below.refl _ _).alloc (Nat.le_refl _) _
 have hr8 := heap_new w7 (.cells #[.int .i64 0, .int .i64 0, .int .i64 0, .int .i64 0, .int .i64 0, .bool false, .slice none 0 0] 63)
 obtain ⟨w8, hw8⟩ : ∃ w8, w8 = w7.alloc (.cells #[.int .i64 0, .int .i64 0, .int .i64 0, .int .i64 0, .int .i64 0, .bool false, .slice none 0 0] 63) := ⟨_, rfl⟩
 rw [← hw8] at ha8 hr8
 have hT8 := hT7.below ha8
 have hg8 := (HG6.out.fr hf7 (fun k hk => (HDF.out k hk).1)).fr (Fr.of_below ha8 (fun _ => False)) (fun _ _ h => h)
 have hDF8 : ∀ k, (w.heap.size ≤ k ∧ k < W3.heap.size) → ¬ F7 k ∧ k < w8.heap.size := fun k hk => ⟨fun hf => by
   rcases hF7 k hf with h1 | h1
   ·exact (HDF.out k hk).1 h1
   ·have := (HDF.out k hk).2; omega, by have := (HDF.out k hk).2; have := hf7.size; have := ha8.size; omega⟩
 have sp2 := step_run w8 F7 tb qA (TA 1 5) X7 hT8 (by show 1 ≤ 1000; decide) (by rw [hXb]; rfl) (by show 1 ≤ 10000; decide) (by rw [hXb]; simp) [] ⟨0, 1, 0, -1, none, 0, 0⟩ rfl _ hDF8 pA _ _ _ (some ⟨mb, 0, none⟩) hg8 0 (by decide) rfl 1 rfl (by decide) ⟨29, 0, 0, 0⟩ rfl (TA 2 5) 2 0 0 5 0 false none 0 0 (fun wr hw => run_output wr F7 tb qA (TA 1 5) X7 (hT8.below hw) (TA_ok 1 5) [] ⟨0, 1, 0, -1, none, 0, 0⟩ rfl ⟨by decide, by decide⟩ 0 (by decide) rfl 0 rfl 0 (by decide) (by omega) (by decide) 5 rfl _ _ _ _ 0 0)
 have k0 := below_cell ha8 k0
 have k1 := below_cell ha8 k1
 have k2 := below_cell ha8 k2
 have hb08 := (HB06.out.trans (hf7.below HB06.out.size (fun k hk => by have := HFW.out k hk; omega))).trans (ha8.mono (Nat.le_trans HB06.out.size hf7.size))
 have hF7w : ∀ k, F7 k → w.heap.size + 3 ≤ k := fun k hk => by
  rcases hF7 k hk with h1 | h1
  ·exact HFW.out k h1
  ·have := HB05.out.size; have := HB06.out.size; have := HSZ5.out; have := HS3.out; have := HLE6.out; omega
 obtain ⟨z7, hz7⟩ : ∃ z7, z7 = w7.heap.size := ⟨_, rfl⟩
 rw [← hz7] at hr8
 have hnz : ¬ F7 z7 := fun e => by have := hT7.flt z7 e; omega
 have HW8 := Lib.hid hw8
 have HZ7 := Lib.hid hz7
 clear hT7 hf7 ha8 hw8 hz7 hF7 hg8 hDF8 hT8 hXb
 have SP2 := Lib.hid sp2; clear sp2
 have HB08 := Lib.hid hb08; clear hb08
 have HF7W := Lib.hid hF7w; clear hF7w
 have HR8 := Lib.hid hr8; clear hr8
 have HNZ := Lib.hid hnz; clear hnz
 go_upto_region 7 with fail
 rw [← HW8.out, ← HZ7.out]
 go_wp2_with fail
 refine SP2.out.mono ?_
 rintro e w9 ⟨rfl, F9, X9, hT9, _, hF9, hf9⟩
 have hr9 := hf9.heap HR8.out HNZ.out
 have hb09 := HB08.out.trans (hf9.below HB08.out.size (fun k hk => by have := HF7W.out k hk; omega))
 unfold actV
 have ha10 : Below w9.heap.size w9 (w9.alloc (.cells #[.int .i64 2, .int .i64 0, .int .i64 0, .int .i64 5, .int .i64 0, .bool false, .slice none 0 0] 63)) := (Below.refl _ _).alloc (Nat.le_refl _) _
 have hr10 := heap_new w9 (.cells #[.int .i64 2, .int .i64 0, .int .i64 0, .int .i64 5, .int .i64 0, .bool false, .slice none 0 0] 63)
 obtain ⟨w10, hw10⟩ : ∃ w10, w10 = w9.alloc (.cells #[.int .i64 2, .int .i64 0, .int .i64 0, .int .i64 5, .int .i64 0, .bool false, .slice none 0 0] 63) := ⟨_, rfl⟩
 rw [← hw10] at ha10 hr10
 have hr9 := (Fr.of_below ha10 (fun _ => False)).heap hr9 (fun h => h)
 have pc := pc_some w10 F9 tb qA (TA 2 5) X9 (hT9.below ha10) (by show 1 ≤ 1000; decide) 0 rfl
 have pc : Calls Tryz.prog 31 #[.pointer (some ⟨tb, 0, none⟩)] w10 fun e w' => e = .returned (.int .i64 2) ∧ ∃ m, w' = w10.drewN m := pc
 have hb10 := hb09.trans (ha10.mono hb09.size)
 have m0 := (row_cell hr9 0).1
 have n0 := (row_cell hr10 0).1
 have n3 := (row_cell hr10 3).1
 simp at m0 n0 n3
 have HW10 := Lib.hid hw10
 clear hT9 hF9 hf9 ha10 hw10 hr9 hr10 hb09 k0 k1 k2
 have PC := Lib.hid pc; clear pc
 have HB10 := Lib.hid hb10; clear hb10
 go_upto_region 8 with fail
 rw [← HW10.out]
 go_wp2_with fail
 refine PC.out.mono ?_
 rintro e w11 ⟨rfl, m, rfl⟩
 go_wp2_with fail
 refine (asks_any _ 3).mono ?_
 rintro e w12 ⟨rfl, rfl⟩
 go_wp2_with fail
 refine (asks_any _ 2).mono ?_
 rintro e w12 ⟨rfl, rfl⟩
 go_wp2_with fail
 go_ret
 exact ⟨rfl, below_drewN HB10.out m⟩
end Go.Proofs.YthkhgihjigmkoaaGreat.Tk
namespace Go.Proofs.YthkhgihjigmkoaaGreat.Tk
open Go.ChangeShapes Go.WideShapes Go.ChangeAt Go.RowKit Go.Maps
def BeginPost (w : World) (q : TPrg) (pr : Prg) (tb' : Nat → List (Option (List Int))) (e : Ending) (w' : World) : Prop := ∃ mb tb F X, e = .returned (.tuple #[.pointer (some ⟨mb, 0, none⟩), .pointer (some ⟨tb, 0, none⟩)]) ∧ TaskAt w' F tb q (enterT ⟨1073741824, List.replicate 64 0, [], []⟩ 0 (wordsN q 0) 0 (-1) []) X ∧ X.New ∧
 (∃ w4 B b nm V Ms, (∀ i, i < pr.funcs.length → Ms i = tblF (tb' i)) ∧ MapsAt w4 B mb b nm V (allM pr.funcs.length Ms) ∧ (∀ k, F k → w4.heap.size ≤ k) ∧ w.heap.size ≤ w4.heap.size ∧ Below w4.heap.size w4 w') ∧ Below w.heap.size w w'
set_option maxRecDepth 100000 in
set_option maxHeartbeats 3200000 in
theorem begin_any (w : World) (D : Nat → Prop) (hD : ∀ k, D k → k < w.heap.size) (q : TPrg) (pr : Prg) (c0 c1 c2 : Value) (hv : PV w D q c0 c1 c2) (hg : PrgVal w D pr c0 c1 c2) (hq : PSmall q) (hB : PrgB pr ∧ PrgR pr) (h0 : (progS pr).1 = 0) (tb' : Nat → List (Option (List Int))) (ht : TabOk pr tb') (hq0 : 0 < q.funcs.length) (hna : q.funcs[0].nargs = 0) (hsl : 0 ≤ q.funcs[0].slots) (hw : wordsN q 0 ≤ 64) :
  Calls Tryz.prog 29 #[.agg #[c0, c1, c2]] w (BeginPost w q pr tb') := by
 have hw' : wordsN q ((0 : Nat) : Int) ≤ 64 := hw
 have hv0 := hv
 obtain ⟨⟨a0, n0, m0, rfl⟩, ⟨a1, m1, rfl, _⟩, a2, m2, rfl, _⟩ := hv
 have hb0 := ((Below.refl w.heap.size w).alloc (Nat.le_refl _) (.cells #[.slice a0 n0 m0, .slice a1 q.shapes.length m1, .slice a2 q.funcs.length m2] 27))
 have hq' := fun j => cell_new w #[.slice a0 n0 m0, .slice a1 q.shapes.length m1, .slice a2 q.funcs.length m2] 27 (0, 0) j
 obtain ⟨W, hW⟩ : ∃ W, W = (w.alloc (.cells #[.slice a0 n0 m0, .slice a1 q.shapes.length m1, .slice a2 q.funcs.length m2] 27)) := ⟨_, rfl⟩
 rw [← hW] at hb0 hq'
 have k0 : W.cell? ⟨w.heap.size, 0, none⟩ = some (.slice a0 n0 m0) := hq' 0
 have k1 : W.cell? ⟨w.heap.size, 1, none⟩ = some (.slice a1 q.shapes.length m1) := hq' 1
 have k2 : W.cell? ⟨w.heap.size, 2, none⟩ = some (.slice a2 q.funcs.length m2) := hq' 2
 have hg1 := hg.fr (Fr.of_below hb0 (fun _ => False)) (fun _ _ h => h)
 have fp := flowProg_any W D (fun k hk => Nat.lt_of_lt_of_le (hD k hk) hb0.size) pr _ _ _ hg1 hB.1 hB.2
 have hv1 := hv0.below hb0
 have HW := Lib.hid hW
 have HD := Lib.hid hD
 clear hW hq' hv0 hg hg1 hB hD
 have FP := Lib.hid fp; clear fp
 have HB0 := Lib.hid hb0; clear hb0
 have HV1 := Lib.hid hv1; clear hv1
 go_enter Tryz.func29, Tryz.ntmps29
 go_upto_region 1 with fail
 rw [← HW.out]
 go_wp2_with fail
 refine FP.out.mono ?_
 intro e w4 hpost
 obtain ⟨hb4, Ms, mb, b, nm, V, hMs, rfl, hmp⟩ := tab_flow (tb := tb') h0 ht hpost
 have hb04 := HB0.out.trans (hb4.mono HB0.out.size)
 have k0 := below_cell hb4 k0
 have k1 := below_cell hb4 k1
 have k2 := below_cell hb4 k2
 have hb5 : Below w4.heap.size w4 (w4.alloc (.cells #[.int .i64 0, .int .i64 0] 32)) := (Below.refl _ _).alloc (Nat.le_refl _) _
 have hv5 := (HV1.out.below hb4).below hb5
 obtain ⟨W5, hW5⟩ : ∃ W5, W5 = w4.alloc (.cells #[.int .i64 0, .int .i64 0] 32) := ⟨_, rfl⟩
 rw [← hW5] at hb5 hv5
 have hsz5 := Nat.le_trans hb04.size hb5.size
 have k0 := below_cell hb5 k0
 have k1 := below_cell hb5 k1
 have k2 := below_cell hb5 k2
 have nw := new_any W5 D (fun k hk => Nat.lt_of_lt_of_le (HD.out k hk) hsz5) q _ _ _ hv5 hq 0 hq0 hna hsl 0 (by omega) 64 500 64 (by omega) (by omega) (by omega) (by omega) (fun w => fit_stay w 64 _ (by omega) (by omega) (by omega))
 have HW5 := Lib.hid hW5
 have HMS := Lib.hid hMs
 have HMP := Lib.hid hmp
 clear hb4 hv5 hW5 hMs hmp hpost
 have NW := Lib.hid nw; clear nw
 have HB5 := Lib.hid hb5; clear hb5
 have HB04 := Lib.hid hb04; clear hb04
 have HSZ5 := Lib.hid hsz5; clear hsz5
 go_upto_region 2 with fail
 rw [← HW5.out]
 go_wp2_with fail
 refine NW.out.mono ?_
 rintro e w6 ⟨tb, F, X, rfl, hT, hXn, hF, hb6⟩
 have hb46 := HB5.out.trans (hb6.mono HB5.out.size)
 have hPP : BeginPost w q pr tb' (.returned (.tuple #[.pointer (some ⟨mb, 0, none⟩), .pointer (some ⟨tb, 0, none⟩)])) w6 := ⟨mb, tb, F, X, rfl, hT, hXn, ⟨w4, _, b, nm, V, Ms, HMS.out, HMP.out, fun k hk => Nat.le_trans HB5.out.size (hF k hk), HB04.out.size, hb46⟩, HB04.out.trans (hb46.mono HB04.out.size)⟩
 have HPP := Lib.hid hPP
 clear hPP hT hXn hF hb6 hb46
 go_wp2_with fail
 go_ret2
 exact HPP.out
end Go.Proofs.YthkhgihjigmkoaaGreat.Tk
