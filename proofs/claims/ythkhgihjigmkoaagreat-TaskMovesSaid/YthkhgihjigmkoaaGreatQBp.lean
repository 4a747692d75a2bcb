/- Flow, plainly: a table of kinds that is the flow of a function, by reckoning. Nothing of the program's text stands here. Walk: the statements' program of two functions, all of it; its flow. Walks: what the kinds of a program tell; the first call of chapter 12's statements. The reference's way to a function's flow, plainly: round by round till nothing changes. Nothing of the program's text stands here. Walk: which slots are pointers, which are places. -/
import Derived.Test.YthkhgihjigmkoaaGreatQBo
import Derived.Test.YthkhgihjigmkoaaGreatQAs
import Derived.Deep.Upon
import Derived.Test.YthkhgihjigmkoaaGreatQBh
import Derived.Test.YthkhgihjigmkoaaGreatQBe
import Derived.Test.YthkhgihjigmkoaaGreatQBk
import Derived.Test.YthkhgihjigmkoaaGreatQAy
import Derived.Test.YthkhgihjigmkoaaGreatQAf
import Derived.Test.YthkhgihjigmkoaaGreatQAc
import Derived.Deep.RegionHeld3
import Derived.Deep.CutBlock
import Derived.Deep.DeepCutAuto
import Derived.Test.YthkhgihjigmkoaaGreatQBf
import Derived.Test.YthkhgihjigmkoaaGreatQBg
import Derived.Test.YthkhgihjigmkoaaGreatQAd
import Derived.Laws.BitsAllLaws
set_option linter.unusedVariables false
set_option linter.unusedSimpArgs false
namespace Go.Proofs.YthkhgihjigmkoaaGreat
open Go.ChangeShapes Go.WideShapes Go.ChangeAt Go.RowKit Go.Maps
def leB (K L : List Int) : Bool := K.length == L.length && (List.range K.length).all fun j => (K[j]?).getD 0 == 0 || (K[j]?).getD 0 == (L[j]?).getD 0
theorem leB_le {K L : List Int} (h : leB K L = true) : Le K L := by
  unfold leB at h
  rw [Bool.and_eq_true] at h
  refine ⟨by simpa using h.1, fun j => ?_⟩
  rcases Nat.lt_or_ge j K.length with hj | hj
  · have := List.all_eq_true.1 h.2 j (List.mem_range.2 hj)
    simpa using this
  · rw [List.getElem?_eq_none hj]
    exact .inl rfl
def tblF (t : List (Option (List Int))) : Flo := fun q => (t[q]?).getD none
/-- the table holds -/
def solB (p : Prg) (f : Fun) (t : List (Option (List Int))) : Bool :=
  t.length == f.code.length && (match tblF t 0 with | some K => leB K (firstK f) | none => false) &&
  (List.range f.code.length).all fun q => match tblF t q with
    | none => true
    | some K => K.length == f.slots.toNat && (nextK (insAt f q) q).all fun m => !decide (0 ≤ m ∧ m < f.code.length) || (match tblF t m.toNat with | some L => leB L (outK p f (insAt f q) K) | none => false)
/-- each place of the table is the first one, or it has just what an earlier one hands on -/
def treeB (p : Prg) (f : Fun) (t : List (Option (List Int))) (par : List Nat) : Bool :=
  (List.range f.code.length).all fun q => match tblF t q with
    | none => true
    | some K => (q == 0 && leB K (firstK f) && leB (firstK f) K) || (let r := (par[q]?).getD 0; decide (r < q) && (nextK (insAt f r) r).contains (q : Int) && (match tblF t r with | some L => outK p f (insAt f r) L == K | none => false))
theorem isFlow_tbl {p : Prg} {f : Fun} {t : List (Option (List Int))} {par : List Nat} (ho : ∀ i ∈ f.code, InsOk p i) (h1 : solB p f t = true) (h2 : treeB p f t par = true) : IsFlow p f (tblF t) := by
  have hlen : t.length = f.code.length := by
    unfold solB at h1
    rw [Bool.and_eq_true, Bool.and_eq_true] at h1
    simpa using h1.1.1
  have hlt : ∀ q K, tblF t q = some K → q < f.code.length := fun q K hq => by
    rcases Nat.lt_or_ge q t.length with h | h
    · omega
    · unfold tblF at hq
      rw [List.getElem?_eq_none h] at hq
      cases hq
  have hat : ∀ q i, f.code[q]? = some i → insAt f q = i := fun q i hi => by unfold insAt; rw [hi]; rfl
  have hin : ∀ {q}, q < f.code.length → f.code[q]? = some (insAt f q) := fun {q} hq => by
    unfold insAt
    rw [List.getElem?_eq_getElem hq]
    rfl
  unfold solB at h1
  rw [Bool.and_eq_true, Bool.and_eq_true] at h1
  obtain ⟨⟨_, h1a⟩, h1b⟩ := h1
  have hrow : ∀ q K, tblF t q = some K → K.length = f.slots.toNat ∧ ∀ m : Nat, (m : Int) ∈ nextK (insAt f q) q → m < f.code.length → ∃ L, tblF t m = some L ∧ Le L (outK p f (insAt f q) K) := fun q K hq => by
    have h3 := List.all_eq_true.1 h1b q (List.mem_range.2 (hlt q K hq))
    simp only [hq] at h3
    rw [Bool.and_eq_true] at h3
    refine ⟨by simpa using h3.1, fun m hm hml => ?_⟩
    have h4 := List.all_eq_true.1 h3.2 (m : Int) hm
    rw [decide_eq_true (show (0 : Int) ≤ (m : Int) ∧ (m : Int) < (f.code.length : Int) by omega)] at h4
    simp only [Int.toNat_natCast, Bool.not_true, Bool.false_or] at h4
    cases hL : tblF t m with
    | none => rw [hL] at h4; cases h4
    | some L => rw [hL] at h4; exact ⟨L, rfl, leB_le h4⟩
  refine ⟨⟨?_, fun q K hq => ⟨hlt q K hq, (hrow q K hq).1⟩, fun q K i hq hi m hm hml => ?_⟩, fun S hS q => ?_⟩
  · cases h0 : tblF t 0 with
    | none => rw [h0] at h1a; cases h1a
    | some K => rw [h0] at h1a; exact ⟨K, rfl, leB_le h1a⟩
  · have e := hat q i hi
    subst e
    exact (hrow q K hq).2 m hm hml
  · induction q using Nat.strongRecOn with
    | ind q ih =>
      intro K hq
      have hql := hlt q K hq
      have h3 := List.all_eq_true.1 h2 q (List.mem_range.2 hql)
      simp only [hq] at h3
      rw [Bool.or_eq_true] at h3
      rcases h3 with h3 | h3
      · rw [Bool.and_eq_true, Bool.and_eq_true] at h3
        obtain ⟨⟨e, _⟩, h5⟩ := h3
        have e : q = 0 := by simpa using e
        subst e
        obtain ⟨L, hL, hle⟩ := hS.first
        exact ⟨L, hL, hle.trans (leB_le h5)⟩
      · generalize (par[q]?).getD 0 = r at h3
        simp only [Bool.and_eq_true] at h3
        obtain ⟨⟨hr, hc⟩, hK⟩ := h3
        have hr := of_decide_eq_true hr
        cases hL : tblF t r with
        | none => rw [hL] at hK; cases hK
        | some L =>
          rw [hL] at hK
          have hK : outK p f (insAt f r) L = K := by simpa using hK
          have hrl := hlt r L hL
          obtain ⟨L', hL', hle'⟩ := ih r hr L hL
          have hmem : (q : Int) ∈ nextK (insAt f r) r := by simpa using hc
          obtain ⟨M, hM, hMle⟩ := hS.step r L' _ hL' (hin hrl) q hmem hql
          refine ⟨M, hM, hMle.trans ?_⟩
          rw [← hK]
          exact outK_le hle' p f _ (ho _ (List.mem_of_getElem? (hin hrl)))
theorem flow_uniq {p : Prg} {f : Fun} {M N : Flo} (h : IsFlow p f M) (h2 : IsFlow p f N) : M = N := by
  have hle2 : ∀ {K L : List Int}, Le K L → Le L K → K = L := fun {K L} h h2 => by
    refine List.ext_getElem h.1 fun j hj hj2 => ?_
    have e := h.2 j
    have e2 := h2.2 j
    rw [List.getElem?_eq_getElem hj, List.getElem?_eq_getElem hj2] at e e2
    simp only [Option.getD_some] at e e2
    omega
  funext q
  cases hm : M q with
  | none =>
    cases hn : N q with
    | none => rfl
    | some K =>
      obtain ⟨L, hL, _⟩ := h2.2 M h.1 q K hn
      rw [hm] at hL
      cases hL
  | some K =>
    obtain ⟨L, hL, hle⟩ := h.2 N h2.1 q K hm
    obtain ⟨K2, hK2, hle3⟩ := h2.2 M h.1 q L hL
    rw [hm] at hK2
    injection hK2 with e
    subst e
    rw [hL, hle2 hle hle3]
/-- a program whose every function has its table -/
def TabOk (p : Prg) (tb : Nat → List (Option (List Int))) : Prop := ∀ i, i < p.funcs.length → IsFlow p (fnAt p i) (tblF (tb i)) ∧ (flowE p (fnAt p i) (tblF (tb i))).1 = 0
theorem tab_flow {p : Prg} {tb : Nat → List (Option (List Int))} (h0 : (progS p).1 = 0) (ht : TabOk p tb) {w : World} {e : Ending} {w' : World} (h : FlowPost p w e w') :
    Below w.heap.size w w' ∧ ∃ Ms mb b nm V, (∀ i, i < p.funcs.length → Ms i = tblF (tb i)) ∧ e = .returned (.tuple #[.pointer (some ⟨mb, 0, none⟩), .int .i64 0, .agg #[.int .i64 0, .int .i64 0]]) ∧ MapsAt w' w.heap.size mb b nm V (allM p.funcs.length Ms) := by
  obtain ⟨hb, h⟩ := h
  refine ⟨hb, ?_⟩
  rcases h with ⟨E, fn, pc, hf, _⟩ | ⟨_, Ms, mb, b, nm, V, hms, he, hm⟩
  · obtain ⟨hE, hf⟩ := hf
    rcases hf with hf | ⟨_, hfn, Ms, hms, _, hfe⟩
    · rw [hf] at h0
      exact absurd h0 hE
    · have hu := flow_uniq (hms fn (Nat.le_refl _)) (ht fn hfn).1
      rw [hu] at hfe
      have h2 := (ht fn hfn).2
      rw [hfe] at h2
      exact absurd h2 hE
  · exact ⟨Ms, mb, b, nm, V, fun i hi => flow_uniq (hms i hi).1 (ht i hi).1, he, hm⟩
end Go.Proofs.YthkhgihjigmkoaaGreat
namespace Go.Proofs.YthkhgihjigmkoaaGreat.Tk
open Go.ChangeShapes Go.WideShapes Go.ChangeAt Go.RowKit Go.Maps
def pO : Prg := ⟨[], [[1, 1]], [⟨[], 0, 3, [0], [⟨18, 2, 0, 0⟩, ⟨27, 0, 0, 0⟩]⟩, ⟨[1, 1], 1, 3, [0], [⟨18, 2, 0, 0⟩, ⟨27, 0, 0, 0⟩]⟩]⟩
def tO (i : Nat) : List (Option (List Int)) := if i = 0 then [some [0, 0, 0], some [0, 0, 64]] else [some [1, 1, 0], some [1, 1, 64]]
theorem pO_S : progS pO = (0, 0, 0) := by decide +kernel
theorem pO_B : PrgB pO ∧ PrgR pO := by
  unfold PrgB PrgR FunB Ins.wf i64B pO
  simp
theorem insOk_addr (p : Prg) (a b c : Int) : InsOk p ⟨18, a, b, c⟩ := by unfold InsOk; simp
theorem insOk_exit (p : Prg) (a b c : Int) : InsOk p ⟨27, a, b, c⟩ := by unfold InsOk; simp
theorem pO_tab : TabOk pO tO := fun i hi => by
  have hi2 : i = 0 ∨ i = 1 := by have : i < 2 := hi; omega
  rcases hi2 with rfl | rfl
  · refine ⟨isFlow_tbl (par := [0, 0]) (fun j hj => ?_) (by decide +kernel) (by decide +kernel), by decide +kernel⟩
    have hj : j ∈ [(⟨18, 2, 0, 0⟩ : Ins), ⟨27, 0, 0, 0⟩] := hj
    simp at hj
    rcases hj with rfl | rfl
    · exact insOk_addr _ _ _ _
    · exact insOk_exit _ _ _ _
  · refine ⟨isFlow_tbl (par := [0, 0]) (fun j hj => ?_) (by decide +kernel) (by decide +kernel), by decide +kernel⟩
    have hj : j ∈ [(⟨18, 2, 0, 0⟩ : Ins), ⟨27, 0, 0, 0⟩] := hj
    simp at hj
    rcases hj with rfl | rfl
    · exact insOk_addr _ _ _ _
    · exact insOk_exit _ _ _ _
set_option maxRecDepth 100000 in
set_option maxHeartbeats 3200000 in
theorem one2_any (w : World) :
    Calls Tryz.prog 11 #[] w fun e w' => ∃ c0 c1 c2, e = .returned (.agg #[c0, c1, c2]) ∧ PV w' (fun k => w.heap.size ≤ k ∧ k < w'.heap.size) p1 c0 c1 c2 ∧ PrgVal w' (fun k => w.heap.size ≤ k ∧ k < w'.heap.size) pO c0 c1 c2 ∧ Below w.heap.size w w' := by
  obtain ⟨W1, h1⟩ : ∃ W1, W1 = w.alloc (.cells #[.slice none 0 0, .slice (some ⟨w.heap.size + 1 + 1 + 1, 0, none⟩) 1 1, .slice (some ⟨w.heap.size + 1 + 1 + 1 + 1 + 1 + 1 + 1, 0, none⟩) 2 2] 27) := ⟨_, rfl⟩
  have s1 : W1.heap.size = w.heap.size + 1 := by rw [h1]; simp
  have b1 : Below w.heap.size w W1 := by rw [h1]; exact (Below.refl _ _).alloc (Nat.le_refl _) _
  have r0 : W1.heap[w.heap.size]? = some (.cells #[.slice none 0 0, .slice (some ⟨w.heap.size + 1 + 1 + 1, 0, none⟩) 1 1, .slice (some ⟨w.heap.size + 1 + 1 + 1 + 1 + 1 + 1 + 1, 0, none⟩) 2 2] 27) := by rw [h1]; exact heap_new _ _
  obtain ⟨W2, h2⟩ : ∃ W2, W2 = W1.alloc (.cells #[.int .i64 18, .int .i64 2, .int .i64 0, .int .i64 0, .int .i64 27, .int .i64 0, .int .i64 0, .int .i64 0] 59) := ⟨_, rfl⟩
  have s2 : W2.heap.size = w.heap.size + 1 + 1 := by rw [h2]; simp [s1]
  have b2 : Below W1.heap.size W1 W2 := by rw [h2]; exact (Below.refl _ _).alloc (Nat.le_refl _) _
  have r1 : W2.heap[w.heap.size + 1]? = some (.cells #[.int .i64 18, .int .i64 2, .int .i64 0, .int .i64 0, .int .i64 27, .int .i64 0, .int .i64 0, .int .i64 0] 59) := by rw [h2, ← s1]; exact heap_new _ _
  obtain ⟨W3, h3⟩ : ∃ W3, W3 = W2.alloc (.cells #[.int .i64 1, .int .i64 1] 3) := ⟨_, rfl⟩
  have s3 : W3.heap.size = w.heap.size + 1 + 1 + 1 := by rw [h3]; simp [s2]
  have b3 : Below W2.heap.size W2 W3 := by rw [h3]; exact (Below.refl _ _).alloc (Nat.le_refl _) _
  have r2 : W3.heap[w.heap.size + 1 + 1]? = some (.cells #[.int .i64 1, .int .i64 1] 3) := by rw [h3, ← s2]; exact heap_new _ _
  obtain ⟨W4, h4⟩ : ∃ W4, W4 = W3.alloc (.cells #[.slice (some ⟨w.heap.size + 1 + 1, 0, none⟩) 2 2] 76) := ⟨_, rfl⟩
  have s4 : W4.heap.size = w.heap.size + 1 + 1 + 1 + 1 := by rw [h4]; simp [s3]
  have b4 : Below W3.heap.size W3 W4 := by rw [h4]; exact (Below.refl _ _).alloc (Nat.le_refl _) _
  have r3 : W4.heap[w.heap.size + 1 + 1 + 1]? = some (.cells #[.slice (some ⟨w.heap.size + 1 + 1, 0, none⟩) 2 2] 76) := by rw [h4, ← s3]; exact heap_new _ _
  obtain ⟨W5, h5⟩ : ∃ W5, W5 = W4.alloc (.cells #[.int .i64 0] 3) := ⟨_, rfl⟩
  have s5 : W5.heap.size = w.heap.size + 1 + 1 + 1 + 1 + 1 := by rw [h5]; simp [s4]
  have b5 : Below W4.heap.size W4 W5 := by rw [h5]; exact (Below.refl _ _).alloc (Nat.le_refl _) _
  have r4 : W5.heap[w.heap.size + 1 + 1 + 1 + 1]? = some (.cells #[.int .i64 0] 3) := by rw [h5, ← s4]; exact heap_new _ _
  obtain ⟨W6, h6⟩ : ∃ W6, W6 = W5.alloc (.cells #[.int .i64 1, .int .i64 1] 3) := ⟨_, rfl⟩
  have s6 : W6.heap.size = w.heap.size + 1 + 1 + 1 + 1 + 1 + 1 := by rw [h6]; simp [s5]
  have b6 : Below W5.heap.size W5 W6 := by rw [h6]; exact (Below.refl _ _).alloc (Nat.le_refl _) _
  have r5 : W6.heap[w.heap.size + 1 + 1 + 1 + 1 + 1]? = some (.cells #[.int .i64 1, .int .i64 1] 3) := by rw [h6, ← s5]; exact heap_new _ _
  obtain ⟨W7, h7⟩ : ∃ W7, W7 = W6.alloc (.cells #[.int .i64 0] 3) := ⟨_, rfl⟩
  have s7 : W7.heap.size = w.heap.size + 1 + 1 + 1 + 1 + 1 + 1 + 1 := by rw [h7]; simp [s6]
  have b7 : Below W6.heap.size W6 W7 := by rw [h7]; exact (Below.refl _ _).alloc (Nat.le_refl _) _
  have r6 : W7.heap[w.heap.size + 1 + 1 + 1 + 1 + 1 + 1]? = some (.cells #[.int .i64 0] 3) := by rw [h7, ← s6]; exact heap_new _ _
  obtain ⟨W8, h8⟩ : ∃ W8, W8 = W7.alloc (.cells #[.slice none 0 0, .int .i64 0, .int .i64 3, .slice (some ⟨w.heap.size + 1 + 1 + 1 + 1, 0, none⟩) 1 1, .slice (some ⟨w.heap.size + 1, 0, none⟩) 2 2, .slice (some ⟨w.heap.size + 1 + 1 + 1 + 1 + 1, 0, none⟩) 2 2, .int .i64 1, .int .i64 3, .slice (some ⟨w.heap.size + 1 + 1 + 1 + 1 + 1 + 1, 0, none⟩) 1 1, .slice (some ⟨w.heap.size + 1, 0, none⟩) 2 2] 74) := ⟨_, rfl⟩
  have s8 : W8.heap.size = w.heap.size + 1 + 1 + 1 + 1 + 1 + 1 + 1 + 1 := by rw [h8]; simp [s7]
  have b8 : Below W7.heap.size W7 W8 := by rw [h8]; exact (Below.refl _ _).alloc (Nat.le_refl _) _
  have r7 : W8.heap[w.heap.size + 1 + 1 + 1 + 1 + 1 + 1 + 1]? = some (.cells #[.slice none 0 0, .int .i64 0, .int .i64 3, .slice (some ⟨w.heap.size + 1 + 1 + 1 + 1, 0, none⟩) 1 1, .slice (some ⟨w.heap.size + 1, 0, none⟩) 2 2, .slice (some ⟨w.heap.size + 1 + 1 + 1 + 1 + 1, 0, none⟩) 2 2, .int .i64 1, .int .i64 3, .slice (some ⟨w.heap.size + 1 + 1 + 1 + 1 + 1 + 1, 0, none⟩) 1 1, .slice (some ⟨w.heap.size + 1, 0, none⟩) 2 2] 74) := by rw [h8, ← s7]; exact heap_new _ _
  have r0 := (Fr.of_below b2 (fun _ => False)).heap r0 (fun h => h)
  have r0 := (Fr.of_below b3 (fun _ => False)).heap r0 (fun h => h)
  have r0 := (Fr.of_below b4 (fun _ => False)).heap r0 (fun h => h)
  have r0 := (Fr.of_below b5 (fun _ => False)).heap r0 (fun h => h)
  have r0 := (Fr.of_below b6 (fun _ => False)).heap r0 (fun h => h)
  have r0 := (Fr.of_below b7 (fun _ => False)).heap r0 (fun h => h)
  have r0 := (Fr.of_below b8 (fun _ => False)).heap r0 (fun h => h)
  have r1 := (Fr.of_below b3 (fun _ => False)).heap r1 (fun h => h)
  have r1 := (Fr.of_below b4 (fun _ => False)).heap r1 (fun h => h)
  have r1 := (Fr.of_below b5 (fun _ => False)).heap r1 (fun h => h)
  have r1 := (Fr.of_below b6 (fun _ => False)).heap r1 (fun h => h)
  have r1 := (Fr.of_below b7 (fun _ => False)).heap r1 (fun h => h)
  have r1 := (Fr.of_below b8 (fun _ => False)).heap r1 (fun h => h)
  have r2 := (Fr.of_below b4 (fun _ => False)).heap r2 (fun h => h)
  have r2 := (Fr.of_below b5 (fun _ => False)).heap r2 (fun h => h)
  have r2 := (Fr.of_below b6 (fun _ => False)).heap r2 (fun h => h)
  have r2 := (Fr.of_below b7 (fun _ => False)).heap r2 (fun h => h)
  have r2 := (Fr.of_below b8 (fun _ => False)).heap r2 (fun h => h)
  have r3 := (Fr.of_below b5 (fun _ => False)).heap r3 (fun h => h)
  have r3 := (Fr.of_below b6 (fun _ => False)).heap r3 (fun h => h)
  have r3 := (Fr.of_below b7 (fun _ => False)).heap r3 (fun h => h)
  have r3 := (Fr.of_below b8 (fun _ => False)).heap r3 (fun h => h)
  have r4 := (Fr.of_below b6 (fun _ => False)).heap r4 (fun h => h)
  have r4 := (Fr.of_below b7 (fun _ => False)).heap r4 (fun h => h)
  have r4 := (Fr.of_below b8 (fun _ => False)).heap r4 (fun h => h)
  have r5 := (Fr.of_below b7 (fun _ => False)).heap r5 (fun h => h)
  have r5 := (Fr.of_below b8 (fun _ => False)).heap r5 (fun h => h)
  have r6 := (Fr.of_below b8 (fun _ => False)).heap r6 (fun h => h)
  have hb : Below w.heap.size w W8 := b1|>.trans (b2.mono (by omega))|>.trans (b3.mono (by omega))|>.trans (b4.mono (by omega))|>.trans (b5.mono (by omega))|>.trans (b6.mono (by omega))|>.trans (b7.mono (by omega))|>.trans (b8.mono (by omega))
  have hpv : PV W8 (fun k => w.heap.size ≤ k ∧ k < W8.heap.size) p1 (.slice none 0 0) (.slice (some ⟨w.heap.size + 1 + 1 + 1, 0, none⟩) 1 1) (.slice (some ⟨w.heap.size + 1 + 1 + 1 + 1 + 1 + 1 + 1, 0, none⟩) 2 2) := by
    refine ⟨⟨none, 0, 0, rfl⟩, ⟨_, 1, rfl, fun j hj => ?_⟩, _, 2, rfl, fun j hj => ?_⟩
    · obtain rfl : j = 0 := by have : j < 1 := hj; omega
      exact ⟨_, 0, rfl, ⟨by omega, by omega⟩, _, 2, (row_cell r3 0).1⟩
    · have hj2 : j = 0 ∨ j = 1 := by have : j < 2 := hj; omega
      rcases hj2 with rfl | rfl
      · refine ⟨_, 0, rfl, ⟨by omega, by omega⟩, _, _, _, _, _, (row_cell r7 0).1, (row_cell r7 1).1, (row_cell r7 2).1, (row_cell r7 3).1, (row_cell r7 4).1, ⟨none, 0, rfl⟩, ⟨0, rfl⟩, rfl, ⟨_, 1, rfl, fun i hi => ?_⟩, _, _, _, rfl⟩
        obtain rfl : i = 0 := by have : i < 1 := hi; omega
        exact ⟨_, 0, rfl, ⟨by omega, by omega⟩, (row_cell r4 0).1⟩
      · refine ⟨_, 0, rfl, ⟨by omega, by omega⟩, _, _, _, _, _, (row_cell r7 5).1, (row_cell r7 6).1, (row_cell r7 7).1, (row_cell r7 8).1, (row_cell r7 9).1, ⟨_, _, rfl⟩, ⟨1, rfl⟩, rfl, ⟨_, 1, rfl, fun i hi => ?_⟩, _, _, _, rfl⟩
        obtain rfl : i = 0 := by have : i < 1 := hi; omega
        exact ⟨_, 0, rfl, ⟨by omega, by omega⟩, (row_cell r6 0).1⟩
  have hpg : PrgVal W8 (fun k => w.heap.size ≤ k ∧ k < W8.heap.size) pO (.slice none 0 0) (.slice (some ⟨w.heap.size + 1 + 1 + 1, 0, none⟩) 1 1) (.slice (some ⟨w.heap.size + 1 + 1 + 1 + 1 + 1 + 1 + 1, 0, none⟩) 2 2) := by
    refine ⟨⟨none, 0, rfl, fun j hj => by cases hj⟩, ⟨_, 1, rfl, fun j hj => ?_⟩, _, 2, rfl, fun j hj => ?_⟩
    · obtain rfl : j = 0 := by have : j < 1 := hj; omega
      refine ⟨_, 0, rfl, ⟨by omega, by omega⟩, _, 2, (row_cell r3 0).1, fun i hi => ?_⟩
      have hi2 : i = 0 ∨ i = 1 := by have : i < 2 := hi; omega
      rcases hi2 with rfl | rfl
      · exact ⟨_, 0, rfl, ⟨by omega, by omega⟩, (row_cell r2 0).1⟩
      · exact ⟨_, 0, rfl, ⟨by omega, by omega⟩, (row_cell r2 1).1⟩
    · have hj2 : j = 0 ∨ j = 1 := by have : j < 2 := hj; omega
      rcases hj2 with rfl | rfl
      · refine ⟨_, 0, rfl, ⟨by omega, by omega⟩, _, _, _, _, _, (row_cell r7 0).1, (row_cell r7 1).1, (row_cell r7 2).1, (row_cell r7 3).1, (row_cell r7 4).1, rfl, rfl, ⟨none, 0, rfl, fun i hi => by cases hi⟩, ⟨_, 1, rfl, fun i hi => ?_⟩, _, 2, rfl, fun i hi => ?_⟩
        · obtain rfl : i = 0 := by have : i < 1 := hi; omega
          exact ⟨_, 0, rfl, ⟨by omega, by omega⟩, (row_cell r4 0).1⟩
        · have hi2 : i = 0 ∨ i = 1 := by have : i < 2 := hi; omega
          rcases hi2 with rfl | rfl
          · exact ⟨_, 0, rfl, ⟨by omega, by omega⟩, (row_cell r1 0).1, (row_cell r1 1).1, (row_cell r1 2).1, (row_cell r1 3).1⟩
          · exact ⟨_, 0, rfl, ⟨by omega, by omega⟩, (row_cell r1 4).1, (row_cell r1 5).1, (row_cell r1 6).1, (row_cell r1 7).1⟩
      · refine ⟨_, 0, rfl, ⟨by omega, by omega⟩, _, _, _, _, _, (row_cell r7 5).1, (row_cell r7 6).1, (row_cell r7 7).1, (row_cell r7 8).1, (row_cell r7 9).1, rfl, rfl, ⟨_, 2, rfl, fun i hi => ?_⟩, ⟨_, 1, rfl, fun i hi => ?_⟩, _, 2, rfl, fun i hi => ?_⟩
        · have hi2 : i = 0 ∨ i = 1 := by have : i < 2 := hi; omega
          rcases hi2 with rfl | rfl
          · exact ⟨_, 0, rfl, ⟨by omega, by omega⟩, (row_cell r5 0).1⟩
          · exact ⟨_, 0, rfl, ⟨by omega, by omega⟩, (row_cell r5 1).1⟩
        · obtain rfl : i = 0 := by have : i < 1 := hi; omega
          exact ⟨_, 0, rfl, ⟨by omega, by omega⟩, (row_cell r6 0).1⟩
        · have hi2 : i = 0 ∨ i = 1 := by have : i < 2 := hi; omega
          rcases hi2 with rfl | rfl
          · exact ⟨_, 0, rfl, ⟨by omega, by omega⟩, (row_cell r1 0).1, (row_cell r1 1).1, (row_cell r1 2).1, (row_cell r1 3).1⟩
          · exact ⟨_, 0, rfl, ⟨by omega, by omega⟩, (row_cell r1 4).1, (row_cell r1 5).1, (row_cell r1 6).1, (row_cell r1 7).1⟩
  have k0 : W8.cell? ⟨w.heap.size, 0, none⟩ = some (.slice none 0 0) := (row_cell r0 0).1
  have k1 : W8.cell? ⟨w.heap.size, 1, none⟩ = some (.slice (some ⟨w.heap.size + 1 + 1 + 1, 0, none⟩) 1 1) := (row_cell r0 1).1
  have k2 : W8.cell? ⟨w.heap.size, 2, none⟩ = some (.slice (some ⟨w.heap.size + 1 + 1 + 1 + 1 + 1 + 1 + 1, 0, none⟩) 2 2) := (row_cell r0 2).1
  have hW : (((((((w.alloc (.cells #[.slice none 0 0, .slice (some ⟨w.heap.size + 1 + 1 + 1, 0, none⟩) 1 1, .slice (some ⟨w.heap.size + 1 + 1 + 1 + 1 + 1 + 1 + 1, 0, none⟩) 2 2] 27)).alloc (.cells #[.int .i64 18, .int .i64 2, .int .i64 0, .int .i64 0, .int .i64 27, .int .i64 0, .int .i64 0, .int .i64 0] 59)).alloc (.cells #[.int .i64 1, .int .i64 1] 3)).alloc (.cells #[.slice (some ⟨w.heap.size + 1 + 1, 0, none⟩) 2 2] 76)).alloc (.cells #[.int .i64 0] 3)).alloc (.cells #[.int .i64 1, .int .i64 1] 3)).alloc (.cells #[.int .i64 0] 3)).alloc (.cells #[.slice none 0 0, .int .i64 0, .int .i64 3, .slice (some ⟨w.heap.size + 1 + 1 + 1 + 1, 0, none⟩) 1 1, .slice (some ⟨w.heap.size + 1, 0, none⟩) 2 2, .slice (some ⟨w.heap.size + 1 + 1 + 1 + 1 + 1, 0, none⟩) 2 2, .int .i64 1, .int .i64 3, .slice (some ⟨w.heap.size + 1 + 1 + 1 + 1 + 1 + 1, 0, none⟩) 1 1, .slice (some ⟨w.heap.size + 1, 0, none⟩) 2 2] 74) = W8 := by rw [h8, h7, h6, h5, h4, h3, h2, h1]

  have HK := Lib.hid (And.intro k0 (And.intro k1 k2))
  have HP := Lib.hid (And.intro hpv (And.intro hpg hb))
  clear r0 r1 r2 r3 r4 r5 r6 r7 b1 b2 b3 b4 b5 b6 b7 b8 s1 s2 s3 s4 s5 s6 s7 s8 k0 k1 k2 hpv hpg hb h1 h2 h3 h4 h5 h6 h7 h8
  have HW := Lib.hid hW
  clear hW
  go_enter Tryz.func11, Tryz.ntmps11
  go_upto_region 2 with fail
  go_wp2_with fail
  rw [HW.out]
  obtain ⟨k0, k1, k2⟩ := HK.out
  refine bodyPost_ret ?_ rfl ⟨_, _, _, rfl, HP.out.1, HP.out.2.1, HP.out.2.2⟩
  simp [results, Tryz.results11, go_sem, k0, k1, k2]
end Go.Proofs.YthkhgihjigmkoaaGreat.Tk
namespace Go.Proofs.YthkhgihjigmkoaaGreat
open Go.ChangeShapes Go.WideShapes Go.ChangeAt Go.RowKit Go.Maps
set_option maxRecDepth 100000 in
theorem kindsM_any (w : World) (B mb b nm : Nat) (V : Nat → Prop) (C : Pl → Option (List Int)) (h : MapsAt w B mb b nm V C) (fn q : Int) (hI : i64B fn ∧ i64B q) (hCl : ∀ x K, C x = some K → K.length ≤ 100000) :
    Calls Tryz.prog 114 #[.pointer (some ⟨mb, 0, none⟩), .int .i64 fn, .int .i64 q] w fun e w' => ∃ v, e = .returned v ∧ Own intE w' w.heap.size v ((C ⟨(fn, q), hI⟩).getD []) ∧ Below w.heap.size w w' := by
  obtain ⟨hr, hm, _⟩ := h
  have k0 : w.cell? ⟨mb, 0, none⟩ = some (.map (some b)) := (row_cell hr 0).1
  cases hc : C ⟨(fn, q), hI⟩ with
  | none =>
    have hlk : (Instr.lookup 79 (.map (some b)) (.agg #[.int .i64 fn, .int .i64 q]) false).run Tryz.prog w = .ok (.slice none 0 0) w := (hm.none_run _ hc).2
    have cl := cloneInts_any w (fun _ => False) none [] 0 (fun j hj => by cases hj) (by simp)
    clear hr hm hCl hc
    have CL := Lib.hid cl; clear cl
    go_enter Tryz.func114, Tryz.ntmps114
    go_wp2_with fail
    refine CL.out.mono ?_
    rintro e w1 ⟨v, rfl, ho, hb⟩
    have HO := Lib.hid ho; clear ho
    have HB := Lib.hid hb; clear hb
    clear hlk
    go_wp2_with fail
    go_ret
    exact ⟨v, rfl, HO.out, HB.out⟩
  | some K =>
    obtain ⟨a, c, hs, _, hlk⟩ := hm.some_run _ K hc
    have hlk : (Instr.lookup 79 (.map (some b)) (.agg #[.int .i64 fn, .int .i64 q]) false).run Tryz.prog w = .ok (.slice a K.length c) w := hlk
    have cl := cloneInts_any w _ a K c hs (by have := hCl _ K hc; omega)
    clear hr hm hCl hc hs
    have CL := Lib.hid cl; clear cl
    go_enter Tryz.func114, Tryz.ntmps114
    go_wp2_with fail
    refine CL.out.mono ?_
    rintro e w1 ⟨v, rfl, ho, hb⟩
    have HO := Lib.hid ho; clear ho
    have HB := Lib.hid hb; clear hb
    clear hlk
    go_wp2_with fail
    go_ret
    exact ⟨v, rfl, HO.out, HB.out⟩
theorem MapsAt.below {w w' : World} {B mb b nm : Nat} {V : Nat → Prop} {C : Pl → Option (List Int)} (h : MapsAt w B mb b nm V C) (hb : Below w.heap.size w w') : MapsAt w' B mb b nm V C := by
  obtain ⟨h1, h2, h3, h4, h5⟩ := h
  exact ⟨(Fr.of_below hb (fun _ => False)).heap h1 (fun h => h), h2.fr (Fr.of_below hb (fun _ => False)) (fun h => h) (fun _ _ h => h), h3, h4, fun q hq => ⟨(h5 q hq).1, Nat.lt_of_lt_of_le (h5 q hq).2 hb.size⟩⟩
def pf : Prg := ⟨[], [[1]], [⟨[], 0, 1, [], [⟨1, 0, 1, 0⟩, ⟨10, 0, 3, 0⟩, ⟨11, 0, 0, 0⟩, ⟨27, 0, 0, 0⟩]⟩]⟩
end Go.Proofs.YthkhgihjigmkoaaGreat
namespace Go.Proofs.YthkhgihjigmkoaaGreat
/-- what is not yet looked at in a round: all, if something has changed; else what lies behind -/
def PendAt (more : Bool) (pc : Nat) : Nat → Int → Prop := fun q _ => more = true ∨ pc ≤ q
def PendIn (more : Bool) (pc : Nat) (rem : List Int) : Nat → Int → Prop := fun q m => more = true ∨ pc < q ∨ (q = pc ∧ m ∈ rem)
theorem FInv.enter {p : Prg} {f : Fun} {M : Flo} {more : Bool} {pc : Nat} {i : Ins} {NL : List Int} (h : FInv p f M (PendAt more pc)) (hi : f.code[pc]? = some i) (hN : NL = nextK i pc) : FInv p f M (PendIn more pc NL) :=
  ⟨h.low, h.first, h.len, fun q K' i' hq hi' m hm1 hml hn => h.step q K' i' hq hi' m hm1 hml (fun hP => by
    rcases hP with hP | hP
    · exact hn (.inl hP)
    · by_cases e : q = pc
      · subst e
        rw [hi] at hi'
        injection hi' with hi'
        subst hi'
        exact hn (.inr (.inr ⟨rfl, hN ▸ hm1⟩))
      · exact hn (.inr (.inl (by omega))))⟩
/-- kinds come to a place at which they change something -/
theorem FInv.turned {p : Prg} {f : Fun} {M : Flo} {more : Bool} {pc n : Nat} {K : List Int} {l : List Int} (h : FInv p f M (PendIn more pc l)) (hn : n < f.code.length) (hK : K.length = f.slots.toNat) (hlow : ∀ S, Sol p f S → ∃ L, S n = some L ∧ Le L K) : ∀ rem, FInv p f (comeM M n K) (PendIn true pc rem) := fun _ =>
  (h.come n K hn hK hlow).1.weaken (fun _ _ _ => .inl rfl)
end Go.Proofs.YthkhgihjigmkoaaGreat
namespace Go.Proofs.YthkhgihjigmkoaaGreat
open Go.ChangeShapes Go.WideShapes Go.ChangeAt Go.RowKit Go.Maps
/-- a bit for each of the first n kinds that a question is right of -/
def bitsP (b : Int → Bool) (K : List Int) : Nat → Nat
  | 0 => 0
  | n + 1 => bitsP b K n + if b ((K[n]?).getD 0) then 2 ^ n else 0
theorem bitsP_lt (b : Int → Bool) (K : List Int) : ∀ n, bitsP b K n < 2 ^ n
  | 0 => Nat.one_pos
  | n + 1 => by
    have := bitsP_lt b K n
    show bitsP b K n + _ < 2 ^ (n + 1)
    rw [Nat.pow_succ]
    split <;> omega
theorem or_bit {x k : Nat} (hx : x < 2 ^ k) (hk : k < 16) : bits BinOp.or IntKind.u16 (x : Int) (IntKind.u16.wrap (2 ^ k)) = ((x + 2 ^ k : Nat) : Int) := by
  have h1 : ∀ k : Nat, k < 16 → IntKind.u16.wrap (2 ^ k) = ((2 ^ k : Nat) : Int) := by decide
  have h2 : 2 ^ k ≤ 2 ^ 15 := Nat.pow_le_pow_right (by decide) (by omega)
  have h3 : (2 : Nat) ^ 15 = 32768 := by decide
  rw [h1 k hk, u16_or_nat x (2 ^ k) (by omega) (by omega)]
  have h4 := Nat.two_pow_add_eq_or_of_lt hx 1
  rw [Nat.mul_one] at h4
  rw [Nat.or_comm, ← h4, Nat.add_comm]
set_option maxRecDepth 100000 in
theorem bitsL_any (w : World) (B mb b nm : Nat) (V : Nat → Prop) (C : Pl → Option (List Int)) (h : MapsAt w B mb b nm V C) (fn q : Int) (hI : i64B fn ∧ i64B q) (hCl : ∀ x K, C x = some K → K.length ≤ 16) :
    Calls Tryz.prog 80 #[.pointer (some ⟨mb, 0, none⟩), .int .i64 fn, .int .i64 q, .func (.func 81) #[] #[]] w fun e w' => e = .returned (.int .u16 (bitsP isLocB ((C ⟨(fn, q), hI⟩).getD []) ((C ⟨(fn, q), hI⟩).getD []).length : Nat)) ∧ Below w.heap.size w w' := by
  have km := kindsM_any w B mb b nm V C h fn q hI (fun x K hx => Nat.le_trans (hCl x K hx) (by decide))
  have hkl : ((C ⟨(fn, q), hI⟩).getD []).length ≤ 16 := by
    cases hc : C ⟨(fn, q), hI⟩ with
    | none => exact Nat.zero_le _
    | some K => exact hCl _ K hc
  clear h hCl
  generalize (C ⟨(fn, q), hI⟩).getD [] = K at *
  have KM := Lib.hid km
  clear km
  go_enter Tryz.func80, Tryz.ntmps80
  go_wp2_with fail
  refine KM.out.mono ?_
  rintro e w1 ⟨v, rfl, ho, hb⟩
  obtain ⟨va, vc, rfl, hs⟩ := own_int ho
  have HS := Lib.hid hs
  have HB := Lib.hid hb
  clear hs hb ho
  go_upto_region 3 with fail
  go_loopw [9, 19] (fun o i wr => ∃ k : Nat, k ≤ K.length ∧ i = .int .i64 k ∧ o = .int .u16 (bitsP isLocB K k : Nat) ∧ Below w1.heap.size w1 wr) (fun _ i _ => K.length - (intOf i).toNat)
  case atStart => exact ⟨0, Nat.zero_le _, rfl, rfl, Below.refl _ _⟩
  case round =>
    obtain ⟨k, hk, rfl, rfl, hbr⟩ := hrel
    by_cases hlt : k < K.length
    case neg =>
      have hk' : k = K.length := by omega
      have HBE := Lib.hid (HB.out.trans (hbr.mono HB.out.size))
      have hkn : ¬ (k : Int) < (K.length : Int) := by omega
      obtain ⟨x, hx⟩ : ∃ x, x = bitsP isLocB K k := ⟨_, rfl⟩
      have HXX := Lib.hid (show x = bitsP isLocB K K.length from by rw [hx, hk'])
      rw [← hx]
      clear hx
      clear hk' hk hbr
      go_wp2_with fail
      go_ret
      exact ⟨(congrArg (fun n : Nat => Ending.returned (Value.int IntKind.u16 (n : Int))) HXX.out), HBE.out⟩
    have hkl2 : (k : Int) < (K.length : Int) := by omega
    obtain ⟨b, o, rfl, _, c1⟩ := HS.out k hlt
    replace c1 := below_cell hbr c1
    have hx := bitsP_lt isLocB K k
    have hor := or_bit hx (by omega)
    have hsucc : bitsP isLocB K (k + 1) = bitsP isLocB K k + if isLocB K[k] then 2 ^ k else 0 := by
      show bitsP isLocB K k + _ = _
      simp [hlt]
    have i1 : IntKind.i64.wrap ((k : Int) + 1) = (k : Int) + 1 := IntWalk.i64_in _ (by omega)
    generalize K[k] = y at *
    generalize bitsP isLocB K k = x at *
    have pt := placesX_any wr y
    have PT := Lib.hid pt
    have HSU := Lib.hid hsucc
    have HOR := Lib.hid hor
    have HLT := Lib.hid hlt
    have HBR := Lib.hid hbr
    clear pt hsucc hor hlt hbr hx
    go_wp2_with fail
    refine PT.out.mono ?_
    cases hB : isLocB y
    · rintro e w2 ⟨rfl, rfl⟩
      have HSB := Lib.hid (show bitsP isLocB K (k + 1) = x from by rw [HSU.out, hB]; simp)
      clear hB
      go_wp2_with fail
      go_roundw
      case rel => exact ⟨k + 1, HLT.out, by go_num, by rw [HSB.out], HBR.out⟩
      case measure => simp [intOf]; omega
    · rintro e w2 ⟨rfl, rfl⟩
      have HSB := Lib.hid (show bitsP isLocB K (k + 1) = x + 2 ^ k from by rw [HSU.out, hB]; simp)
      clear hB
      go_wp2_with fail
      go_roundw
      case rel => exact ⟨k + 1, HLT.out, by go_num, by rw [HSB.out, HOR.out], HBR.out⟩
      case measure => simp [intOf]; omega
set_option maxRecDepth 100000 in
theorem mplaces_any (w : World) (B mb b nm : Nat) (V : Nat → Prop) (C : Pl → Option (List Int)) (h : MapsAt w B mb b nm V C) (fn q : Int) (hI : i64B fn ∧ i64B q) (hCl : ∀ x K, C x = some K → K.length ≤ 16) :
    Calls Tryz.prog 49 #[.pointer (some ⟨mb, 0, none⟩), .int .i64 fn, .int .i64 q] w fun e w' => e = .returned (.int .u16 (bitsP isLocB ((C ⟨(fn, q), hI⟩).getD []) ((C ⟨(fn, q), hI⟩).getD []).length : Nat)) ∧ Below w.heap.size w w' := by
  have bt := bitsL_any w B mb b nm V C h fn q hI hCl
  clear h hCl
  generalize bitsP isLocB ((C ⟨(fn, q), hI⟩).getD []) ((C ⟨(fn, q), hI⟩).getD []).length = x at *
  have BT := Lib.hid bt
  clear bt
  go_enter Tryz.func49, Tryz.ntmps49
  go_wp2_with fail
  refine BT.out.mono ?_
  rintro e w1 ⟨rfl, hb⟩
  have HB := Lib.hid hb
  clear hb
  go_wp2_with fail
  go_ret
  exact ⟨rfl, HB.out⟩
end Go.Proofs.YthkhgihjigmkoaaGreat
