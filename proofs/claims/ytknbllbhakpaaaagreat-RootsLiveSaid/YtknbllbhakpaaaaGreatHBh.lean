/- Walks: frame.Object, frame.At. Keys that are places: the iterator over them. Walks: maps.Keys of a map whose keys are places. Walks: slices.Collect of places. Walks: slices.Collect of places; the order of two places. -/
import Derived.Test.YtknbllbhakpaaaaGreatHBg
import Derived.StillTailTactics
import Derived.Test.YtknbllbhakpaaaaGreatHAh
import Derived.Test.YtknbllbhakpaaaaGreatHAf
import Derived.Test.YtknbllbhakpaaaaGreatHAi
import Derived.Shelf.SlIterI.Collect
import Derived.Maps.Keyed
import Derived.DeepKeys4
import Derived.DeepKeys2
import Derived.Shelf.SlIterI.Stops
import Derived.RangeFuncNested
import Derived.RangeFuncOne
import Derived.RangeFuncBound
import Derived.RangeFuncCalls
import Derived.RangeFuncLeaves
import Derived.Shelf.Abstract
import Derived.Shelf.RegionOpen
import Derived.WalkKit
import Derived.OwnWalkIn
import Derived.TacticsInMore
import Derived.LoopNIn
import Derived.LoopIn
import Derived.Maps.AppendAt
set_option linter.unusedVariables false
set_option linter.unusedSimpArgs false
namespace Go.Proofs.YtknbllbhakpaaaaGreat.Tk
open Go.ChangeShapes Go.WideShapes Go.ChangeAt Go.RowKit Go.Maps
/-- a stack object's place and words; zeros of none -/
def objO (p : TPrg) (f : TFun) (k : Int) : Int × Int := if 0 ≤ k ∧ k < f.objects.length then ((atN p f k.toNat : Int), (fieldsN p (f.objects.getD k.toNat 0) : Int)) else (0, 0)
theorem atN_le {p : TPrg} (h : PSmall p) (f : TFun) (hf : f ∈ p.funcs) (k : Nat) (hk : k ≤ f.objects.length) : atN p f k ≤ 9100000 := by
  have h1 := objsN_le h (f.objects.take k)
  have h2 : (f.objects.take k).length ≤ 3000 := by have := (h.2.2.2 f hf).2.2; rw [List.length_take]; omega
  have h3 := (h.2.2.2 f hf).2.1
  unfold atN
  omega
set_option maxRecDepth 100000 in
theorem zero_span (w : World) : (zeroValue 215).run Tryz.prog w = .ok (.agg #[.int .i64 0, .int .i64 0]) w := by kernel_rfl
set_option maxRecDepth 100000 in
theorem object_any (w : World) (D : Nat → Prop) (hD : ∀ k, D k → k < w.heap.size) (p : TPrg) (c0 c1 c2 : Value) (j : Nat) (hj : j < p.funcs.length) (hv : PV w D p c0 c1 c2) (hp : PSmall p) (k : Int) (hk : i64B k) :
    Calls Tryz.prog 126 #[.agg #[c0, c1, c2], .int .i64 j, .int .i64 k] w fun e w' => e = .returned (.tuple #[.int .i64 (objO p p.funcs[j] k).1, .int .i64 (objO p p.funcs[j] k).2]) ∧ Below w.heap.size w w' := by
  have hv0 := hv
  obtain ⟨⟨a0, n0, m0, rfl⟩, ⟨a1, m1, rfl, hsh⟩, a2, m2, rfl, hfn⟩ := hv
  have hb0 := ((Below.refl w.heap.size w).alloc (Nat.le_refl _) (.cells #[.slice a0 n0 m0, .slice a1 p.shapes.length m1, .slice a2 p.funcs.length m2] 34))
  have hq := fun j => cell_new w #[.slice a0 n0 m0, .slice a1 p.shapes.length m1, .slice a2 p.funcs.length m2] 34 (0, 0) j
  obtain ⟨W, hW⟩ : ∃ W, W = (w.alloc (.cells #[.slice a0 n0 m0, .slice a1 p.shapes.length m1, .slice a2 p.funcs.length m2] 34)) := ⟨_, rfl⟩
  rw [← hW] at hb0 hq
  have k0 : W.cell? ⟨w.heap.size, 0, none⟩ = some (.slice a0 n0 m0) := hq 0
  have k1 : W.cell? ⟨w.heap.size, 1, none⟩ = some (.slice a1 p.shapes.length m1) := hq 1
  have k2 : W.cell? ⟨w.heap.size, 2, none⟩ = some (.slice a2 p.funcs.length m2) := hq 2
  have sp := spansM_any W D (fun k hk => Nat.lt_of_lt_of_le (hD k hk) hb0.size) p _ _ _ j hj (hv0.below hb0) hp
  have ht : Tryz.prog.underlying 211 = some (.map obK.k 215) := Tryz.underlying211
  have hjb : i64B (j : Int) := by unfold i64B; have := hp.2.1; omega
  have HW := Lib.hid hW
  clear hW hq hsh hfn hv0 hp
  generalize p.funcs[j] = f at *
  generalize wordsN p j = n at *
  obtain ⟨O, hO⟩ : ∃ O, O = objO p f k := ⟨_, rfl⟩
  rw [← hO]
  have SP := Lib.hid sp; clear sp
  have HB0 := Lib.hid hb0; clear hb0
  have HT := Lib.hid ht; clear ht
  have HJB := Lib.hid hjb; clear hjb
  have HKB := Lib.hid hk; clear hk
  go_enter Tryz.func126, Tryz.ntmps126
  go_upto_region 1 with fail
  rw [← HW.out]
  go_wp2_with fail
  refine SP.out.mono ?_
  rintro e w1 ⟨b, rfl, hm, hb1⟩
  have HB1 := Lib.hid (HB0.out.trans (hb1.mono HB0.out.size))
  clear hb1 k0 k1 k2
  have HM := Lib.hid hm; clear hm
  by_cases h : 0 ≤ k ∧ k < f.objects.length
  · have hf : spanF p f j ⟨((j : Int), k), HJB.out, HKB.out⟩ = some ((atN p f k.toNat : Int), (fieldsN p (f.objects.getD k.toNat 0) : Int)) := by
      unfold spanF spanK
      rw [if_pos ⟨rfl, h.1, h.2⟩]
    have ho : objO p f k = ((atN p f k.toNat : Int), (fieldsN p (f.objects.getD k.toNat 0) : Int)) := by unfold objO; rw [if_pos h]
    rw [ho] at hO
    have HF := Lib.hid hf
    clear hf ho h
    generalize (atN p f k.toNat : Int) = x at *
    generalize (fieldsN p (f.objects.getD k.toNat 0) : Int) = y at *
    subst hO
    go_wp2_with (refine look_some rfl (.tmp 17) (.tmp 20) 211 215 rfl HM.out HT.out (zero_span _) ⟨((j : Int), k), HJB.out, HKB.out⟩ trivial rfl rfl (x, y) HF.out ?_; (change wpList _ _ _ _ (Act.put _ _ (.agg #[.int .i64 x, .int .i64 y])) _))
    go_upto_region 3 with fail
    go_quiet (fail)
    go_wp2_with fail
    go_ret2
    exact ⟨rfl, below_drewN (HB1.out.alloc HB1.out.size _) _⟩
  · have hf : spanF p f j ⟨((j : Int), k), HJB.out, HKB.out⟩ = none := by
      unfold spanF spanK
      rw [if_neg (fun hh => h ⟨hh.2.1, hh.2.2⟩)]
    have ho : objO p f k = (0, 0) := by unfold objO; rw [if_neg h]
    rw [ho] at hO
    subst hO
    have HF := Lib.hid hf
    clear hf ho h
    go_wp2_with (refine look_none rfl (.tmp 17) (.tmp 20) 211 215 rfl HM.out HT.out (zero_span _) ⟨((j : Int), k), HJB.out, HKB.out⟩ trivial rfl rfl  HF.out ?_; skip)
    go_upto_region 3 with fail
    go_quiet (fail)
    go_wp2_with fail
    go_ret2
    exact ⟨rfl, below_drewN (HB1.out.alloc HB1.out.size _) _⟩
end Go.Proofs.YtknbllbhakpaaaaGreat.Tk
namespace Go.Proofs.YtknbllbhakpaaaaGreat
open Go.ChangeShapes Go.WideShapes Go.ChangeAt Go.RowKit Go.Maps Go.Sort Go.Shelf
set_option maxRecDepth 100000 in
theorem obrow : (217 : TypeId) < Tryz.prog.types.size := of_decide_eq_true (by kernel_rfl)
set_option maxRecDepth 100000 in
theorem obwide : (match Tryz.prog.underlying 217 with | some (.array _ _) | some (.struct _) => true | _ => false) = true := by kernel_rfl
set_option maxRecDepth 100000 in
theorem obkeyed : Keyed Tryz.prog 217 := Keyed.of_law (deep_law_laid plaidOut (m := 2) (by omega) obrow (by kernel_rfl) obwide)
set_option maxRecDepth 100000 in
theorem obkey (a b : Int) (ha : i64B a) (hb : i64B b) : ∃ l, keyOf Tryz.prog 217 (.agg #[.int .i64 a, .int .i64 b]) = some l := by
  have hc : Tryz.prog.cellsOf 217 = 2 := by kernel_rfl
  have hk : Tryz.prog.keyType 217 = true := by kernel_rfl
  have hf : (Value.agg #[.int .i64 a, .int .i64 b]).formed Tryz.prog 217 = true := by simp [Value.formed, Tryz.underlying217, hc]
  have h1 : ∀ d x, i64B x → Tryz.prog.keyLits (d + 1) 3 [.int .i64 x] = some [.int .i64 x] := fun d x hx => by
    unfold Program.keyLits
    simp [Tryz.underlying3, i64_wf hx]
  have hci : Tryz.prog.cellsOf 3 = 1 := by kernel_rfl
  have h2 : ∀ d, Tryz.prog.keyLits (d + 2) 217 [.int .i64 a, .int .i64 b] = some [.int .i64 a, .int .i64 b] := fun d => by
    unfold Program.keyLits
    simp [Tryz.underlying217, hc, hci, h1 d a ha, h1 d b hb]
  obtain ⟨n, hn⟩ : ∃ n, Tryz.prog.types.size + 1 = n + 2 := ⟨Tryz.prog.types.size - 1, by have : 0 < Tryz.prog.types.size := Nat.lt_of_le_of_lt (Nat.zero_le _) obrow; omega⟩
  unfold keyOf
  rw [Tryz.underlying217]
  simp only [hk, hf, Bool.and_self, if_true]
  refine ⟨.string (keyBytes [.int .i64 a, .int .i64 b]), ?_⟩
  rw [hn]
  show Option.map (fun ls => Lit.string (keyBytes ls)) (Tryz.prog.keyLits (n + 2) 217 [.int .i64 a, .int .i64 b]) = _
  rw [h2]
  rfl
noncomputable def obK : KeyTy Tryz.prog { x : Int × Int // i64B x.1 ∧ i64B x.2 } where
  k := 217
  law := obkeyed
  key := fun x => .agg #[.int .i64 x.1.1, .int .i64 x.1.2]
  lit := fun x => (keyOf Tryz.prog 217 (.agg #[.int .i64 x.1.1, .int .i64 x.1.2])).getD (.bool true)
  wf := fun _ => True
  hkey := fun x _ => by
    obtain ⟨l, h⟩ := obkey x.1.1 x.1.2 x.2.1 x.2.2
    rw [h]; rfl
  inj := fun x y h => by
    obtain ⟨l, h1⟩ := obkey x.1.1 x.1.2 x.2.1 x.2.2
    obtain ⟨m, h2⟩ := obkey y.1.1 y.1.2 y.2.1 y.2.2
    rw [h1, h2] at h
    have e : l = m := h
    subst e
    have h3 := obkeyed.inj h1 h2
    obtain ⟨⟨x1, x2⟩, _⟩ := x
    obtain ⟨⟨y1, y2⟩, _⟩ := y
    simp at h3
    obtain ⟨rfl, rfl⟩ := h3
    rfl
set_option maxRecDepth 100000 in
theorem rprow : (109 : TypeId) < Tryz.prog.types.size := of_decide_eq_true (by kernel_rfl)
set_option maxRecDepth 100000 in
theorem rpwide : (match Tryz.prog.underlying 109 with | some (.array _ _) | some (.struct _) => true | _ => false) = true := by kernel_rfl
set_option maxRecDepth 100000 in
theorem rpkeyed : Keyed Tryz.prog 109 := Keyed.of_law (deep_law_laid plaidOut (m := 2) (by omega) rprow (by kernel_rfl) rpwide)
set_option maxRecDepth 100000 in
theorem rpkey (a b : Int) (ha : i64B a) (hb : i64B b) : ∃ l, keyOf Tryz.prog 109 (.agg #[.int .i64 a, .int .i64 b]) = some l := by
  have hc : Tryz.prog.cellsOf 109 = 2 := by kernel_rfl
  have hk : Tryz.prog.keyType 109 = true := by kernel_rfl
  have hf : (Value.agg #[.int .i64 a, .int .i64 b]).formed Tryz.prog 109 = true := by simp [Value.formed, Tryz.underlying109, hc]
  have h1 : ∀ d x, i64B x → Tryz.prog.keyLits (d + 1) 3 [.int .i64 x] = some [.int .i64 x] := fun d x hx => by
    unfold Program.keyLits
    simp [Tryz.underlying3, i64_wf hx]
  have hci : Tryz.prog.cellsOf 3 = 1 := by kernel_rfl
  have h2 : ∀ d, Tryz.prog.keyLits (d + 2) 109 [.int .i64 a, .int .i64 b] = some [.int .i64 a, .int .i64 b] := fun d => by
    unfold Program.keyLits
    simp [Tryz.underlying109, hc, hci, h1 d a ha, h1 d b hb]
  obtain ⟨n, hn⟩ : ∃ n, Tryz.prog.types.size + 1 = n + 2 := ⟨Tryz.prog.types.size - 1, by have : 0 < Tryz.prog.types.size := Nat.lt_of_le_of_lt (Nat.zero_le _) rprow; omega⟩
  unfold keyOf
  rw [Tryz.underlying109]
  simp only [hk, hf, Bool.and_self, if_true]
  refine ⟨.string (keyBytes [.int .i64 a, .int .i64 b]), ?_⟩
  rw [hn]
  show Option.map (fun ls => Lit.string (keyBytes ls)) (Tryz.prog.keyLits (n + 2) 109 [.int .i64 a, .int .i64 b]) = _
  rw [h2]
  rfl
noncomputable def rpK : KeyTy Tryz.prog { x : Int × Int // i64B x.1 ∧ i64B x.2 } where
  k := 109
  law := rpkeyed
  key := fun x => .agg #[.int .i64 x.1.1, .int .i64 x.1.2]
  lit := fun x => (keyOf Tryz.prog 109 (.agg #[.int .i64 x.1.1, .int .i64 x.1.2])).getD (.bool true)
  wf := fun _ => True
  hkey := fun x _ => by
    obtain ⟨l, h⟩ := rpkey x.1.1 x.1.2 x.2.1 x.2.2
    rw [h]; rfl
  inj := fun x y h => by
    obtain ⟨l, h1⟩ := rpkey x.1.1 x.1.2 x.2.1 x.2.2
    obtain ⟨m, h2⟩ := rpkey y.1.1 y.1.2 y.2.1 y.2.2
    rw [h1, h2] at h
    have e : l = m := h
    subst e
    have h3 := rpkeyed.inj h1 h2
    obtain ⟨⟨x1, x2⟩, _⟩ := x
    obtain ⟨⟨y1, y2⟩, _⟩ := y
    simp at h3
    obtain ⟨rfl, rfl⟩ := h3
    rfl
abbrev RPl := { x : Int × Int // i64B x.1 ∧ i64B x.2 }
def encR (x : RPl) : Value := .agg #[.int .i64 x.1.1, .int .i64 x.1.2]
set_option maxRecDepth 100000 in
theorem one_inv {d : Nat} {a : Value} {l : List Lit} (h : Tryz.prog.keyLits (d + 1) 3 [a] = some l) : ∃ x : Int, a = .int .i64 x ∧ i64B x ∧ l = [.int .i64 x] := by
  unfold Program.keyLits at h
  rw [Tryz.underlying3] at h
  cases a <;> simp at h
  obtain ⟨⟨rfl, hw⟩, rfl⟩ := h
  refine ⟨_, rfl, ?_, rfl⟩
  simp [Lit.wf, IntKind.min, IntKind.max, IntKind.signed, IntKind.bits] at hw
  unfold i64B
  omega
set_option maxRecDepth 100000 in
theorem rp_inv {key : Value} {kl : Lit} (h : keyOf Tryz.prog 109 key = some kl) : ∃ x : RPl, key = encR x ∧ kl = rpK.lit x := by
  have h0 := h
  have hc : Tryz.prog.cellsOf 109 = 2 := by kernel_rfl
  have hci : Tryz.prog.cellsOf 3 = 1 := by kernel_rfl
  unfold keyOf at h
  rw [Tryz.underlying109] at h
  simp only at h
  split at h
  · next hf =>
    rw [Bool.and_eq_true] at hf
    have hf := hf.2
    cases key with
    | agg cs =>
      have hs : cs.size = 2 := by simpa [Value.formed, Tryz.underlying109, hc] using hf
      obtain ⟨a, b, rfl⟩ : ∃ a b, cs = #[a, b] := by
        rcases cs with ⟨l⟩
        simp at hs
        match l, hs with
        | [a, b], _ => exact ⟨a, b, rfl⟩
      obtain ⟨n, hn⟩ : ∃ n, Tryz.prog.types.size + 1 = n + 2 := ⟨Tryz.prog.types.size - 1, by have : 0 < Tryz.prog.types.size := Nat.lt_of_le_of_lt (Nat.zero_le _) rprow; omega⟩
      rw [hn] at h
      obtain ⟨ls, hls, hkl⟩ := Option.map_eq_some_iff.1 h
      have hls2 : Tryz.prog.keyLits (n + 2) 109 [a, b] = some ls := hls
      unfold Program.keyLits at hls2
      simp [Tryz.underlying109, hc, hci] at hls2
      cases h1 : Tryz.prog.keyLits (n + 1) 3 [a] with
      | none => rw [h1] at hls2; simp at hls2
      | some l1 =>
        cases h2 : Tryz.prog.keyLits (n + 1) 3 [b] with
        | none => rw [h1, h2] at hls2; simp at hls2
        | some l2 =>
          obtain ⟨x, rfl, hx, _⟩ := one_inv h1
          obtain ⟨y, rfl, hy, _⟩ := one_inv h2
          refine ⟨⟨(x, y), hx, hy⟩, rfl, ?_⟩
          show kl = (keyOf Tryz.prog 109 (.agg #[.int .i64 x, .int .i64 y])).getD (.bool true)
          rw [h0]
          rfl
    | _ => simp [Value.formed, Tryz.underlying109] at hf
  · cases h
def CollR {H : Type} (D0 : DataW H) (left : Lit → Bool) (ss : List RPl) : Prop := ss.Nodup ∧ ∀ x, x ∈ ss ↔ (has D0 (rpK.lit x) = true ∧ left (rpK.lit x) = false)
theorem CollR.start {H : Type} (D0 : DataW H) : CollR D0 (has D0) [] := ⟨List.nodup_nil, fun x => by cases has D0 (rpK.lit x) <;> simp⟩
set_option maxRecDepth 100000 in
theorem CollR.step {H : Type} {D0 : DataW H} {left : Lit → Bool} {ss : List RPl} (h : CollR D0 left ss) {x : RPl} {y : DataW H} (hlk : left (rpK.lit x) = true) (hat : ∀ zd, D0.atKey (rpK.lit x) zd = y) : CollR D0 (fun z => left z && !z.sameKey (rpK.lit x)) (ss ++ [x]) := by
  have hhas : has D0 (rpK.lit x) = true := has_true_of_atKey hat
  have hnew : x ∉ ss := fun hx => by have := ((h.2 x).1 hx).2; rw [hlk] at this; cases this
  refine ⟨List.nodup_append.2 ⟨h.1, by simp, fun a ha b hb => by simp at hb; subst hb; exact fun e => hnew (e ▸ ha)⟩, fun y => ?_⟩
  show y ∈ ss ++ [x] ↔ has D0 (rpK.lit y) = true ∧ (left (rpK.lit y) && !(rpK.lit y).sameKey (rpK.lit x)) = false
  by_cases hy : y = x
  · subst hy
    rw [WideAt.sameKey_self (isKey rpK (a := y) trivial)]
    simp [hhas]
  · rw [sameKey_ne (fun e => hy (rpK.inj y x e))]
    simp [h.2 y, hy]
end Go.Proofs.YtknbllbhakpaaaaGreat
namespace Go.Proofs.YtknbllbhakpaaaaGreat
open Go.ChangeShapes Go.WideShapes Go.ChangeAt Go.RowKit Go.Maps Go.Sort Go.Shelf
def boxR (x : RPl) : Obj := .cells #[.int .i64 x.1.1, .int .i64 x.1.2] 109
set_option maxRecDepth 100000 in
set_option maxHeartbeats 1000000 in
theorem keysR1S_in {H : Type} (n : Nat) (hn : 1 ≤ n) (l Bm b nn : Nat) (D0 : DataW H) {R : Value → Option (DataW H × List MemPlace)} (J Jx : List RPl → World → Prop)
    (hY : ∀ pre x W, J pre W → pre.length < Maps.size D0 → YieldAt Fence.wide (n - 1) Tryz.prog l #[encR x] W fun e W' => (e = .returned (.bool true) ∧ J (pre ++ [x]) W' ∧ KeepsWalks W W') ∨ (e = .returned (.bool false) ∧ Jx (pre ++ [x]) W'))
    (W : World) (hJ : AbidesFrom W.heap.size J) (hm : W.cell? ⟨Bm, 0, none⟩ = some (.map (some b))) (hown : W.ownsMap Tryz.prog 109 R b nn D0) (h0 : J [] W) :
    CallsIn Fence.wide n Tryz.prog 131 #[.func (.yield l) #[] #[], .pointer (some ⟨Bm, 0, none⟩)] W fun e W' => (∃ v, e = .returned v) ∧ ((∃ ss : List RPl, ((ss.Nodup ∧ ∀ x, x ∈ ss ↔ has D0 (rpK.lit x) = true) ∧ ss.length ≤ Maps.size D0) ∧ J ss W') ∨ (∃ pre : List RPl, True ∧ Jx pre W')) := by
  have hro : Fence.wide.round = none := rfl
  have hu : Tryz.prog.underlying 154 = some (.map 109 3) := Tryz.underlying154
  refine callsIn_of_wp Tryz.func131 rfl trivial ?_ hro
  simp only [Tryz.ntmps131, List.size_toArray, List.length_cons, List.length_nil, Nat.reduceAdd, Nat.reduceSub, Array.replicate_succ, Array.replicate_zero, List.push_toArray, List.append_toArray, List.nil_append, List.cons_append]
  gi_wp2_with (first
    | (gi_at_range; refine wpListIn_range_own _ rfl _ 154 rfl 109 3 rpkeyed hu _ b nn _ rfl hown ?_; intro w0 hrg0 hg0 hs0)
    | gi_in)
  go_frame
  gi_loopw [3] (fun _ wr => ∃ (left : Lit → Bool) (cnt : Nat) (ss : List RPl), wr.ranges Tryz.prog 109 R b W.heap.size nn D0 left cnt ∧ ss.length + cnt ≤ Maps.size D0 ∧ CollR D0 left ss ∧ W.heap.size ≤ wr.heap.size ∧ J ss wr)
    (fun _ wr => wr.rangeLeft b W.heap.size)
  case atStart =>
    exact ⟨_, _, [], hrg0, by simp, CollR.start D0, hg0.size, hJ [] W w0 none h0 hg0 (fun r e => by cases e)⟩
  case round =>
    obtain ⟨left, cnt, ss, hrg, hcs, hC, hsz, hJs⟩ := hrel
    gi_wp2_with (first
      | (gi_at_next; refine wpListIn_next_ranges _ rfl _ rfl 109 rpkeyed R encR id (fun key kl hk => by obtain ⟨x, hx, _⟩ := rp_inv hk; exact ⟨x, hx⟩) (fun v _ _ => ⟨v, rfl⟩) b W.heap.size nn _ _ _ rfl hrg ?_ ?_)
      | gi_in)
    · intro hc0 hl0
      gi_wp2
      go_end0
      exact ⟨⟨_, rfl⟩, .inl ⟨ss, ⟨⟨hC.1, fun x => by rw [hC.2 x, hl0]; simp⟩, by omega⟩, hJs⟩⟩
    · intro x1 x2 hx c kl yd yp w2 cnt2 hkey hlk hv hat hrg2 hlt hg2 hs2 hen
      obtain ⟨x, hxe⟩ : ∃ x : RPl, x = ⟨(x1, x2), hx⟩ := ⟨_, rfl⟩
      rw [← hxe] at hkey hen
      obtain ⟨x', ex, rfl⟩ := rp_inv hkey
      obtain rfl : x = x' := by
        obtain ⟨⟨x1, x2⟩, hx⟩ := x
        obtain ⟨⟨y1, y2⟩, hy⟩ := x'
        unfold encR at ex
        simp at ex
        obtain ⟨rfl, rfl⟩ := ex
        rfl
      have hJ2 : J ss w2 := hJ ss wr w2 (some W.heap.size) hJs hg2 (fun r e => by cases e; exact ⟨Nat.le_refl _, hrg.iter_walk⟩)
      have hgx : w2.grownBy (w2.alloc (boxR x)) none := World.grownBy_alloc _ _ _
      have hJ3 : J ss (w2.alloc (boxR x)) := hJ ss w2 _ none hJ2 hgx (fun r e => by cases e)
      obtain ⟨fn, tmps, assign, body, hy, hR⟩ := hY ss x _ hJ3 (by omega)
      have hrg3 : (w2.alloc (boxR x)).ranges Tryz.prog 109 R b W.heap.size nn D0 (fun z => left z && !z.sameKey (rpK.lit x)) cnt2 := hrg2.of_walks (KeepsWalks.alloc _ _)
      have hle3 : (w2.alloc (boxR x)).rangeLeft b W.heap.size = w2.rangeLeft b W.heap.size := by rw [hrg3.left_eq, hrg2.left_eq]
      have hC2 := hC.step hlk hat
      have hsz3 : W.heap.size ≤ (w2.alloc (boxR x)).heap.size := by have := hg2.size; have := hgx.size; omega
      clear hs2
      obtain ⟨W2, hW2⟩ : ∃ W2, W2 = w2.alloc (boxR x) := ⟨_, rfl⟩
      rw [← hW2] at hJ3 hrg3 hle3 hsz3 hy hR
      subst hxe
      unfold boxR at hW2
      unfold encR at hy hen
      rw [hW2] at hy
      gi_wp2
      rw [← hW2]
      refine hR.mono ?_
      rintro e W3 (⟨rfl, hJ4, hk3⟩ | ⟨rfl, hJx4⟩)
      · gi_wp2
        have hrg4 := hrg3.of_walks hk3
        go_roundw
        case rel => exact ⟨_, cnt2, ss ++ [_], hrg4, by simp; omega, hC2, Nat.le_trans hsz3 hk3.size, hJ4⟩
        case measure => rw [hrg4.left_eq, hrg.left_eq]; exact hlt
      · gi_wp2
        refine bodyPost_ret (results_none rfl _ _ _) rfl ?_
        exact ⟨⟨_, rfl⟩, .inr ⟨_, trivial, hJx4⟩⟩
theorem keysR_stops {H : Type} (n : Nat) (hn : 1 ≤ n) (Bm b nn : Nat) (D0 : DataW H) {R : Value → Option (DataW H × List MemPlace)} (w : World) (hBm : Bm < w.heap.size)
    (hm : w.cell? ⟨Bm, 0, none⟩ = some (.map (some b))) (hown : w.ownsMap Tryz.prog 109 R b nn D0) :
    SeqStops Fence.wide n Tryz.prog 131 #[.pointer (some ⟨Bm, 0, none⟩)] encR (fun ss => (ss.Nodup ∧ ∀ x, x ∈ ss ↔ has D0 (rpK.lit x) = true) ∧ ss.length ≤ Maps.size D0) (fun _ => True) (Maps.size D0) w := fun l J Jx W hW hJ _ hY h0 => by
  have hown' : W.ownsMap Tryz.prog 109 R b nn D0 := by
    have hbl := hown.lt
    obtain ⟨es, clock, hb, Ft, hs, hD⟩ := hown
    exact ⟨es, clock, (hW.block b hbl).trans hb, Ft, hs, hD⟩
  exact keysR1S_in n hn l Bm b nn D0 J Jx hY W hJ ((hW.cell (p := ⟨Bm, 0, none⟩) hBm).trans hm) hown' h0
theorem keysR_any (mb : Option Nat) (w : World) (n : Nat) :
    CallsIn Fence.wide n Tryz.prog 91 #[.map mb] w fun e w' => e = .returned (.func (.func 131) #[] #[.pointer (some ⟨w.heap.size, 0, none⟩)]) ∧ w' = w.alloc (.cells #[.map mb] 154) := by
  refine callsIn_of_wp Tryz.func91 rfl trivial ?_ rfl
  simp only [Tryz.ntmps91, List.size_toArray, List.length_cons, List.length_nil, Nat.reduceAdd, Nat.reduceSub, Array.replicate_succ, Array.replicate_zero, List.push_toArray, List.append_toArray, List.nil_append, List.cons_append]
  gi_wp2
  go_ret
  exact ⟨rfl, rfl⟩
end Go.Proofs.YtknbllbhakpaaaaGreat
namespace Go.Proofs.YtknbllbhakpaaaaGreat
open Go.ChangeShapes Go.WideShapes Go.ChangeAt Go.RowKit Go.Maps Go.Sort Go.Shelf
def cellsR (x : RPl) : List Value := [.int .i64 x.1.1, .int .i64 x.1.2]
set_option maxRecDepth 100000 in
theorem infoR : (Tryz.prog.info? 109).map (fun i => (i.zero, i.size, i.bytes)) = some (some (.agg #[.int .i64 0, .int .i64 0]), 2, 16) := by kernel_rfl
theorem cells_two_new (w : World) (x : RPl) : ∀ j u, (cellsR x)[j]? = some u → (w.alloc (boxR x)).cell? ((⟨w.heap.size, 0, none⟩ : Addr).add j) = some u := by
  intro j u hj
  have h := heap_new w (boxR x)
  unfold boxR at h ⊢
  match j, hj with
  | 0, hj => simp [cellsR] at hj; subst hj; exact (row_cell h 0).1
  | 1, hj => simp [cellsR] at hj; subst hj; exact (row_cell h 1).1
  | j + 2, hj => simp [cellsR] at hj
set_option maxRecDepth 100000 in
set_option maxHeartbeats 4000000 in
theorem appendR_in (n : Nat) (hn : 2 ≤ n) (g : Nat) (lb : Array Value) (eg : ∀ args w, (callFunc g args).run Tryz.prog w = .ok (.enter g args) w)
    (S : List RPl → Prop) (N : Nat) (hN : N ≤ 1000000) (w : World) (hseq : SeqStops Fence.wide (n - 1) Tryz.prog g lb encR S (fun _ => True) N w) :
    CallsIn Fence.wide n Tryz.prog 152 #[.slice none 0 0, .func (.func g) #[] lb] w fun e w' => ∃ (v : Value) (ss : List RPl), e = .returned v ∧ S ss ∧ w'.ownsRow w.heap.size 109 2 v ss.length (ss.flatMap cellsR) ∧ (v = .slice none 0 0 ↔ ss = []) ∧ Below w.heap.size w w' := by
  have h1 : 1 ≤ n := by omega
  have hu : Tryz.prog.underlying 106 = some (.slice 109) := Tryz.underlying106
  obtain ⟨i0, hi, hz0, hz1, hz2⟩ := info_parts infoR
  refine callsIn_of_wp_marks Tryz.func152 rfl trivial ?_ rfl
  simp only [Tryz.ntmps152, List.size_toArray, List.length_cons, List.length_nil, Nat.reduceAdd, Nat.reduceSub, Array.replicate_succ, Array.replicate_zero, List.push_toArray, List.append_toArray, List.nil_append, List.cons_append]
  gi_wp2
  have bS := Boxed.new w 106 (.slice none 0 0)
  have hB0 : Below w.heap.size w (w.alloc (.cells #[.slice none 0 0] 106)) := (Below.refl _ w).alloc (Nat.le_refl _) _
  have hsz : (w.alloc (.cells #[.slice none 0 0] 106)).heap.size = w.heap.size + 1 := by simp
  obtain ⟨W0, hW0⟩ : ∃ W0, w.alloc (.cells #[.slice none 0 0] 106) = W0 := ⟨_, rfl⟩
  rw [hW0] at bS hB0 hsz ⊢
  clear hW0
  refine wpIn_rangeFunc_ownH rfl h1 (gf := g) (lb := lb) rfl trivial eg (encs := fun x : RPl => #[encR x]) (S := S) (Sp := fun _ => True) (N := N) (Kp := KeepsWalks) (w0 := w) hseq walksK_t walksK_b hB0 (fun _ => rfl)
    (fun pre W => (∃ v, Boxed W w.heap.size 106 v ∧ W.ownsRow w.heap.size 109 2 v pre.length (pre.flatMap cellsR) ∧ (v = .slice none 0 0 ↔ pre = [])) ∧ Below w.heap.size w W)
    (fun _ _ _ => False)
    (OwnFrom.and (Own.from (holdsRow_own w.heap.size w.heap.size 106 109 2 (fun pre : List RPl => pre.length) (fun pre => pre.flatMap cellsR) (fun pre v => (v = .slice none 0 0 ↔ pre = []))) _) (ownFrom_below (Nat.le_refl _) (by omega)))
    (fun _ _ _ _ _ hs _ _ => hs)
    ⟨⟨_, bS, World.ownsRow_nil _ _ _ _, by simp⟩, hB0⟩
    (fun x a' W => ∃ Bx, w.heap.size < Bx ∧ W.heap[Bx]? = some (boxR x) ∧ a' = { tmps := #[.slice none 0 0, .func (.func g) #[] lb, .pointer (some ⟨w.heap.size, 0, none⟩), undef, .slice none 0 0, .pointer (some ⟨Bx, 0, none⟩), .func (.func g) #[] lb, encR x, undef, undef, undef, undef, undef], defers := [] })
    (fun x a' _ X Y row hs hg hr => by
      obtain ⟨Bx, hb1, hb2, hb3⟩ := hs
      refine ⟨Bx, hb1, (hg.block Bx (Array.getElem?_eq_some_iff.1 hb2).1 (fun e => ?_)).trans hb2, hb3⟩
      obtain ⟨_, o, ho, hc⟩ := hr Bx e.symm
      rw [hb2] at ho
      cases ho
      cases hc)
    ?assign ?body ?done ?stop
  case assign =>
    rintro l pre x W K ⟨⟨v, bv, hrow, hnil⟩, hB1⟩ hK
    have hle := bv.lt
    have hI := (⟨⟨v, bv.alloc (boxR x), hrow.alloc (boxR x), hnil⟩, hB1.alloc hB1.size (boxR x)⟩ : (∃ v, Boxed (W.alloc (boxR x)) w.heap.size 106 v ∧ (W.alloc (boxR x)).ownsRow w.heap.size 109 2 v pre.length (pre.flatMap cellsR) ∧ (v = .slice none 0 0 ↔ pre = [])) ∧ Below w.heap.size w (W.alloc (boxR x)))
    have hax := heap_new W (boxR x)
    have hk1 := (KeepsOthers.alloc W (boxR x)).from W0.heap.size
    have hk2 := KeepsWalks.alloc W (boxR x)
    unfold encR
    gi_wp2_with gi_round_op_a
    exact hK _ _ hk1 hk2 hI ⟨W.heap.size, hle, hax, rfl⟩
  case body =>
    rintro l pre x a' W hl ⟨r, hr⟩ ⟨⟨v, hv, hrow, hnil⟩, hB⟩ ⟨Bx, hBx, hbx, rfl⟩ hlt
    have hc0 := hv.cell
    have hf0 := hv.frozen
    have hx0 : W.cell? ⟨Bx, 0, none⟩ = some (.int .i64 x.1.1) := (row_cell hbx 0).1
    have hx1 : W.cell? ⟨Bx, 1, none⟩ = some (.int .i64 x.1.2) := (row_cell hbx 1).1
    have hnw := cells_two_new W x
    have hra := hrow.alloc (boxR x)
    unfold boxR at hnw hra
    gi_wp2_with (first
      | (gi_at_builtin; refine wpListIn_append_own _ rfl _ _ 106 rfl w.heap.size 109 i0 (.agg #[.int .i64 0, .int .i64 0]) 2 16 hu hi hz0 hz1 hz2 rfl (by decide) _ _ _ rfl hra ⟨W.heap.size, 0, none⟩ 1 1 (cellsR x) rfl rfl hnw (by simp [cellsR, Value.oneCell']) (by unfold maxLen; omega) (by omega) (by have := hB.size; simp; omega) ?_; intro v' w1 hown' hgrow _; obtain ⟨g', cap', rfl⟩ := ownsRow_succ hown'; obtain ⟨hv1, hv2, hr2, hk2, hb2⟩ := hv.appended (by decide) hrow hB.size (Nat.le_refl _) hown' hgrow; have hc1 := hv1.cell; have hf1 := hv1.frozen)
      | gi_round_op_a)
    refine ⟨hk2.from _, hk2.walks, ⟨_, hv2, ?_, by simp⟩, hB.trans hb2⟩
    rw [List.length_append, List.flatMap_append]
    simpa using hr2
  case done =>
    rintro D ys W hD hS ⟨⟨v, hv, hrow, hnil⟩, hB⟩ hK
    have hc := hv.cell
    gi_wp2
    refine ⟨by simp, .inl ⟨_, _, rfl, run_takeDeferred hK, ?_⟩⟩
    exact ⟨_, results_tmp rfl _ _ _, v, ys, rfl, hS, ownsRow_putObj hrow _ hK rfl, hnil, hB.trans (belowK_b (w := w) (Nat.le_refl _) W D _ _ (by omega) hK rfl rfl)⟩
  case stop =>
    rintro D c pre W _ _ h _
    exact h.elim
end Go.Proofs.YtknbllbhakpaaaaGreat
namespace Go.Proofs.YtknbllbhakpaaaaGreat
open Go.ChangeShapes Go.WideShapes Go.ChangeAt Go.RowKit Go.Maps Go.Sort Go.Shelf
set_option maxRecDepth 100000 in
set_option maxHeartbeats 1000000 in
theorem collectR_in (n : Nat) (hn : 3 ≤ n) (g : Nat) (lb : Array Value) (eg : ∀ args w, (callFunc g args).run Tryz.prog w = .ok (.enter g args) w)
    (S : List RPl → Prop) (N : Nat) (hN : N ≤ 1000000) (w : World) (hseq : SeqStops Fence.wide (n - 1 - 1) Tryz.prog g lb encR S (fun _ => True) N w) :
    CallsIn Fence.wide n Tryz.prog 129 #[.func (.func g) #[] lb] w fun e w' => ∃ (v : Value) (ss : List RPl), e = .returned v ∧ S ss ∧ w'.ownsRow w.heap.size 109 2 v ss.length (ss.flatMap cellsR) ∧ (v = .slice none 0 0 ↔ ss = []) ∧ Below w.heap.size w w' := by
  have ha := appendR_in (n - 1) (by omega) g lb eg S N hN w hseq
  have hf : Fence.wide.fn 152 := trivial
  have h1 : 1 ≤ n := by omega
  refine callsIn_of_wp Tryz.func129 rfl trivial ?_ rfl
  simp only [Tryz.ntmps129, List.size_toArray, List.length_cons, List.length_nil, Nat.reduceAdd, Nat.reduceSub, Array.replicate_succ, Array.replicate_zero, List.push_toArray, List.append_toArray, List.nil_append, List.cons_append]
  gi_wp2_with (gi_at_call 152; refine ha.mono ?_; rintro e w' ⟨v, ss, rfl, hS, hrow, hnil, hb⟩)
  go_ret
  exact ⟨v, ss, rfl, hS, hrow, hnil, hb⟩
/-- places that are numbers -/
abbrev NPl := { x : Nat × Nat // x.1 ≤ 1000000 ∧ x.2 ≤ 1000000 }
instance : Inhabited NPl := ⟨⟨(0, 0), by decide⟩⟩
def cfR (x y : NPl) : Int := if x.1.1 = y.1.1 then (x.1.2 : Int) - y.1.2 else (x.1.1 : Int) - y.1.1
def cellsN (x : NPl) : List Value := [.int .i64 (x.1.1 : Nat), .int .i64 (x.1.2 : Nat)]
set_option maxRecDepth 100000 in
theorem order_any (x y : NPl) (W : World) : Calls Tryz.prog 92 #[.agg #[.int .i64 (x.1.1 : Nat), .int .i64 (x.1.2 : Nat)], .agg #[.int .i64 (y.1.1 : Nat), .int .i64 (y.1.2 : Nat)]] W fun e w' => e = .returned (.int .i64 (cfR x y)) ∧ ∃ q os', w' = grow (W.drewN q) os' := by
  obtain ⟨⟨a, b⟩, ha, hb⟩ := x
  obtain ⟨⟨c, d⟩, hc, hd⟩ := y
  simp only at ha hb hc hd
  unfold cfR
  simp only
  have i1 : IntKind.i64.wrap ((a : Int) - c) = (a : Int) - c := IntWalk.i64_in _ (by omega)
  have i2 : IntKind.i64.wrap ((b : Int) - d) = (b : Int) - d := IntWalk.i64_in _ (by omega)
  by_cases h : a = c
  · have hn : ((a : Int) != (c : Int)) = false := by rw [bne_eq_false_iff_eq]; omega
    rw [if_pos h]
    go_enter Tryz.func92, Tryz.ntmps92
    go_wp2_with fail
    go_ret
    exact ⟨rfl, 0, _, by rw [alloc_eq_grow, alloc_eq_grow, grow_grow]; rfl⟩
  · have hn : ((a : Int) != (c : Int)) = true := by rw [bne_iff_ne]; omega
    rw [if_neg h]
    go_enter Tryz.func92, Tryz.ntmps92
    go_wp2_with fail
    go_ret
    exact ⟨rfl, 0, _, by rw [alloc_eq_grow, alloc_eq_grow, grow_grow]; rfl⟩
end Go.Proofs.YtknbllbhakpaaaaGreat
