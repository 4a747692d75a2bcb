/- Maps by their keys: a function from keys to what stands there. Nothing of the program stands here. Walks: check.within, shape.kinds, shape.Field, shape.Valid, the reference's Field, Valid, IsLoc. The library's contracts on sorted keys of a map of numbers, at this program. Nothing of the program's text stands here. -/
import Derived.Test.YtknbllbhakpaaaaGreatHAb
import Derived.Maps.OwnSet
import Derived.Test.YtknbllbhakpaaaaGreatHAf
import Derived.Test.YtknbllbhakpaaaaGreatHAc
import Derived.Maps.Keyed
import Derived.Shelf.SlIterI.Nil
import Derived.Shelf.SortM.Plain
import Derived.Shelf.SortM.SortNone
import Derived.Ground.GgzProg
import Derived.Ground.SlgmProg
import Derived.Test.YtknbllbhakpaaaaGreatProg
set_option linter.unusedVariables false
set_option linter.unusedSimpArgs false
namespace Go.Proofs.YtknbllbhakpaaaaGreat
open Go.RowKit Go.Maps
def tokR (v : Value) : Option (DataW Value × List MemPlace) := some (.held v, [])
/-- a key's type -/
structure KeyTy (P : Program) (κ : Type) where
  k : TypeId
  law : Keyed P k
  key : κ → Value
  lit : κ → Lit
  wf : κ → Prop
  hkey : ∀ a, wf a → keyOf P k (key a) = some (lit a)
  inj : ∀ a b, lit a = lit b → a = b
variable {P : Program} {κ ν : Type}
/-- block b is a map of n entries, of which f tells what stands at each key -/
def MapIs (K : KeyTy P κ) (val : ν → Value) (w : World) (b n : Nat) (f : κ → Option ν) : Prop :=
  ∃ D : DataW Value, w.ownsMap P K.k tokR b n D ∧ Maps.size D = n ∧ ∀ a, K.wf a → (∀ x, f a = some x → ∀ z, D.atKey (K.lit a) z = .held (val x)) ∧ (f a = none → ∀ z, D.atKey (K.lit a) z = z)
variable {K : KeyTy P κ} {val : ν → Value} {w w' : World} {b n : Nat} {f : κ → Option ν}
theorem MapIs.made (K : KeyTy P κ) (val : ν → Value) (w : World) : MapIs K val (w.alloc (.map #[] 0)) w.heap.size 0 (fun _ => none) :=
  ⟨_, World.ownsMap_made w P K.k tokR, rfl, fun _ _ => ⟨fun _ h => (by cases h), fun _ _ => rfl⟩⟩
theorem MapIs.lt (h : MapIs K val w b n f) : b < w.heap.size := let ⟨_, h, _⟩ := h; h.lt
theorem MapIs.fr {F : Nat → Prop} (h : MapIs K val w b n f) (hf : Fr F w w') (hn : ¬ F b) : MapIs K val w' b n f := by
  obtain ⟨D, h1, h2⟩ := h
  obtain ⟨es, clock, hb, r⟩ := h1
  exact ⟨D, ⟨es, clock, hf.heap hb hn, r⟩, h2⟩
theorem MapIs.below (h : MapIs K val w b n f) (hb : Below w.heap.size w w') : MapIs K val w' b n f := h.fr (Fr.of_below hb (fun _ => False)) (fun h => h)
theorem MapIs.congr {g : κ → Option ν} (h : MapIs K val w b n f) (hg : ∀ a, K.wf a → f a = g a) : MapIs K val w b n g := by
  obtain ⟨D, h1, h2, h3⟩ := h
  exact ⟨D, h1, h2, fun a ha => by rw [← hg a ha]; exact h3 a ha⟩
theorem MapIs.look {t e : TypeId} (h : MapIs K val w b n f) (ht : P.underlying t = some (.map K.k e)) {z : Value} (hz : (zeroValue e).run P w = .ok z w) (a : κ) (ha : K.wf a) :
    (∀ x, f a = some x → (Instr.lookup t (.map (some b)) (K.key a) false).run P w = .ok (val x) w ∧ (Instr.lookup t (.map (some b)) (K.key a) true).run P w = .ok (.tuple #[val x, .bool true]) w) ∧
    (f a = none → (Instr.lookup t (.map (some b)) (K.key a) false).run P w = .ok z w ∧ (Instr.lookup t (.map (some b)) (K.key a) true).run P w = .ok (.tuple #[z, .bool false]) w) := by
  obtain ⟨D, h1, _, h3⟩ := h
  obtain ⟨v, ps, hr, hv⟩ := h1.lookup K.law ht hz (zd := .held z) (zp := []) rfl (K.hkey a ha)
  obtain ⟨v2, ps2, hr2, hv2⟩ := h1.look_ok K.law ht hz (zd := .held z) (zp := []) rfl (K.hkey a ha)
  refine ⟨fun x hx => ?_, fun hx => ?_⟩
  · have h4 := (h3 a ha).1 x hx
    rw [h4] at hv hv2
    injection hv with hv
    injection hv2 with hv2
    injection hv with hv _
    injection hv2 with hv2 _
    injection hv with hv
    injection hv2 with hv2
    subst hv hv2
    rw [has_true_of_atKey h4] at hr2
    exact ⟨hr, hr2⟩
  · have h4 := (h3 a ha).2 hx
    rw [h4] at hv hv2
    injection hv with hv
    injection hv2 with hv2
    injection hv with hv _
    injection hv2 with hv2 _
    injection hv with hv
    injection hv2 with hv2
    subst hv hv2
    rw [has_false_of_atKey h4] at hr2
    exact ⟨hr, hr2⟩
/-- f, but at a -/
def upd (f : κ → Option ν) [DecidableEq κ] (a : κ) (x : Option ν) : κ → Option ν := fun c => if c = a then x else f c
theorem isKey (K : KeyTy P κ) {a : κ} (ha : K.wf a) : WideAt.IsKeyLit (K.lit a) := K.law.key (K.hkey a ha)
theorem MapIs.put [DecidableEq κ] {t e : TypeId} (h : MapIs K val w b n f) (ht : P.underlying t = some (.map K.k e)) (hn : n < maxLen) (a : κ) (ha : K.wf a) (x : ν) :
    ∃ w', (Instr.mapUpdate t (.map (some b)) (K.key a) (val x)).run P w = .ok () w' ∧ MapIs K val w' b (if (f a).isSome then n else n + 1) (upd f a (some x)) ∧ w.mapTurned w' b := by
  obtain ⟨D, h1, h2, h3⟩ := h
  obtain ⟨w', hr, h4, h5⟩ := h1.store K.law ht hn (K.hkey a ha) (show tokR (val x) = some (.held (val x), []) from rfl)
  have hm := h1.isMap
  have hT := h1.tidy K.law
  have hs : Maps.size (D.put (K.lit a) (.held (val x))) = if (f a).isSome then n else n + 1 := by
    rw [size_put hT, h2]
    cases hf : f a with
    | none => rw [has_false_of_atKey ((h3 a ha).2 hf)]; rfl
    | some y => rw [has_true_of_atKey ((h3 a ha).1 y hf)]; rfl
  refine ⟨w', hr, ⟨_, ?_, hs, fun c hc => ?_⟩, h5⟩
  · obtain ⟨es, clock, hb, F, hsz, hD⟩ := h4
    refine ⟨es, clock, hb, F, ?_, hD⟩
    rw [← hs, hD]
    simp [Maps.size, length_sorted]
  · by_cases hca : c = a
    · subst hca
      refine ⟨fun y hy z => ?_, fun hy => ?_⟩
      · rw [atKey_put_same hm (isKey K hc)]
        simp [upd] at hy
        rw [hy]
      · simp [upd] at hy
    · have hne : K.lit c ≠ K.lit a := fun e => hca (K.inj c a e)
      refine ⟨fun y hy z => ?_, fun hy z => ?_⟩
      · rw [atKey_put_other hne]
        simp [upd, hca] at hy
        exact (h3 c hc).1 y hy z
      · rw [atKey_put_other hne]
        simp [upd, hca] at hy
        exact (h3 c hc).2 hy z
theorem turned_fr {b : Nat} (h : w.mapTurned w' b) : Fr (fun k => k = b) w w' := (Fr.refl _ w).grown h.grown (fun k hk _ => by injection hk with e; exact e.symm)

variable {ops : Array Oper} {rest : List Oper} {o : Oper} {a : Act} {Q : Exit → Act → World → Prop}
theorem look_some (hg : o.guard = none) (m x : Operand) (t e : TypeId) (hop : o.op = Op.lookup t m x false) (h : MapIs K val w b n f) (ht : P.underlying t = some (.map K.k e)) {z : Value} (hz : (zeroValue e).run P w = .ok z w) (k : κ) (hk : K.wf k)
    (hm : a.eval m = .map (some b)) (hx : a.eval x = K.key k) (y : ν) (hf : f k = some y) (hK : wpList P ops Q rest (a.put o.dst (val y)) w) : wpList P ops Q (o :: rest) a w := by
  refine wpList_plain hg fun K' hK' => ?_
  have hrun := ((h.look ht hz k hk).1 y hf).1
  unfold Oper.wp
  simp [execOp, hop, hm, hx, hrun, Result.andThen]
  exact hK' _ _ hK
theorem look_none (hg : o.guard = none) (m x : Operand) (t e : TypeId) (hop : o.op = Op.lookup t m x false) (h : MapIs K val w b n f) (ht : P.underlying t = some (.map K.k e)) {z : Value} (hz : (zeroValue e).run P w = .ok z w) (k : κ) (hk : K.wf k)
    (hm : a.eval m = .map (some b)) (hx : a.eval x = K.key k) (hf : f k = none) (hK : wpList P ops Q rest (a.put o.dst z) w) : wpList P ops Q (o :: rest) a w := by
  refine wpList_plain hg fun K' hK' => ?_
  have hrun := ((h.look ht hz k hk).2 hf).1
  unfold Oper.wp
  simp [execOp, hop, hm, hx, hrun, Result.andThen]
  exact hK' _ _ hK
theorem put_map [DecidableEq κ] (hg : o.guard = none) (m x v : Operand) (t e : TypeId) (hop : o.op = Op.mapUpdate t m x v) (h : MapIs K val w b n f) (ht : P.underlying t = some (.map K.k e)) (hn : n < maxLen) (k : κ) (hk : K.wf k) (y : ν)
    (hm : a.eval m = .map (some b)) (hx : a.eval x = K.key k) (hv : a.eval v = val y)
    (hK : ∀ w', MapIs K val w' b (if (f k).isSome then n else n + 1) (upd f k (some y)) → w.mapTurned w' b → wpList P ops Q rest (a.put o.dst undef) w') : wpList P ops Q (o :: rest) a w := by
  refine wpList_plain hg fun K' hK' => ?_
  obtain ⟨w', hrun, r1, r2⟩ := h.put ht hn k hk y
  unfold Oper.wp
  simp [execOp, hop, hm, hx, hv, hrun, Result.andThen]
  exact hK' _ _ (hK w' r1 r2)
end Go.Proofs.YtknbllbhakpaaaaGreat
namespace Go.Proofs.YtknbllbhakpaaaaGreat
open Go.ChangeShapes Go.WideShapes Go.ChangeAt Go.RowKit Go.Maps
def i64B (x : Int) : Prop := -9223372036854775808 ≤ x ∧ x ≤ 9223372036854775807
theorem i64_wf {x : Int} (h : i64B x) : (Lit.int .i64 x).wf = true := by
  obtain ⟨h1, h2⟩ := h
  simp [Lit.wf, IntKind.min, IntKind.max, IntKind.signed, IntKind.bits]
  omega
/-- keys that are numbers -/
def intK : KeyTy Tryz.prog Int where
  k := 3
  law := int_keyed Tryz.underlying3
  key := .int .i64
  lit := Lit.int .i64
  wf := i64B
  hkey := fun a h => keyOf_int_mk Tryz.underlying3 (i64_wf h)
  inj := fun a b h => by injection h
theorem zero_int (w : World) : (zeroValue 3).run Tryz.prog w = .ok (.int .i64 0) w := by
  kernel_rfl
def kF (n : Nat) (pl : Bool) (x : Int) : Option Int := if x = 1 ∨ (16 ≤ x ∧ x < 16 + n) ∨ (pl = true ∧ 64 ≤ x ∧ x < 64 + n) then some 1 else none
theorem kF_zero (pl : Bool) (x : Int) : upd (fun _ => none) 1 (some 1) x = kF 0 pl x := by
  unfold upd kF
  by_cases h : x = 1
  · rw [if_pos h, if_pos (.inl h)]
  · rw [if_neg h, if_neg (by rintro (h1 | h1 | h1) <;> omega)]
theorem kF_false (n : Nat) (x : Int) : upd (kF n false) (16 + n) (some 1) x = kF (n + 1) false x := by
  unfold upd kF
  by_cases h : x = 16 + n
  · rw [if_pos h, if_pos (.inr (.inl (by omega)))]
  · rw [if_neg h]
    by_cases h1 : x = 1 ∨ 16 ≤ x ∧ x < 16 + n
    · rw [if_pos (by rcases h1 with h1 | h1; exact .inl h1; exact .inr (.inl h1)), if_pos (by rcases h1 with h1 | h1; exact .inl h1; exact .inr (.inl (by omega)))]
    · rw [if_neg (by rintro (h2 | h2 | h2); exact h1 (.inl h2); exact h1 (.inr h2); exact absurd h2.1 (by decide)), if_neg (by rintro (h2 | h2 | h2); exact h1 (.inl h2); exact h1 (.inr (by omega)); exact absurd h2.1 (by decide))]
theorem kF_true (n : Nat) (hn : n < 16) (x : Int) : upd (upd (kF n true) (16 + n) (some 1)) (64 + n) (some 1) x = kF (n + 1) true x := by
  unfold upd kF
  by_cases h : x = 64 + n
  · rw [if_pos h, if_pos (.inr (.inr ⟨rfl, by omega⟩))]
  · rw [if_neg h]
    by_cases h2 : x = 16 + n
    · rw [if_pos h2, if_pos (.inr (.inl (by omega)))]
    · rw [if_neg h2]
      by_cases h1 : x = 1 ∨ (16 ≤ x ∧ x < 16 + n) ∨ (64 ≤ x ∧ x < 64 + n)
      · rw [if_pos (by rcases h1 with h1 | h1 | h1; exact .inl h1; exact .inr (.inl h1); exact .inr (.inr ⟨rfl, h1⟩)), if_pos (by rcases h1 with h1 | h1 | h1; exact .inl h1; exact .inr (.inl (by omega)); exact .inr (.inr ⟨rfl, by omega⟩))]
      · rw [if_neg (by rintro (h3 | h3 | h3); exact h1 (.inl h3); exact h1 (.inr (.inl h3)); exact h1 (.inr (.inr h3.2))), if_neg (by rintro (h3 | h3 | h3); exact h1 (.inl h3); exact h1 (.inr (.inl (by omega))); exact h1 (.inr (.inr (by omega))))]
def kindsF (n : Nat) (pl : Bool) : Int → Option Int := if n ≤ 16 then kF n pl else fun _ => none
def IntMap (w : World) (b m : Nat) (f : Int → Option Int) : Prop := MapIs intK (Value.int .i64) w b m f
theorem field_kinds (kind : Int) (n : Nat) : (kindsF n false kind).isSome = fieldB kind n := by
  unfold kindsF fieldB
  by_cases h : n ≤ 16
  · rw [if_pos h]
    unfold kF
    by_cases h1 : kind = 1
    · simp [h, h1]
    · by_cases h2 : 16 ≤ kind ∧ kind < 16 + n
      · rw [if_pos (.inr (.inl h2))]; simp [h, h2]
      · rw [if_neg (by rintro (h3 | h3 | h3); exact h1 h3; exact h2 h3; exact absurd h3.1 (by decide))]
        have : ¬ (16 ≤ kind ∧ kind < 16 + (n : Int)) := h2
        simp [h1]
        omega
  · rw [if_neg h]; simp [h]
theorem valid_kinds (kind : Int) (n : Nat) : (kindsF n true kind).isSome = validB kind n := by
  unfold kindsF validB fieldB
  by_cases h : n ≤ 16
  · rw [if_pos h]
    unfold kF
    by_cases h1 : kind = 1
    · simp [h, h1]
    · by_cases h2 : 16 ≤ kind ∧ kind < 16 + n
      · rw [if_pos (.inr (.inl h2))]; simp [h, h2]
      · by_cases h4 : 64 ≤ kind ∧ kind < 64 + n
        · rw [if_pos (.inr (.inr ⟨rfl, h4⟩))]; simp [h, h4]
        · rw [if_neg (by rintro (h3 | h3 | h3); exact h1 h3; exact h2 h3; exact h4 h3.2)]
          simp [h1]
          omega
  · rw [if_neg h]; simp [h]

set_option maxRecDepth 100000 in
theorem within_any (w : World) (n m : Int) :
    Calls Tryz.prog 110 #[.int .i64 n, .int .i64 m] w fun e w' => e = .returned (.bool (withinB n m)) ∧ w = w' := by
  unfold withinB
  by_cases h : 0 ≤ n
  · by_cases h2 : n < m
    · rw [decide_eq_true h, decide_eq_true h2]
      go_enter Tryz.func110, Tryz.ntmps110
      go_wp2_with fail
      go_ret
      exact ⟨rfl, rfl⟩
    · rw [decide_eq_true h, decide_eq_false h2]
      go_enter Tryz.func110, Tryz.ntmps110
      go_wp2_with fail
      go_ret
      exact ⟨rfl, rfl⟩
  · have h0 : decide (0 ≤ n) = false := by simpa using h
    rw [h0, Bool.false_and]
    go_enter Tryz.func110, Tryz.ntmps110
    go_wp2_with fail
    go_ret
    exact ⟨rfl, rfl⟩

set_option maxRecDepth 100000 in
set_option maxHeartbeats 1600000 in
theorem kinds_any (w : World) (n : Nat) (pl : Bool) (hn : n ≤ 100000) :
    Calls Tryz.prog 136 #[.int .i64 n, .bool pl] w fun e w' => ∃ b m, e = .returned (.map (some b)) ∧ IntMap w' b m (kindsF n pl) ∧ w.heap.size ≤ b ∧ Below w.heap.size w w' := by
  have hmk : IntMap (w.alloc (.map #[] 0)) w.heap.size 0 (fun _ => none) := MapIs.made intK _ w
  have hb0 := (Below.refl w.heap.size w).alloc (Nat.le_refl _) (.map #[] 0)
  have hmake : ∀ w, (Instr.makeMap 99 none).run Tryz.prog w = .ok (.map (some w.heap.size)) (w.alloc (.map #[] 0)) := fun w => run_makeMap _ w
  by_cases h16 : n ≤ 16
  case neg =>
    have h16' : (16 : Int) < n := by omega
    have hk : kindsF n pl = fun _ => none := by unfold kindsF; rw [if_neg h16]
    rw [hk]
    clear hk
    have HMK := Lib.hid hmk; clear hmk
    have HB0 := Lib.hid hb0; clear hb0
    go_enter Tryz.func136, Tryz.ntmps136
    go_wp2_with fail
    go_ret
    exact ⟨_, 0, rfl, HMK.out, Nat.le_refl _, HB0.out⟩
  have h16' : ¬ (16 : Int) < n := by omega
  have hk : kindsF n pl = kF n pl := by unfold kindsF; rw [if_pos h16]
  rw [hk]
  clear hk
  have ht : Tryz.prog.underlying 99 = some (.map intK.k 3) := Tryz.underlying99
  have HMK := Lib.hid hmk; clear hmk
  have HB0 := Lib.hid hb0; clear hb0
  have HT := Lib.hid ht; clear ht
  go_enter Tryz.func136, Tryz.ntmps136
  go_upto_region 4 with fail
  have HLM := Lib.hid (show (0 : Nat) < 100 by omega)
  go_wp2_with (first | (refine look_none rfl (.tmp 15) (.const (.int .i64 1)) 99 3 rfl HMK.out HT.out (zero_int _) (1) ⟨by omega, by omega⟩ rfl rfl rfl ?_) | (refine put_map rfl (.tmp 15) (.const (.int .i64 1)) (.tmp 17) 99 3 rfl HMK.out HT.out (by have := HLM.out; unfold maxLen; omega) (1) ⟨by omega, by omega⟩ 1 rfl rfl rfl ?_; intro w1 hm1 ht1))
  have hm2 : IntMap w1 w.heap.size 1 (kF 0 pl) := hm1.congr (fun a _ => kF_zero pl a)
  have hb1 : Below w.heap.size w w1 := HB0.out.trans ((turned_fr ht1).below (by simp) (fun k hk => by omega))
  clear hm1 ht1 HLM
  have HM2 := Lib.hid hm2; clear hm2
  have HB1 := Lib.hid hb1; clear hb1
  go_wp2_with fail
  go_loopw [19] (fun i wr => ∃ j m : Nat, j ≤ n ∧ i = .int .i64 j ∧ IntMap wr w.heap.size m (kF j pl) ∧ m ≤ 1 + 2 * j ∧ Below w.heap.size w wr) (fun i _ => n - (intOf i).toNat)
  case atStart => exact ⟨0, 1, Nat.zero_le _, rfl, HM2.out, by omega, HB1.out⟩
  case round =>
    obtain ⟨j, m, hj, rfl, hm, hmj, hB⟩ := hrel
    by_cases hlt : j < n
    · have i1 : IntKind.i64.wrap (16 + (j : Int)) = 16 + (j : Int) := IntWalk.i64_in _ (by omega)
      have i2 : IntKind.i64.wrap (64 + (j : Int)) = 64 + (j : Int) := IntWalk.i64_in _ (by omega)
      have n1 : kF j pl (16 + (j : Int)) = none := by unfold kF; rw [if_neg (by rintro (h | h | h) <;> omega)]
      have HLM := Lib.hid (show m < 100 by omega)
      have hz := hB.size
      cases pl
      · have HN1 := Lib.hid n1
        clear n1
        have HM := Lib.hid hm; clear hm
        have HB := Lib.hid hB; clear hB
        go_upto_region 8 with fail
        go_wp2_with (first | (refine look_none rfl (.tmp 22) (.tmp 24) 99 3 rfl HM.out HT.out (zero_int _) (16 + (j : Int)) ⟨by omega, by omega⟩ rfl rfl HN1.out ?_) | (refine put_map rfl (.tmp 22) (.tmp 24) (.tmp 26) 99 3 rfl HM.out HT.out (by have := HLM.out; unfold maxLen; omega) (16 + (j : Int)) ⟨by omega, by omega⟩ 1 rfl rfl rfl ?_; intro w1 hm1 ht1))
        have hm3 : IntMap w1 w.heap.size _ (kF (j + 1) false) := hm1.congr (fun a _ => kF_false j a)
        have hn3 : (if (kF j false (16 + (j : Int))).isSome then m else m + 1) ≤ 1 + 2 * (j + 1) := by split <;> omega
        have hb3 : Below w.heap.size w w1 := HB.out.trans ((turned_fr ht1).below hz (fun k hk => by omega))
        clear hm1 ht1
        have HM3 := Lib.hid hm3; clear hm3
        have HB3 := Lib.hid hb3; clear hb3
        have HN3 := Lib.hid hn3; clear hn3
        go_wp2_with fail
        go_roundw
        case rel => exact ⟨j + 1, _, by omega, by go_num, HM3.out, HN3.out, HB3.out⟩
        case measure => simp [intOf]; omega
      · have HN1 := Lib.hid n1
        clear n1
        have HM := Lib.hid hm; clear hm
        have HB := Lib.hid hB; clear hB
        go_upto_region 8 with fail
        go_upto_region 10 with (first | (refine look_none rfl (.tmp 22) (.tmp 24) 99 3 rfl HM.out HT.out (zero_int _) (16 + (j : Int)) ⟨by omega, by omega⟩ rfl rfl HN1.out ?_) | (refine put_map rfl (.tmp 22) (.tmp 24) (.tmp 26) 99 3 rfl HM.out HT.out (by have := HLM.out; unfold maxLen; omega) (16 + (j : Int)) ⟨by omega, by omega⟩ 1 rfl rfl rfl ?_; intro w1 hm1 ht1))
        have hn3 : (if (kF j true (16 + (j : Int))).isSome then m else m + 1) ≤ m + 1 := by split <;> omega
        generalize (if (kF j true (16 + (j : Int))).isSome then m else m + 1) = m1 at *
        have hb3 : Below w.heap.size w w1 := HB.out.trans ((turned_fr ht1).below hz (fun k hk => by omega))
        have n2 : upd (kF j true) (16 + (j : Int)) (some 1) (64 + (j : Int)) = none := by
          unfold upd
          rw [if_neg (by omega)]
          unfold kF
          rw [if_neg (by rintro (h | h | h) <;> omega)]
        have hz3 := hb3.size
        have HN2 := Lib.hid n2
        have HM4 := Lib.hid hm1
        have HLN := Lib.hid (show m1 < 100 by omega)
        clear hm1 ht1 n2
        have HB3 := Lib.hid hb3; clear hb3
        go_wp2_with (first | (refine look_none rfl (.tmp 28) (.tmp 30) 99 3 rfl HM4.out HT.out (zero_int _) (64 + (j : Int)) ⟨by omega, by omega⟩ rfl rfl HN2.out ?_) | (refine put_map rfl (.tmp 28) (.tmp 30) (.tmp 32) 99 3 rfl HM4.out HT.out (by have := HLN.out; unfold maxLen; omega) (64 + (j : Int)) ⟨by omega, by omega⟩ 1 rfl rfl rfl ?_; intro w2 hm2' ht2))
        have hm3 : IntMap w2 w.heap.size _ (kF (j + 1) true) := hm2'.congr (fun a _ => kF_true j (by omega) a)
        have hn4 : (if (upd (kF j true) (16 + (j : Int)) (some 1) (64 + (j : Int))).isSome then m1 else m1 + 1) ≤ 1 + 2 * (j + 1) := by split <;> omega
        have hb4 : Below w.heap.size w w2 := HB3.out.trans ((turned_fr ht2).below hz3 (fun k hk => by omega))
        clear hm2' ht2
        have HM3 := Lib.hid hm3; clear hm3
        have HB4 := Lib.hid hb4; clear hb4
        have HN4 := Lib.hid hn4; clear hn4
        go_wp2_with fail
        go_roundw
        case rel => exact ⟨j + 1, _, by omega, by go_num, HM3.out, HN4.out, HB4.out⟩
        case measure => simp [intOf]; omega
    · have hk' : j = n := by omega
      subst hk'
      have HM := Lib.hid hm; clear hm
      have HB := Lib.hid hB; clear hB
      go_wp2_with fail
      go_ret
      exact ⟨_, _, rfl, HM.out, Nat.le_refl _, HB.out⟩
theorem kinds_one {n : Nat} {pl : Bool} {kind x : Int} (h : kindsF n pl kind = some x) : x = 1 := by
  unfold kindsF at h
  by_cases hn : n ≤ 16
  · rw [if_pos hn] at h
    unfold kF at h
    split at h
    · injection h with h; exact h.symm
    · cases h
  · rw [if_neg hn] at h; cases h
set_option maxRecDepth 100000 in
theorem field_any (w : World) (kind : Int) (n : Nat) (hn : n ≤ 100000) (hkd : i64B kind) :
    Calls Tryz.prog 109 #[.int .i64 kind, .int .i64 n] w fun e w' => e = .returned (.bool (fieldB kind n)) ∧ Below w.heap.size w w' := by
  have kn := kinds_any w n false hn
  have ht : Tryz.prog.underlying 99 = some (.map intK.k 3) := Tryz.underlying99
  rw [← field_kinds]
  have KN := Lib.hid kn; clear kn
  have HT := Lib.hid ht; clear ht
  go_enter Tryz.func109, Tryz.ntmps109
  go_wp2_with fail
  refine KN.out.mono ?_
  rintro e w1 ⟨b, m, rfl, hm, hb, hB⟩
  have HM := Lib.hid hm; clear hm
  have HB := Lib.hid hB; clear hB
  cases hk : kindsF n false kind with
  | none =>
    have HK := Lib.hid hk
    clear hk
    go_wp2_with (refine look_none rfl (.tmp 6) (.tmp 7) 99 3 rfl HM.out HT.out (zero_int _) kind hkd rfl rfl HK.out ?_)
    go_ret
    exact ⟨by rw [HK.out]; rfl, HB.out⟩
  | some x =>
    have hx := kinds_one hk
    subst hx
    have HK := Lib.hid hk
    clear hk
    go_wp2_with (refine look_some rfl (.tmp 6) (.tmp 7) 99 3 rfl HM.out HT.out (zero_int _) kind hkd rfl rfl 1 HK.out ?_)
    go_ret
    exact ⟨by rw [HK.out]; rfl, HB.out⟩
set_option maxRecDepth 100000 in
theorem valid_any (w : World) (kind : Int) (n : Nat) (hn : n ≤ 100000) (hkd : i64B kind) :
    Calls Tryz.prog 137 #[.int .i64 kind, .int .i64 n] w fun e w' => e = .returned (.bool (validB kind n)) ∧ Below w.heap.size w w' := by
  have kn := kinds_any w n true hn
  have ht : Tryz.prog.underlying 99 = some (.map intK.k 3) := Tryz.underlying99
  rw [← valid_kinds]
  have KN := Lib.hid kn; clear kn
  have HT := Lib.hid ht; clear ht
  go_enter Tryz.func137, Tryz.ntmps137
  go_wp2_with fail
  refine KN.out.mono ?_
  rintro e w1 ⟨b, m, rfl, hm, hb, hB⟩
  have HM := Lib.hid hm; clear hm
  have HB := Lib.hid hB; clear hB
  cases hk : kindsF n true kind with
  | none =>
    have HK := Lib.hid hk
    clear hk
    go_wp2_with (refine look_none rfl (.tmp 6) (.tmp 7) 99 3 rfl HM.out HT.out (zero_int _) kind hkd rfl rfl HK.out ?_)
    go_ret
    exact ⟨by rw [HK.out]; rfl, HB.out⟩
  | some x =>
    have hx := kinds_one hk
    subst hx
    have HK := Lib.hid hk
    clear hk
    go_wp2_with (refine look_some rfl (.tmp 6) (.tmp 7) 99 3 rfl HM.out HT.out (zero_int _) kind hkd rfl rfl 1 HK.out ?_)
    go_ret
    exact ⟨by rw [HK.out]; rfl, HB.out⟩
end Go.Proofs.YtknbllbhakpaaaaGreat
namespace Go.Proofs.YtknbllbhakpaaaaGreat
open Go.RowKit Go.Maps Go.Sort Go.Shelf
def keysA_ren : Go.Shelf.Ren := ⟨fun | 7 => 83 | 10 => 123 | n => n, fun | 23 => 100 | 26 => 3 | 3 => 3 | 28 => 146 | 0 => 0 | 27 => 145 | 33 => 67 | 4 => 4 | n => n, fun | n => n⟩
theorem keysA : Go.Proofs.SlLaysZI.n7 Tryz.prog keysA_ren := {
  mixed := by kernel_rfl
  f7 := ⟨Tryz.f83.name, by decide, Tryz.func83.trans (congrArg some (by kernel_rfl))⟩
  f10 := ⟨Tryz.f123.name, by decide, Tryz.func123.trans (congrArg some (by kernel_rfl))⟩
  t0 := Tryz.underlying0
  a0 := Tryz.isAgg0
  z0 := Tryz.sizeOf0
  v0 := Tryz.zeroValue0
  t4 := Tryz.underlying4
  a4 := Tryz.isAgg4
  z4 := Tryz.sizeOf4
  v4 := Tryz.zeroValue4
  t23 := Tryz.underlying100
  a23 := Tryz.isAgg100
  z23 := Tryz.sizeOf100
  v23 := Tryz.zeroValue100
  t26 := Tryz.underlying3
  a26 := Tryz.isAgg3
  z26 := Tryz.sizeOf3
  v26 := Tryz.zeroValue3
  t27 := Tryz.underlying145
  a27 := Tryz.isAgg145
  z27 := Tryz.sizeOf145
  v27 := Tryz.zeroValue145
  t28 := Tryz.underlying146
  a28 := Tryz.isAgg146
  z28 := Tryz.sizeOf146
  v28 := Tryz.zeroValue146
  t33 := Tryz.underlying67
  a33 := Tryz.isAgg67
  z33 := Tryz.sizeOf67
  v33 := Tryz.zeroValue67 }

def sortedA_ren : Go.Shelf.Ren := ⟨fun | 6 => 82 | 8 => 121 | 9 => 122 | 11 => 147 | 13 => 149 | 12 => 148 | 23 => 174 | 24 => 175 | 14 => 165 | 15 => 166 | 16 => 167 | 17 => 168 | 18 => 169 | 19 => 170 | 20 => 171 | 21 => 172 | 22 => 173 | 25 => 187 | 26 => 188 | 27 => 189 | 28 => 190 | 29 => 191 | 30 => 192 | 31 => 196 | n => n, fun | 26 => 3 | 28 => 146 | 24 => 23 | 0 => 0 | 3 => 3 | 37 => 191 | 48 => 236 | 50 => 238 | 4 => 4 | 40 => 230 | 39 => 229 | 45 => 142 | 5 => 5 | 9 => 9 | 51 => 246 | 55 => 250 | 57 => 254 | 58 => 58 | 33 => 67 | n => n, fun | n => n⟩
theorem sortedA : Go.Proofs.SlLaysZI.n6 Tryz.prog sortedA_ren := {
  mixed := by kernel_rfl
  f6 := ⟨Tryz.f82.name, by decide, Tryz.func82.trans (congrArg some (by kernel_rfl))⟩
  f8 := ⟨Tryz.f121.name, by decide, Tryz.func121.trans (congrArg some (by kernel_rfl))⟩
  f11 := ⟨Tryz.f147.name, by decide, Tryz.func147.trans (congrArg some (by kernel_rfl))⟩
  t0 := Tryz.underlying0
  a0 := Tryz.isAgg0
  z0 := Tryz.sizeOf0
  v0 := Tryz.zeroValue0
  t24 := Tryz.underlying23
  a24 := Tryz.isAgg23
  z24 := Tryz.sizeOf23
  v24 := Tryz.zeroValue23
  t26 := Tryz.underlying3
  a26 := Tryz.isAgg3
  z26 := Tryz.sizeOf3
  v26 := Tryz.zeroValue3
  t28 := Tryz.underlying146
  a28 := Tryz.isAgg146
  z28 := Tryz.sizeOf146
  v28 := Tryz.zeroValue146
  i26 := by kernel_rfl }

def sortA_ren : Go.Shelf.Ren := ⟨fun | 5 => 122 | 8 => 149 | 7 => 148 | 19 => 174 | 20 => 175 | 10 => 165 | 11 => 166 | 12 => 167 | 13 => 168 | 14 => 169 | 15 => 170 | 16 => 171 | 17 => 172 | 18 => 173 | 30 => 187 | 31 => 188 | 32 => 189 | 33 => 190 | 34 => 191 | 35 => 192 | 40 => 196 | n => n, fun | 23 => 23 | 25 => 3 | 3 => 3 | 32 => 191 | 22 => 23 | 0 => 0 | 44 => 236 | 46 => 238 | 4 => 4 | 36 => 230 | 35 => 229 | 41 => 142 | 5 => 5 | 9 => 9 | 53 => 246 | 57 => 250 | 63 => 254 | 64 => 58 | n => n, fun | n => n⟩
theorem sortA : Go.Proofs.SlLaysM.n5 Tryz.prog sortA_ren := {
  mixed := by kernel_rfl
  f5 := ⟨Tryz.f122.name, by decide, Tryz.func122.trans (congrArg some (by kernel_rfl))⟩
  f7 := ⟨Tryz.f148.name, by decide, Tryz.func148.trans (congrArg some (by kernel_rfl))⟩
  f8 := Tryz.func149.trans (congrArg some (by kernel_rfl))
  f10 := ⟨Tryz.f165.name, by decide, Tryz.func165.trans (congrArg some (by kernel_rfl))⟩
  f11 := ⟨Tryz.f166.name, by decide, Tryz.func166.trans (congrArg some (by kernel_rfl))⟩
  f12 := ⟨Tryz.f167.name, by decide, Tryz.func167.trans (congrArg some (by kernel_rfl))⟩
  f13 := ⟨Tryz.f168.name, by decide, Tryz.func168.trans (congrArg some (by kernel_rfl))⟩
  f14 := ⟨Tryz.f169.name, by decide, Tryz.func169.trans (congrArg some (by kernel_rfl))⟩
  f15 := ⟨Tryz.f170.name, by decide, Tryz.func170.trans (congrArg some (by kernel_rfl))⟩
  f16 := ⟨Tryz.f171.name, by decide, Tryz.func171.trans (congrArg some (by kernel_rfl))⟩
  f17 := ⟨Tryz.f172.name, by decide, Tryz.func172.trans (congrArg some (by kernel_rfl))⟩
  f18 := ⟨Tryz.f173.name, by decide, Tryz.func173.trans (congrArg some (by kernel_rfl))⟩
  f19 := Tryz.func174.trans (congrArg some (by kernel_rfl))
  f20 := Tryz.func175.trans (congrArg some (by kernel_rfl))
  f30 := ⟨Tryz.f187.name, by decide, Tryz.func187.trans (congrArg some (by kernel_rfl))⟩
  f31 := Tryz.func188.trans (congrArg some (by kernel_rfl))
  f32 := Tryz.func189.trans (congrArg some (by kernel_rfl))
  f33 := ⟨Tryz.f190.name, by decide, Tryz.func190.trans (congrArg some (by kernel_rfl))⟩
  f34 := ⟨Tryz.f191.name, by decide, Tryz.func191.trans (congrArg some (by kernel_rfl))⟩
  f35 := ⟨Tryz.f192.name, by decide, Tryz.func192.trans (congrArg some (by kernel_rfl))⟩
  f40 := ⟨Tryz.f196.name, by decide, Tryz.func196.trans (congrArg some (by kernel_rfl))⟩
  t0 := Tryz.underlying0
  a0 := Tryz.isAgg0
  z0 := Tryz.sizeOf0
  v0 := Tryz.zeroValue0
  t3 := Tryz.underlying3
  a3 := Tryz.isAgg3
  z3 := Tryz.sizeOf3
  v3 := Tryz.zeroValue3
  t4 := Tryz.underlying4
  a4 := Tryz.isAgg4
  z4 := Tryz.sizeOf4
  v4 := Tryz.zeroValue4
  t5 := Tryz.underlying5
  a5 := Tryz.isAgg5
  z5 := Tryz.sizeOf5
  v5 := Tryz.zeroValue5
  t9 := Tryz.underlying9
  a9 := Tryz.isAgg9
  z9 := Tryz.sizeOf9
  v9 := Tryz.zeroValue9
  t22 := Tryz.underlying23
  a22 := Tryz.isAgg23
  z22 := Tryz.sizeOf23
  v22 := Tryz.zeroValue23
  t23 := Tryz.underlying23
  a23 := Tryz.isAgg23
  z23 := Tryz.sizeOf23
  v23 := Tryz.zeroValue23
  t25 := Tryz.underlying3
  a25 := Tryz.isAgg3
  z25 := Tryz.sizeOf3
  v25 := Tryz.zeroValue3
  t32 := Tryz.underlying191
  a32 := Tryz.isAgg191
  z32 := Tryz.sizeOf191
  v32 := Tryz.zeroValue191
  t35 := Tryz.underlying229
  a35 := Tryz.isAgg229
  z35 := Tryz.sizeOf229
  v35 := Tryz.zeroValue229
  t36 := Tryz.underlying230
  a36 := Tryz.isAgg230
  z36 := Tryz.sizeOf230
  v36 := Tryz.zeroValue230
  t41 := Tryz.underlying142
  a41 := Tryz.isAgg142
  z41 := Tryz.sizeOf142
  v41 := Tryz.zeroValue142
  t44 := Tryz.underlying236
  a44 := Tryz.isAgg236
  z44 := Tryz.sizeOf236
  v44 := Tryz.zeroValue236
  t46 := Tryz.underlying238
  a46 := Tryz.isAgg238
  z46 := Tryz.sizeOf238
  v46 := Tryz.zeroValue238
  t53 := Tryz.underlying246
  a53 := Tryz.isAgg246
  z53 := Tryz.sizeOf246
  v53 := Tryz.zeroValue246
  t57 := Tryz.underlying250
  a57 := Tryz.isAgg250
  z57 := Tryz.sizeOf250
  v57 := Tryz.zeroValue250
  t63 := Tryz.underlying254
  a63 := Tryz.isAgg254
  z63 := Tryz.sizeOf254
  v63 := Tryz.zeroValue254
  t64 := Tryz.underlying58
  a64 := Tryz.isAgg58
  z64 := Tryz.sizeOf58
  v64 := Tryz.zeroValue58 }

theorem sortsA (m : Nat) : AnyZI.SortsIn Tryz.prog sortedA_ren Fence.wide m :=
  ⟨fun blk off cap ss W hH hblk hsz => callsIn_wide.2 (AnyM.slices_Sort_int sortA blk off cap ss W hH hblk hsz),
   fun p cap W => callsIn_wide.2 (AnyM.slices_Sort_int_none sortA p cap W)⟩
set_option maxHeartbeats 1000000 in
theorem all_keys {H : Type} (b nn : Nat) (D0 : DataW H) (R : Value → Option (DataW H × List MemPlace)) (w : World) (hown : w.ownsMap Tryz.prog 3 R b nn D0) (hmax : Maps.size D0 ≤ maxLen) (hbytes : Maps.size D0 * 8 ≤ 140737488355328) :
    Calls Tryz.prog 37 #[.map (some b)] w fun e w' => ∃ (v : Value) (ss : List Int), e = .returned v ∧ ss.Perm (intKeys D0) ∧
      w'.ownsRow w.heap.size 3 1 v ss.length ((ss.mergeSort (fun x y => decide (x ≤ y))).map encZ) ∧ (v = .slice none 0 0 ↔ ss = []) ∧ Below w.heap.size w w' := by
  refine (callsIn_wide (n := 6)).1 ?_
  have hbl := hown.lt
  have hseq : SeqGives Fence.wide 2 Tryz.prog 123 #[.pointer (some ⟨w.heap.size, 0, none⟩)] encZ (fun ss => ss.Perm (intKeys D0)) (Maps.size D0) (w.alloc (.cells #[.map (some b)] 100)) :=
    AnyZI.keys_gives (ρ := keysA_ren) { keysA with } Fence.wide _ trivial rfl (by omega) w.heap.size b nn D0 _ (by simp) (by simp) (by
      obtain ⟨es, clock, hb, Ft, hs, hD⟩ := hown
      exact ⟨es, clock, (Below.heap_alloc _ _ b hbl).trans hb, Ft, hs, hD⟩)
  have cK : ∀ mb W, CallsIn Fence.wide 5 Tryz.prog 83 #[.map mb] W fun e w' => e = .returned (.func (.func 123) #[] #[.pointer (some ⟨W.heap.size, 0, none⟩)]) ∧ w' = W.alloc (.cells #[.map mb] 100) := fun mb W => AnyZI.keys_in keysA Fence.wide 5 trivial rfl mb W
  have cS := AnyZI.sorted_in sortedA Fence.wide 5 trivial trivial trivial trivial rfl (by omega) (sortsA _) (enters_of Tryz.func122 (by kernel_rfl) rfl) 123 #[.pointer (some ⟨w.heap.size, 0, none⟩)] trivial (enters_of Tryz.func123 (by kernel_rfl) rfl) _ _ hmax hbytes _ hseq
  change CallsIn _ _ Tryz.prog 82 _ _ _ at cS
  have hfK : Fence.wide.fn 83 := trivial
  have hfS : Fence.wide.fn 82 := trivial
  refine callsIn_of_wp Tryz.func37 rfl trivial ?_ rfl
  simp only [Tryz.ntmps37, List.size_toArray, List.length_cons, List.length_nil, Nat.reduceAdd, Nat.reduceSub, Array.replicate_succ, Array.replicate_zero, List.push_toArray, List.append_toArray, List.nil_append, List.cons_append]
  gi_wp2_with (first
    | (gi_at_call 83; refine (cK _ _).mono ?_; rintro e w' ⟨rfl, rfl⟩)
    | (gi_at_call 82; refine cS.mono ?_; rintro e w' ⟨v, ss, rfl, hS, hrow, hnil, hb⟩))
  go_ret
  exact ⟨v, ss, rfl, hS, ownsRow_base_a hrow (by simp), hnil, ((Below.refl _ w).alloc (Nat.le_refl _) _).trans (hb.mono (by simp))⟩
end Go.Proofs.YtknbllbhakpaaaaGreat
