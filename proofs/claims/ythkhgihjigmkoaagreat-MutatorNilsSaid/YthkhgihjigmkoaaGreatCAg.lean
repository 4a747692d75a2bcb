import Derived.Test.YthkhgihjigmkoaaGreatCAc
import Derived.Maps.OwnSet
import Derived.Test.YthkhgihjigmkoaaGreatCAf
import Derived.Test.YthkhgihjigmkoaaGreatCAd
import Derived.Maps.Keyed
set_option linter.unusedVariables false
set_option linter.unusedSimpArgs false
namespace Go.Proofs.YthkhgihjigmkoaaGreat
open Go.RowKit Go.Maps
def tokR (v : Value) : Option (DataW Value × List MemPlace) := some (.held v, [])
structure KeyTy (P : Program) (κ : Type) where
 k : TypeId
 law : Keyed P k
 key : κ → Value
 lit : κ → Lit
 wf : κ → Prop
 hkey : ∀ a, wf a → keyOf P k (key a) = some (lit a)
 inj : ∀ a b, lit a = lit b → a = b
variable {P : Program} {κ ν : Type}
def MapIs (K : KeyTy P κ) (val : ν → Value) (w : World) (b n : Nat) (f : κ → Option ν) : Prop :=
 ∃ D : DataW Value, w.ownsMap P K.k tokR b n D ∧ Maps.size D = n ∧ ∀ a, K.wf a → (∀ x, f a = some x → ∀ z, D.atKey (K.lit a) z = .held (val x)) ∧ (f a = none → ∀ z, D.atKey (K.lit a) z = z)
variable {K : KeyTy P κ} {val : ν → Value} {w w' : World} {b n : Nat} {f : κ → Option ν}
theorem MapIs.made (K : KeyTy P κ) (val : ν → Value) (w : World) : MapIs K val (w.alloc (.map #[] 0)) w.heap.size 0 (fun _ => none) :=
 ⟨_, World.ownsMap_made w P K.k tokR, rfl, fun _ _ => ⟨fun _ h => (by cases h), fun _ _ => rfl⟩⟩
theorem MapIs.lt (h : MapIs K val w b n f) : b < w.heap.size := let ⟨_, h, _⟩ := h; h.lt
theorem MapIs.fr {F : Nat → Prop} (h : MapIs K val w b n f) (hf : Fr F w w') (hn : ¬ F b) : MapIs K val w' b n f := by
 obtain ⟨D, h1, h2⟩ := h
 obtain ⟨es, clock, hb, r⟩ := h1
 exact ⟨D, ⟨es, clock, hf.heap hb hn, r⟩, h2⟩
theorem MapIs.below (h : MapIs K val w b n f) (hb : Below w.heap.size w w') : MapIs K val w' b n f := h.fr (Fr.of_below hb (fun _ => False)) (fun h => h)
theorem MapIs.congr {g : κ → Option ν} (h : MapIs K val w b n f) (hg : ∀ a, K.wf a → f a = g a) : MapIs K val w b n g := by
 obtain ⟨D, h1, h2, h3⟩ := h
 exact ⟨D, h1, h2, fun a ha => by rw [← hg a ha]; exact h3 a ha⟩
theorem MapIs.look {t e : TypeId} (h : MapIs K val w b n f) (ht : P.underlying t = some (.map K.k e)) {z : Value} (hz : (zeroValue e).run P w = .ok z w) (a : κ) (ha : K.wf a) :
  (∀ x, f a = some x → (Instr.lookup t (.map (some b)) (K.key a) false).run P w = .ok (val x) w ∧ (Instr.lookup t (.map (some b)) (K.key a) true).run P w = .ok (.tuple #[val x, .bool true]) w) ∧
  (f a = none → (Instr.lookup t (.map (some b)) (K.key a) false).run P w = .ok z w ∧ (Instr.lookup t (.map (some b)) (K.key a) true).run P w = .ok (.tuple #[z, .bool false]) w) := by
 obtain ⟨D, h1, _, h3⟩ := h
 obtain ⟨v, ps, hr, hv⟩ := h1.lookup K.law ht hz (zd := .held z) (zp := []) rfl (K.hkey a ha)
 obtain ⟨v2, ps2, hr2, hv2⟩ := h1.look_ok K.law ht hz (zd := .held z) (zp := []) rfl (K.hkey a ha)
 refine ⟨fun x hx => ?_, fun hx => ?_⟩
 ·have h4 := (h3 a ha).1 x hx
  rw [h4] at hv hv2
  injection hv with hv
  injection hv2 with hv2
  injection hv with hv _
  injection hv2 with hv2 _
  injection hv with hv
  injection hv2 with hv2
  subst hv hv2
  rw [has_true_of_atKey h4] at hr2
  exact ⟨hr, hr2⟩
 ·have h4 := (h3 a ha).2 hx
  rw [h4] at hv hv2
  injection hv with hv
  injection hv2 with hv2
  injection hv with hv _
  injection hv2 with hv2 _
  injection hv with hv
  injection hv2 with hv2
  subst hv hv2
  rw [has_false_of_atKey h4] at hr2
  exact ⟨hr, hr2⟩
def upd (f : κ → Option ν) [DecidableEq κ] (a : κ) (x : Option ν) : κ → Option ν := fun c => if c = a then x else f c
theorem isKey (K : KeyTy P κ) {a : κ} (ha : K.wf a) : WideAt.IsKeyLit (K.lit a) := K.law.key (K.hkey a ha)
theorem MapIs.put [DecidableEq κ] {t e : TypeId} (h : MapIs K val w b n f) (ht : P.underlying t = some (.map K.k e)) (hn : n < maxLen) (a : κ) (ha : K.wf a) (x : ν) :
  ∃ w', (Instr.mapUpdate t (.map (some b)) (K.key a) (val x)).run P w = .ok () w' ∧ MapIs K val w' b (if (f a).isSome then n else n + 1) (upd f a (some x)) ∧ w.mapTurned w' b := by
 obtain ⟨D, h1, h2, h3⟩ := h
 obtain ⟨w', hr, h4, h5⟩ := h1.store K.law ht hn (K.hkey a ha) (show tokR (val x) = some (.held (val x), []) from rfl)
 have hm := h1.isMap
 have hT := h1.tidy K.law
 have hs : Maps.size (D.put (K.lit a) (.held (val x))) = if (f a).isSome then n else n + 1 := by
  rw [size_put hT, h2]
  cases hf : f a with
  | none => rw [has_false_of_atKey ((h3 a ha).2 hf)]; rfl
  | some y => rw [has_true_of_atKey ((h3 a ha).1 y hf)]; rfl
 refine ⟨w', hr, ⟨_, ?_, hs, fun c hc => ?_⟩, h5⟩
 ·obtain ⟨es, clock, hb, F, hsz, hD⟩ := h4
  refine ⟨es, clock, hb, F, ?_, hD⟩
  rw [← hs, hD]
  simp [Maps.size, length_sorted]
 ·by_cases hca : c = a
  ·subst hca
   refine ⟨fun y hy z => ?_, fun hy => ?_⟩
   ·rw [atKey_put_same hm (isKey K hc)]
    simp [upd] at hy
    rw [hy]
   ·simp [upd] at hy
  ·have hne : K.lit c ≠ K.lit a := fun e => hca (K.inj c a e)
   refine ⟨fun y hy z => ?_, fun hy z => ?_⟩
   ·rw [atKey_put_other hne]
    simp [upd, hca] at hy
    exact (h3 c hc).1 y hy z
   ·rw [atKey_put_other hne]
    simp [upd, hca] at hy
    exact (h3 c hc).2 hy z
theorem MapIs.del [DecidableEq κ] {t e : TypeId} (h : MapIs K val w b n f) (ht : P.underlying t = some (.map K.k e)) (a : κ) (ha : K.wf a) (ty : TypeId) :
  ∃ w', (Builtin.delete_ #[t, K.k] ty #[.map (some b), K.key a]).run P w = .ok (.tuple #[]) w' ∧ MapIs K val w' b (if (f a).isSome then n - 1 else n) (upd f a none) ∧ w.mapTurned w' b := by
 obtain ⟨D, h1, h2, h3⟩ := h
 obtain ⟨w', hr, h4, h5⟩ := h1.drop K.law ht (K.hkey a ha) ty
 have hT := h1.tidy K.law
 have hs : Maps.size (D.del (K.lit a)) = if (f a).isSome then n - 1 else n := by
  have := size_del (k := K.lit a) hT
  rw [h2] at this
  cases hf : f a with
  | none => rw [has_false_of_atKey ((h3 a ha).2 hf)] at this; simpa using this
  | some y => rw [has_true_of_atKey ((h3 a ha).1 y hf)] at this; simp at this ⊢; omega
 refine ⟨w', hr, ⟨_, ?_, hs, fun c hc => ?_⟩, h5⟩
 ·obtain ⟨es, clock, hb, F, hsz, hD⟩ := h4
  refine ⟨es, clock, hb, F, ?_, hD⟩
  rw [← hs, hD]
  simp [Maps.size, length_sorted]
 ·by_cases hca : c = a
  ·subst hca
   refine ⟨fun y hy => ?_, fun hy z => ?_⟩
   ·simp [upd] at hy
   ·exact atKey_del_same z
  ·have hne : K.lit c ≠ K.lit a := fun e => hca (K.inj c a e)
   refine ⟨fun y hy z => ?_, fun hy z => ?_⟩
   ·rw [atKey_del_other hne]
    simp [upd, hca] at hy
    exact (h3 c hc).1 y hy z
   ·rw [atKey_del_other hne]
    simp [upd, hca] at hy
    exact (h3 c hc).2 hy z
theorem turned_fr {b : Nat} (h : w.mapTurned w' b) : Fr (fun k => k = b) w w' := (Fr.refl _ w).grown h.grown (fun k hk _ => by injection hk with e; exact e.symm)
variable {ops : Array Oper} {rest : List Oper} {o : Oper} {a : Act} {Q : Exit → Act → World → Prop}
theorem look_some (hg : o.guard = none) (m x : Operand) (t e : TypeId) (hop : o.op = Op.lookup t m x false) (h : MapIs K val w b n f) (ht : P.underlying t = some (.map K.k e)) {z : Value} (hz : (zeroValue e).run P w = .ok z w) (k : κ) (hk : K.wf k)
  (hm : a.eval m = .map (some b)) (hx : a.eval x = K.key k) (y : ν) (hf : f k = some y) (hK : wpList P ops Q rest (a.put o.dst (val y)) w) : wpList P ops Q (o :: rest) a w := by
 refine wpList_plain hg fun K' hK' => ?_
 have hrun := ((h.look ht hz k hk).1 y hf).1
 unfold Oper.wp
 simp [execOp, hop, hm, hx, hrun, Result.andThen]
 exact hK' _ _ hK
theorem look_none (hg : o.guard = none) (m x : Operand) (t e : TypeId) (hop : o.op = Op.lookup t m x false) (h : MapIs K val w b n f) (ht : P.underlying t = some (.map K.k e)) {z : Value} (hz : (zeroValue e).run P w = .ok z w) (k : κ) (hk : K.wf k)
  (hm : a.eval m = .map (some b)) (hx : a.eval x = K.key k) (hf : f k = none) (hK : wpList P ops Q rest (a.put o.dst z) w) : wpList P ops Q (o :: rest) a w := by
 refine wpList_plain hg fun K' hK' => ?_
 have hrun := ((h.look ht hz k hk).2 hf).1
 unfold Oper.wp
 simp [execOp, hop, hm, hx, hrun, Result.andThen]
 exact hK' _ _ hK
theorem put_map [DecidableEq κ] (hg : o.guard = none) (m x v : Operand) (t e : TypeId) (hop : o.op = Op.mapUpdate t m x v) (h : MapIs K val w b n f) (ht : P.underlying t = some (.map K.k e)) (hn : n < maxLen) (k : κ) (hk : K.wf k) (y : ν)
  (hm : a.eval m = .map (some b)) (hx : a.eval x = K.key k) (hv : a.eval v = val y)
  (hK : ∀ w', MapIs K val w' b (if (f k).isSome then n else n + 1) (upd f k (some y)) → w.mapTurned w' b → wpList P ops Q rest (a.put o.dst undef) w') : wpList P ops Q (o :: rest) a w := by
 refine wpList_plain hg fun K' hK' => ?_
 obtain ⟨w', hrun, r1, r2⟩ := h.put ht hn k hk y
 unfold Oper.wp
 simp [execOp, hop, hm, hx, hv, hrun, Result.andThen]
 exact hK' _ _ (hK w' r1 r2)
end Go.Proofs.YthkhgihjigmkoaaGreat
namespace Go.Proofs.YthkhgihjigmkoaaGreat
open Go.ChangeShapes Go.WideShapes Go.ChangeAt Go.RowKit Go.Maps
def i64B (x : Int) : Prop := -9223372036854775808 ≤ x ∧ x ≤ 9223372036854775807
theorem i64_wf {x : Int} (h : i64B x) : (Lit.int .i64 x).wf = true := by
 obtain ⟨h1, h2⟩ := h
 simp [Lit.wf, IntKind.min, IntKind.max, IntKind.signed, IntKind.bits]
 omega
def intK : KeyTy Tryz.prog Int where
 k := 3
 law := int_keyed Tryz.underlying3
 key := .int .i64
 lit := Lit.int .i64
 wf := i64B
 hkey := fun a h => keyOf_int_mk Tryz.underlying3 (i64_wf h)
 inj := fun a b h => by injection h
theorem zero_int (w : World) : (zeroValue 3).run Tryz.prog w = .ok (.int .i64 0) w := by
 kernel_rfl
def kF (n : Nat) (pl : Bool) (x : Int) : Option Int := if x = 1 ∨ (16 ≤ x ∧ x < 16 + n) ∨ (pl = true ∧ 64 ≤ x ∧ x < 64 + n) then some 1 else none
theorem kF_zero (pl : Bool) (x : Int) : upd (fun _ => none) 1 (some 1) x = kF 0 pl x := by
 unfold upd kF
 by_cases h : x = 1
 ·rw [if_pos h, if_pos (.inl h)]
 ·rw [if_neg h, if_neg (by rintro (h1 | h1 | h1) <;> omega)]
theorem kF_false (n : Nat) (x : Int) : upd (kF n false) (16 + n) (some 1) x = kF (n + 1) false x := by
 unfold upd kF
 by_cases h : x = 16 + n
 ·rw [if_pos h, if_pos (.inr (.inl (by omega)))]
 ·rw [if_neg h]
  by_cases h1 : x = 1 ∨ 16 ≤ x ∧ x < 16 + n
  ·rw [if_pos (by rcases h1 with h1 | h1; exact .inl h1; exact .inr (.inl h1)), if_pos (by rcases h1 with h1 | h1; exact .inl h1; exact .inr (.inl (by omega)))]
  ·rw [if_neg (by rintro (h2 | h2 | h2); exact h1 (.inl h2); exact h1 (.inr h2); exact absurd h2.1 (by decide)), if_neg (by rintro (h2 | h2 | h2); exact h1 (.inl h2); exact h1 (.inr (by omega)); exact absurd h2.1 (by decide))]
theorem kF_true (n : Nat) (hn : n < 16) (x : Int) : upd (upd (kF n true) (16 + n) (some 1)) (64 + n) (some 1) x = kF (n + 1) true x := by
 unfold upd kF
 by_cases h : x = 64 + n
 ·rw [if_pos h, if_pos (.inr (.inr ⟨rfl, by omega⟩))]
 ·rw [if_neg h]
  by_cases h2 : x = 16 + n
  ·rw [if_pos h2, if_pos (.inr (.inl (by omega)))]
  ·rw [if_neg h2]
   by_cases h1 : x = 1 ∨ (16 ≤ x ∧ x < 16 + n) ∨ (64 ≤ x ∧ x < 64 + n)
   ·rw [if_pos (by rcases h1 with h1 | h1 | h1; exact .inl h1; exact .inr (.inl h1); exact .inr (.inr ⟨rfl, h1⟩)), if_pos (by rcases h1 with h1 | h1 | h1; exact .inl h1; exact .inr (.inl (by omega)); exact .inr (.inr ⟨rfl, by omega⟩))]
   ·rw [if_neg (by rintro (h3 | h3 | h3); exact h1 (.inl h3); exact h1 (.inr (.inl h3)); exact h1 (.inr (.inr h3.2))), if_neg (by rintro (h3 | h3 | h3); exact h1 (.inl h3); exact h1 (.inr (.inl (by omega))); exact h1 (.inr (.inr (by omega))))]
def kindsF (n : Nat) (pl : Bool) : Int → Option Int := if n ≤ 16 then kF n pl else fun _ => none
def IntMap (w : World) (b m : Nat) (f : Int → Option Int) : Prop := MapIs intK (Value.int .i64) w b m f
theorem field_kinds (kind : Int) (n : Nat) : (kindsF n false kind).isSome = fieldB kind n := by
 unfold kindsF fieldB
 by_cases h : n ≤ 16
 ·rw [if_pos h]
  unfold kF
  by_cases h1 : kind = 1
  ·simp [h, h1]
  ·by_cases h2 : 16 ≤ kind ∧ kind < 16 + n
   ·rw [if_pos (.inr (.inl h2))]; simp [h, h2]
   ·rw [if_neg (by rintro (h3 | h3 | h3); exact h1 h3; exact h2 h3; exact absurd h3.1 (by decide))]
    have : ¬ (16 ≤ kind ∧ kind < 16 + (n : Int)) := h2
    simp [h1]
    omega
 ·rw [if_neg h]; simp [h]
theorem valid_kinds (kind : Int) (n : Nat) : (kindsF n true kind).isSome = validB kind n := by
 unfold kindsF validB fieldB
 by_cases h : n ≤ 16
 ·rw [if_pos h]
  unfold kF
  by_cases h1 : kind = 1
  ·simp [h, h1]
  ·by_cases h2 : 16 ≤ kind ∧ kind < 16 + n
   ·rw [if_pos (.inr (.inl h2))]; simp [h, h2]
   ·by_cases h4 : 64 ≤ kind ∧ kind < 64 + n
    ·rw [if_pos (.inr (.inr ⟨rfl, h4⟩))]; simp [h, h4]
    ·rw [if_neg (by rintro (h3 | h3 | h3); exact h1 h3; exact h2 h3; exact h4 h3.2)]
     simp [h1]
     omega
 ·rw [if_neg h]; simp [h]
set_option maxRecDepth 100000 in
theorem within_any (w : World) (n m : Int) :
  Calls Tryz.prog 104 #[.int .i64 n, .int .i64 m] w fun e w' => e = .returned (.bool (withinB n m)) ∧ w = w' := by
 unfold withinB
 by_cases h : 0 ≤ n
 ·by_cases h2 : n < m
  ·rw [decide_eq_true h, decide_eq_true h2]
   go_enter Tryz.func104, Tryz.ntmps104
   go_wp2_with fail
   go_ret
   exact ⟨rfl, rfl⟩
  ·rw [decide_eq_true h, decide_eq_false h2]
   go_enter Tryz.func104, Tryz.ntmps104
   go_wp2_with fail
   go_ret
   exact ⟨rfl, rfl⟩
 ·have h0 : decide (0 ≤ n) = false := by simpa using h
  rw [h0, Bool.false_and]
  go_enter Tryz.func104, Tryz.ntmps104
  go_wp2_with fail
  go_ret
  exact ⟨rfl, rfl⟩
set_option maxRecDepth 100000 in
set_option maxHeartbeats 1600000 in
theorem kinds_any (w : World) (n : Nat) (pl : Bool) (hn : n ≤ 100000) :
  Calls Tryz.prog 129 #[.int .i64 n, .bool pl] w fun e w' => ∃ b m, e = .returned (.map (some b)) ∧ IntMap w' b m (kindsF n pl) ∧ w.heap.size ≤ b ∧ Below w.heap.size w w' := by
 have hmk : IntMap (w.alloc (.map #[] 0)) w.heap.size 0 (fun _ => none) := MapIs.made intK _ w
 have hb0 := (Below.refl w.heap.size w).alloc (Nat.le_refl _) (.map #[] 0)
 have hmake : ∀ w, (Instr.makeMap 175 none).run Tryz.prog w = .ok (.map (some w.heap.size)) (w.alloc (.map #[] 0)) := fun w => run_makeMap _ w
 by_cases h16 : n ≤ 16
 case neg =>
  have h16' : (16 : Int) < n := by omega
  have hk : kindsF n pl = fun _ => none := by unfold kindsF; rw [if_neg h16]
  rw [hk]
  clear hk
  have HMK := Lib.hid hmk; clear hmk
  have HB0 := Lib.hid hb0; clear hb0
  go_enter Tryz.func129, Tryz.ntmps129
  go_wp2_with fail
  go_ret
  exact ⟨_, 0, rfl, HMK.out, Nat.le_refl _, HB0.out⟩
 have h16' : ¬ (16 : Int) < n := by omega
 have hk : kindsF n pl = kF n pl := by unfold kindsF; rw [if_pos h16]
 rw [hk]
 clear hk
 have ht : Tryz.prog.underlying 175 = some (.map intK.k 3) := Tryz.underlying175
 have HMK := Lib.hid hmk; clear hmk
 have HB0 := Lib.hid hb0; clear hb0
 have HT := Lib.hid ht; clear ht
 go_enter Tryz.func129, Tryz.ntmps129
 go_upto_region 4 with fail
 have HLM := Lib.hid (show (0 : Nat) < 100 by omega)
 go_wp2_with (first | (refine look_none rfl (.tmp 15) (.const (.int .i64 1)) 175 3 rfl HMK.out HT.out (zero_int _) (1) ⟨by omega, by omega⟩ rfl rfl rfl ?_) | (refine put_map rfl (.tmp 15) (.const (.int .i64 1)) (.tmp 17) 175 3 rfl HMK.out HT.out (by have := HLM.out; unfold maxLen; omega) (1) ⟨by omega, by omega⟩ 1 rfl rfl rfl ?_; intro w1 hm1 ht1))
 have hm2 : IntMap w1 w.heap.size 1 (kF 0 pl) := hm1.congr (fun a _ => kF_zero pl a)
 have hb1 : Below w.heap.size w w1 := HB0.out.trans ((turned_fr ht1).below (by simp) (fun k hk => by omega))
 clear hm1 ht1 HLM
 have HM2 := Lib.hid hm2; clear hm2
 have HB1 := Lib.hid hb1; clear hb1
 go_wp2_with fail
 go_loopw [19] (fun i wr => ∃ j m : Nat, j ≤ n ∧ i = .int .i64 j ∧ IntMap wr w.heap.size m (kF j pl) ∧ m ≤ 1 + 2 * j ∧ Below w.heap.size w wr) (fun i _ => n - (intOf i).toNat)
 case atStart => exact ⟨0, 1, Nat.zero_le _, rfl, HM2.out, by omega, HB1.out⟩
 case round =>
  obtain ⟨j, m, hj, rfl, hm, hmj, hB⟩ := hrel
  by_cases hlt : j < n
  ·have i1 : IntKind.i64.wrap (16 + (j : Int)) = 16 + (j : Int) := IntWalk.i64_in _ (by omega)
   have i2 : IntKind.i64.wrap (64 + (j : Int)) = 64 + (j : Int) := IntWalk.i64_in _ (by omega)
   have n1 : kF j pl (16 + (j : Int)) = none := by unfold kF; rw [if_neg (by rintro (h | h | h) <;> omega)]
   have HLM := Lib.hid (show m < 100 by omega)
   have hz := hB.size
   cases pl
   ·have HN1 := Lib.hid n1
    clear n1
    have HM := Lib.hid hm; clear hm
    have HB := Lib.hid hB; clear hB
    go_upto_region 8 with fail
    go_wp2_with (first | (refine look_none rfl (.tmp 22) (.tmp 24) 175 3 rfl HM.out HT.out (zero_int _) (16 + (j : Int)) ⟨by omega, by omega⟩ rfl rfl HN1.out ?_) | (refine put_map rfl (.tmp 22) (.tmp 24) (.tmp 26) 175 3 rfl HM.out HT.out (by have := HLM.out; unfold maxLen; omega) (16 + (j : Int)) ⟨by omega, by omega⟩ 1 rfl rfl rfl ?_; intro w1 hm1 ht1))
    have hm3 : IntMap w1 w.heap.size _ (kF (j + 1) false) := hm1.congr (fun a _ => kF_false j a)
    have hn3 : (if (kF j false (16 + (j : Int))).isSome then m else m + 1) ≤ 1 + 2 * (j + 1) := by split <;> omega
    have hb3 : Below w.heap.size w w1 := HB.out.trans ((turned_fr ht1).below hz (fun k hk => by omega))
    clear hm1 ht1
    have HM3 := Lib.hid hm3; clear hm3
    have HB3 := Lib.hid hb3; clear hb3
    have HN3 := Lib.hid hn3; clear hn3
    go_wp2_with fail
    go_roundw
    case rel => exact ⟨j + 1, _, by omega, by go_num, HM3.out, HN3.out, HB3.out⟩
    case measure => simp [intOf]; omega
   ·have HN1 := Lib.hid n1
    clear n1
    have HM := Lib.hid hm; clear hm
    have HB := Lib.hid hB; clear hB
    go_upto_region 8 with fail
    go_upto_region 10 with (first | (refine look_none rfl (.tmp 22) (.tmp 24) 175 3 rfl HM.out HT.out (zero_int _) (16 + (j : Int)) ⟨by omega, by omega⟩ rfl rfl HN1.out ?_) | (refine put_map rfl (.tmp 22) (.tmp 24) (.tmp 26) 175 3 rfl HM.out HT.out (by have := HLM.out; unfold maxLen; omega) (16 + (j : Int)) ⟨by omega, by omega⟩ 1 rfl rfl rfl ?_; intro w1 hm1 ht1))
    have hn3 : (if (kF j true (16 + (j : Int))).isSome then m else m + 1) ≤ m + 1 := by split <;> omega
    generalize (if (kF j true (16 + (j : Int))).isSome then m else m + 1) = m1 at *
    have hb3 : Below w.heap.size w w1 := HB.out.trans ((turned_fr ht1).below hz (fun k hk => by omega))
    have n2 : upd (kF j true) (16 + (j : Int)) (some 1) (64 + (j : Int)) = none := by
     unfold upd
     rw [if_neg (by omega)]
     unfold kF
     rw [if_neg (by rintro (h | h | h) <;> omega)]
    have hz3 := hb3.size
    have HN2 := Lib.hid n2
    have HM4 := Lib.hid hm1
    have HLN := Lib.hid (show m1 < 100 by omega)
    clear hm1 ht1 n2
    have HB3 := Lib.hid hb3; clear hb3
    go_wp2_with (first | (refine look_none rfl (.tmp 28) (.tmp 30) 175 3 rfl HM4.out HT.out (zero_int _) (64 + (j : Int)) ⟨by omega, by omega⟩ rfl rfl HN2.out ?_) | (refine put_map rfl (.tmp 28) (.tmp 30) (.tmp 32) 175 3 rfl HM4.out HT.out (by have := HLN.out; unfold maxLen; omega) (64 + (j : Int)) ⟨by omega, by omega⟩ 1 rfl rfl rfl ?_; intro w2 hm2' ht2))
    have hm3 : IntMap w2 w.heap.size _ (kF (j + 1) true) := hm2'.congr (fun a _ => kF_true j (by omega) a)
    have hn4 : (if (upd (kF j true) (16 + (j : Int)) (some 1) (64 + (j : Int))).isSome then m1 else m1 + 1) ≤ 1 + 2 * (j + 1) := by split <;> omega
    have hb4 : Below w.heap.size w w2 := HB3.out.trans ((turned_fr ht2).below hz3 (fun k hk => by omega))
    clear hm2' ht2
    have HM3 := Lib.hid hm3; clear hm3
    have HB4 := Lib.hid hb4; clear hb4
    have HN4 := Lib.hid hn4; clear hn4
    go_wp2_with fail
    go_roundw
    case rel => exact ⟨j + 1, _, by omega, by go_num, HM3.out, HN4.out, HB4.out⟩
    case measure => simp [intOf]; omega
  ·have hk' : j = n := by omega
   subst hk'
   have HM := Lib.hid hm; clear hm
   have HB := Lib.hid hB; clear hB
   go_wp2_with fail
   go_ret
   exact ⟨_, _, rfl, HM.out, Nat.le_refl _, HB.out⟩
theorem kinds_one {n : Nat} {pl : Bool} {kind x : Int} (h : kindsF n pl kind = some x) : x = 1 := by
 unfold kindsF at h
 by_cases hn : n ≤ 16
 ·rw [if_pos hn] at h
  unfold kF at h
  split at h
  ·injection h with h; exact h.symm
  ·cases h
 ·rw [if_neg hn] at h; cases h
set_option maxRecDepth 100000 in
theorem field_any (w : World) (kind : Int) (n : Nat) (hn : n ≤ 100000) (hkd : i64B kind) :
  Calls Tryz.prog 103 #[.int .i64 kind, .int .i64 n] w fun e w' => e = .returned (.bool (fieldB kind n)) ∧ Below w.heap.size w w' := by
 have kn := kinds_any w n false hn
 have ht : Tryz.prog.underlying 175 = some (.map intK.k 3) := Tryz.underlying175
 rw [← field_kinds]
 have KN := Lib.hid kn; clear kn
 have HT := Lib.hid ht; clear ht
 go_enter Tryz.func103, Tryz.ntmps103
 go_wp2_with fail
 refine KN.out.mono ?_
 rintro e w1 ⟨b, m, rfl, hm, hb, hB⟩
 have HM := Lib.hid hm; clear hm
 have HB := Lib.hid hB; clear hB
 cases hk : kindsF n false kind with
 | none =>
  have HK := Lib.hid hk
  clear hk
  go_wp2_with (refine look_none rfl (.tmp 6) (.tmp 7) 175 3 rfl HM.out HT.out (zero_int _) kind hkd rfl rfl HK.out ?_)
  go_ret
  exact ⟨by rw [HK.out]; rfl, HB.out⟩
 | some x =>
  have hx := kinds_one hk
  subst hx
  have HK := Lib.hid hk
  clear hk
  go_wp2_with (refine look_some rfl (.tmp 6) (.tmp 7) 175 3 rfl HM.out HT.out (zero_int _) kind hkd rfl rfl 1 HK.out ?_)
  go_ret
  exact ⟨by rw [HK.out]; rfl, HB.out⟩
set_option maxRecDepth 100000 in
theorem valid_any (w : World) (kind : Int) (n : Nat) (hn : n ≤ 100000) (hkd : i64B kind) :
  Calls Tryz.prog 130 #[.int .i64 kind, .int .i64 n] w fun e w' => e = .returned (.bool (validB kind n)) ∧ Below w.heap.size w w' := by
 have kn := kinds_any w n true hn
 have ht : Tryz.prog.underlying 175 = some (.map intK.k 3) := Tryz.underlying175
 rw [← valid_kinds]
 have KN := Lib.hid kn; clear kn
 have HT := Lib.hid ht; clear ht
 go_enter Tryz.func130, Tryz.ntmps130
 go_wp2_with fail
 refine KN.out.mono ?_
 rintro e w1 ⟨b, m, rfl, hm, hb, hB⟩
 have HM := Lib.hid hm; clear hm
 have HB := Lib.hid hB; clear hB
 cases hk : kindsF n true kind with
 | none =>
  have HK := Lib.hid hk
  clear hk
  go_wp2_with (refine look_none rfl (.tmp 6) (.tmp 7) 175 3 rfl HM.out HT.out (zero_int _) kind hkd rfl rfl HK.out ?_)
  go_ret
  exact ⟨by rw [HK.out]; rfl, HB.out⟩
 | some x =>
  have hx := kinds_one hk
  subst hx
  have HK := Lib.hid hk
  clear hk
  go_wp2_with (refine look_some rfl (.tmp 6) (.tmp 7) 175 3 rfl HM.out HT.out (zero_int _) kind hkd rfl rfl 1 HK.out ?_)
  go_ret
  exact ⟨by rw [HK.out]; rfl, HB.out⟩
end Go.Proofs.YthkhgihjigmkoaaGreat
