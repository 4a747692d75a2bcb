/- Walks: check.within, shape.kinds, shape.Field, shape.Valid, the reference's Field, Valid, IsLoc. Keys that are places. -/
import Derived.Test.YtjcjhfnjamphlaaJAk
import Derived.Test.YtjcjhfnjamphlaaJAf
import Derived.Maps.Keyed
import Derived.DeepKeys4
set_option linter.unusedVariables false
set_option linter.unusedSimpArgs false
namespace Go.Proofs.Ytjcjhfnjamphlaa
open Go.ChangeShapes Go.WideShapes Go.ChangeAt Go.RowKit Go.Maps
def i64B (x : Int) : Prop := -9223372036854775808 ≤ x ∧ x ≤ 9223372036854775807
theorem i64_wf {x : Int} (h : i64B x) : (Lit.int .i64 x).wf = true := by
  obtain ⟨h1, h2⟩ := h
  simp [Lit.wf, IntKind.min, IntKind.max, IntKind.signed, IntKind.bits]
  omega
/-- keys that are numbers -/
def intK : KeyTy Try.prog Int where
  k := 3
  law := int_keyed Try.underlying3
  key := .int .i64
  lit := Lit.int .i64
  wf := i64B
  hkey := fun a h => keyOf_int_mk Try.underlying3 (i64_wf h)
  inj := fun a b h => by injection h
theorem zero_int (w : World) : (zeroValue 3).run Try.prog w = .ok (.int .i64 0) w := by
  kernel_rfl
def kF (n : Nat) (pl : Bool) (x : Int) : Option Int := if x = 1 ∨ (16 ≤ x ∧ x < 16 + n) ∨ (pl = true ∧ 64 ≤ x ∧ x < 64 + n) then some 1 else none
theorem kF_zero (pl : Bool) (x : Int) : upd (fun _ => none) 1 (some 1) x = kF 0 pl x := by
  unfold upd kF
  by_cases h : x = 1
  · rw [if_pos h, if_pos (.inl h)]
  · rw [if_neg h, if_neg (by rintro (h1 | h1 | h1) <;> omega)]
theorem kF_false (n : Nat) (x : Int) : upd (kF n false) (16 + n) (some 1) x = kF (n + 1) false x := by
  unfold upd kF
  by_cases h : x = 16 + n
  · rw [if_pos h, if_pos (.inr (.inl (by omega)))]
  · rw [if_neg h]
    by_cases h1 : x = 1 ∨ 16 ≤ x ∧ x < 16 + n
    · rw [if_pos (by rcases h1 with h1 | h1; exact .inl h1; exact .inr (.inl h1)), if_pos (by rcases h1 with h1 | h1; exact .inl h1; exact .inr (.inl (by omega)))]
    · rw [if_neg (by rintro (h2 | h2 | h2); exact h1 (.inl h2); exact h1 (.inr h2); exact absurd h2.1 (by decide)), if_neg (by rintro (h2 | h2 | h2); exact h1 (.inl h2); exact h1 (.inr (by omega)); exact absurd h2.1 (by decide))]
theorem kF_true (n : Nat) (hn : n < 16) (x : Int) : upd (upd (kF n true) (16 + n) (some 1)) (64 + n) (some 1) x = kF (n + 1) true x := by
  unfold upd kF
  by_cases h : x = 64 + n
  · rw [if_pos h, if_pos (.inr (.inr ⟨rfl, by omega⟩))]
  · rw [if_neg h]
    by_cases h2 : x = 16 + n
    · rw [if_pos h2, if_pos (.inr (.inl (by omega)))]
    · rw [if_neg h2]
      by_cases h1 : x = 1 ∨ (16 ≤ x ∧ x < 16 + n) ∨ (64 ≤ x ∧ x < 64 + n)
      · rw [if_pos (by rcases h1 with h1 | h1 | h1; exact .inl h1; exact .inr (.inl h1); exact .inr (.inr ⟨rfl, h1⟩)), if_pos (by rcases h1 with h1 | h1 | h1; exact .inl h1; exact .inr (.inl (by omega)); exact .inr (.inr ⟨rfl, by omega⟩))]
      · rw [if_neg (by rintro (h3 | h3 | h3); exact h1 (.inl h3); exact h1 (.inr (.inl h3)); exact h1 (.inr (.inr h3.2))), if_neg (by rintro (h3 | h3 | h3); exact h1 (.inl h3); exact h1 (.inr (.inl (by omega))); exact h1 (.inr (.inr (by omega))))]
def kindsF (n : Nat) (pl : Bool) : Int → Option Int := if n ≤ 16 then kF n pl else fun _ => none
def IntMap (w : World) (b m : Nat) (f : Int → Option Int) : Prop := MapIs intK (Value.int .i64) w b m f
theorem field_kinds (kind : Int) (n : Nat) : (kindsF n false kind).isSome = fieldB kind n := by
  unfold kindsF fieldB
  by_cases h : n ≤ 16
  · rw [if_pos h]
    unfold kF
    by_cases h1 : kind = 1
    · simp [h, h1]
    · by_cases h2 : 16 ≤ kind ∧ kind < 16 + n
      · rw [if_pos (.inr (.inl h2))]; simp [h, h2]
      · rw [if_neg (by rintro (h3 | h3 | h3); exact h1 h3; exact h2 h3; exact absurd h3.1 (by decide))]
        have : ¬ (16 ≤ kind ∧ kind < 16 + (n : Int)) := h2
        simp [h1]
        omega
  · rw [if_neg h]; simp [h]
theorem valid_kinds (kind : Int) (n : Nat) : (kindsF n true kind).isSome = validB kind n := by
  unfold kindsF validB fieldB
  by_cases h : n ≤ 16
  · rw [if_pos h]
    unfold kF
    by_cases h1 : kind = 1
    · simp [h, h1]
    · by_cases h2 : 16 ≤ kind ∧ kind < 16 + n
      · rw [if_pos (.inr (.inl h2))]; simp [h, h2]
      · by_cases h4 : 64 ≤ kind ∧ kind < 64 + n
        · rw [if_pos (.inr (.inr ⟨rfl, h4⟩))]; simp [h, h4]
        · rw [if_neg (by rintro (h3 | h3 | h3); exact h1 h3; exact h2 h3; exact h4 h3.2)]
          simp [h1]
          omega
  · rw [if_neg h]; simp [h]

set_option maxRecDepth 100000 in
theorem within_any (w : World) (n m : Int) :
    Calls Try.prog 60 #[.int .i64 n, .int .i64 m] w fun e w' => e = .returned (.bool (withinB n m)) ∧ w = w' := by
  unfold withinB
  by_cases h : 0 ≤ n
  · by_cases h2 : n < m
    · rw [decide_eq_true h, decide_eq_true h2]
      go_enter Try.func60, Try.ntmps60
      go_wp2_with fail
      go_ret
      exact ⟨rfl, rfl⟩
    · rw [decide_eq_true h, decide_eq_false h2]
      go_enter Try.func60, Try.ntmps60
      go_wp2_with fail
      go_ret
      exact ⟨rfl, rfl⟩
  · have h0 : decide (0 ≤ n) = false := by simpa using h
    rw [h0, Bool.false_and]
    go_enter Try.func60, Try.ntmps60
    go_wp2_with fail
    go_ret
    exact ⟨rfl, rfl⟩

set_option maxRecDepth 100000 in
set_option maxHeartbeats 1600000 in
theorem kinds_any (w : World) (n : Nat) (pl : Bool) (hn : n ≤ 100000) :
    Calls Try.prog 80 #[.int .i64 n, .bool pl] w fun e w' => ∃ b m, e = .returned (.map (some b)) ∧ IntMap w' b m (kindsF n pl) ∧ w.heap.size ≤ b ∧ Below w.heap.size w w' := by
  have hmk : IntMap (w.alloc (.map #[] 0)) w.heap.size 0 (fun _ => none) := MapIs.made intK _ w
  have hb0 := (Below.refl w.heap.size w).alloc (Nat.le_refl _) (.map #[] 0)
  have hmake : ∀ w, (Instr.makeMap 109 none).run Try.prog w = .ok (.map (some w.heap.size)) (w.alloc (.map #[] 0)) := fun w => run_makeMap _ w
  by_cases h16 : n ≤ 16
  case neg =>
    have h16' : (16 : Int) < n := by omega
    have hk : kindsF n pl = fun _ => none := by unfold kindsF; rw [if_neg h16]
    rw [hk]
    clear hk
    have HMK := Lib.hid hmk; clear hmk
    have HB0 := Lib.hid hb0; clear hb0
    go_enter Try.func80, Try.ntmps80
    go_wp2_with fail
    go_ret
    exact ⟨_, 0, rfl, HMK.out, Nat.le_refl _, HB0.out⟩
  have h16' : ¬ (16 : Int) < n := by omega
  have hk : kindsF n pl = kF n pl := by unfold kindsF; rw [if_pos h16]
  rw [hk]
  clear hk
  have ht : Try.prog.underlying 109 = some (.map intK.k 3) := Try.underlying109
  have HMK := Lib.hid hmk; clear hmk
  have HB0 := Lib.hid hb0; clear hb0
  have HT := Lib.hid ht; clear ht
  go_enter Try.func80, Try.ntmps80
  go_upto_region 4 with fail
  have HLM := Lib.hid (show (0 : Nat) < 100 by omega)
  go_wp2_with (first | (refine look_none rfl (.tmp 15) (.const (.int .i64 1)) 109 3 rfl HMK.out HT.out (zero_int _) (1) ⟨by omega, by omega⟩ rfl rfl rfl ?_) | (refine put_map rfl (.tmp 15) (.const (.int .i64 1)) (.tmp 17) 109 3 rfl HMK.out HT.out (by have := HLM.out; unfold maxLen; omega) (1) ⟨by omega, by omega⟩ 1 rfl rfl rfl ?_; intro w1 hm1 ht1))
  have hm2 : IntMap w1 w.heap.size 1 (kF 0 pl) := hm1.congr (fun a _ => kF_zero pl a)
  have hb1 : Below w.heap.size w w1 := HB0.out.trans ((turned_fr ht1).below (by simp) (fun k hk => by omega))
  clear hm1 ht1 HLM
  have HM2 := Lib.hid hm2; clear hm2
  have HB1 := Lib.hid hb1; clear hb1
  go_wp2_with fail
  go_loopw [19] (fun i wr => ∃ j m : Nat, j ≤ n ∧ i = .int .i64 j ∧ IntMap wr w.heap.size m (kF j pl) ∧ m ≤ 1 + 2 * j ∧ Below w.heap.size w wr) (fun i _ => n - (intOf i).toNat)
  case atStart => exact ⟨0, 1, Nat.zero_le _, rfl, HM2.out, by omega, HB1.out⟩
  case round =>
    obtain ⟨j, m, hj, rfl, hm, hmj, hB⟩ := hrel
    by_cases hlt : j < n
    · have i1 : IntKind.i64.wrap (16 + (j : Int)) = 16 + (j : Int) := IntWalk.i64_in _ (by omega)
      have i2 : IntKind.i64.wrap (64 + (j : Int)) = 64 + (j : Int) := IntWalk.i64_in _ (by omega)
      have n1 : kF j pl (16 + (j : Int)) = none := by unfold kF; rw [if_neg (by rintro (h | h | h) <;> omega)]
      have HLM := Lib.hid (show m < 100 by omega)
      have hz := hB.size
      cases pl
      · have HN1 := Lib.hid n1
        clear n1
        have HM := Lib.hid hm; clear hm
        have HB := Lib.hid hB; clear hB
        go_upto_region 8 with fail
        go_wp2_with (first | (refine look_none rfl (.tmp 22) (.tmp 24) 109 3 rfl HM.out HT.out (zero_int _) (16 + (j : Int)) ⟨by omega, by omega⟩ rfl rfl HN1.out ?_) | (refine put_map rfl (.tmp 22) (.tmp 24) (.tmp 26) 109 3 rfl HM.out HT.out (by have := HLM.out; unfold maxLen; omega) (16 + (j : Int)) ⟨by omega, by omega⟩ 1 rfl rfl rfl ?_; intro w1 hm1 ht1))
        have hm3 : IntMap w1 w.heap.size _ (kF (j + 1) false) := hm1.congr (fun a _ => kF_false j a)
        have hn3 : (if (kF j false (16 + (j : Int))).isSome then m else m + 1) ≤ 1 + 2 * (j + 1) := by split <;> omega
        have hb3 : Below w.heap.size w w1 := HB.out.trans ((turned_fr ht1).below hz (fun k hk => by omega))
        clear hm1 ht1
        have HM3 := Lib.hid hm3; clear hm3
        have HB3 := Lib.hid hb3; clear hb3
        have HN3 := Lib.hid hn3; clear hn3
        go_wp2_with fail
        go_roundw
        case rel => exact ⟨j + 1, _, by omega, by go_num, HM3.out, HN3.out, HB3.out⟩
        case measure => simp [intOf]; omega
      · have HN1 := Lib.hid n1
        clear n1
        have HM := Lib.hid hm; clear hm
        have HB := Lib.hid hB; clear hB
        go_upto_region 8 with fail
        go_upto_region 10 with (first | (refine look_none rfl (.tmp 22) (.tmp 24) 109 3 rfl HM.out HT.out (zero_int _) (16 + (j : Int)) ⟨by omega, by omega⟩ rfl rfl HN1.out ?_) | (refine put_map rfl (.tmp 22) (.tmp 24) (.tmp 26) 109 3 rfl HM.out HT.out (by have := HLM.out; unfold maxLen; omega) (16 + (j : Int)) ⟨by omega, by omega⟩ 1 rfl rfl rfl ?_; intro w1 hm1 ht1))
        have hn3 : (if (kF j true (16 + (j : Int))).isSome then m else m + 1) ≤ m + 1 := by split <;> omega
        generalize (if (kF j true (16 + (j : Int))).isSome then m else m + 1) = m1 at *
        have hb3 : Below w.heap.size w w1 := HB.out.trans ((turned_fr ht1).below hz (fun k hk => by omega))
        have n2 : upd (kF j true) (16 + (j : Int)) (some 1) (64 + (j : Int)) = none := by
          unfold upd
          rw [if_neg (by omega)]
          unfold kF
          rw [if_neg (by rintro (h | h | h) <;> omega)]
        have hz3 := hb3.size
        have HN2 := Lib.hid n2
        have HM4 := Lib.hid hm1
        have HLN := Lib.hid (show m1 < 100 by omega)
        clear hm1 ht1 n2
        have HB3 := Lib.hid hb3; clear hb3
        go_wp2_with (first | (refine look_none rfl (.tmp 28) (.tmp 30) 109 3 rfl HM4.out HT.out (zero_int _) (64 + (j : Int)) ⟨by omega, by omega⟩ rfl rfl HN2.out ?_) | (refine put_map rfl (.tmp 28) (.tmp 30) (.tmp 32) 109 3 rfl HM4.out HT.out (by have := HLN.out; unfold maxLen; omega) (64 + (j : Int)) ⟨by omega, by omega⟩ 1 rfl rfl rfl ?_; intro w2 hm2' ht2))
        have hm3 : IntMap w2 w.heap.size _ (kF (j + 1) true) := hm2'.congr (fun a _ => kF_true j (by omega) a)
        have hn4 : (if (upd (kF j true) (16 + (j : Int)) (some 1) (64 + (j : Int))).isSome then m1 else m1 + 1) ≤ 1 + 2 * (j + 1) := by split <;> omega
        have hb4 : Below w.heap.size w w2 := HB3.out.trans ((turned_fr ht2).below hz3 (fun k hk => by omega))
        clear hm2' ht2
        have HM3 := Lib.hid hm3; clear hm3
        have HB4 := Lib.hid hb4; clear hb4
        have HN4 := Lib.hid hn4; clear hn4
        go_wp2_with fail
        go_roundw
        case rel => exact ⟨j + 1, _, by omega, by go_num, HM3.out, HN4.out, HB4.out⟩
        case measure => simp [intOf]; omega
    · have hk' : j = n := by omega
      subst hk'
      have HM := Lib.hid hm; clear hm
      have HB := Lib.hid hB; clear hB
      go_wp2_with fail
      go_ret
      exact ⟨_, _, rfl, HM.out, Nat.le_refl _, HB.out⟩
theorem kinds_one {n : Nat} {pl : Bool} {kind x : Int} (h : kindsF n pl kind = some x) : x = 1 := by
  unfold kindsF at h
  by_cases hn : n ≤ 16
  · rw [if_pos hn] at h
    unfold kF at h
    split at h
    · injection h with h; exact h.symm
    · cases h
  · rw [if_neg hn] at h; cases h
set_option maxRecDepth 100000 in
theorem field_any (w : World) (kind : Int) (n : Nat) (hn : n ≤ 100000) (hkd : i64B kind) :
    Calls Try.prog 70 #[.int .i64 kind, .int .i64 n] w fun e w' => e = .returned (.bool (fieldB kind n)) ∧ Below w.heap.size w w' := by
  have kn := kinds_any w n false hn
  have ht : Try.prog.underlying 109 = some (.map intK.k 3) := Try.underlying109
  rw [← field_kinds]
  have KN := Lib.hid kn; clear kn
  have HT := Lib.hid ht; clear ht
  go_enter Try.func70, Try.ntmps70
  go_wp2_with fail
  refine KN.out.mono ?_
  rintro e w1 ⟨b, m, rfl, hm, hb, hB⟩
  have HM := Lib.hid hm; clear hm
  have HB := Lib.hid hB; clear hB
  cases hk : kindsF n false kind with
  | none =>
    have HK := Lib.hid hk
    clear hk
    go_wp2_with (refine look_none rfl (.tmp 6) (.tmp 7) 109 3 rfl HM.out HT.out (zero_int _) kind hkd rfl rfl HK.out ?_)
    go_ret
    exact ⟨by rw [HK.out]; rfl, HB.out⟩
  | some x =>
    have hx := kinds_one hk
    subst hx
    have HK := Lib.hid hk
    clear hk
    go_wp2_with (refine look_some rfl (.tmp 6) (.tmp 7) 109 3 rfl HM.out HT.out (zero_int _) kind hkd rfl rfl 1 HK.out ?_)
    go_ret
    exact ⟨by rw [HK.out]; rfl, HB.out⟩
set_option maxRecDepth 100000 in
theorem valid_any (w : World) (kind : Int) (n : Nat) (hn : n ≤ 100000) (hkd : i64B kind) :
    Calls Try.prog 81 #[.int .i64 kind, .int .i64 n] w fun e w' => e = .returned (.bool (validB kind n)) ∧ Below w.heap.size w w' := by
  have kn := kinds_any w n true hn
  have ht : Try.prog.underlying 109 = some (.map intK.k 3) := Try.underlying109
  rw [← valid_kinds]
  have KN := Lib.hid kn; clear kn
  have HT := Lib.hid ht; clear ht
  go_enter Try.func81, Try.ntmps81
  go_wp2_with fail
  refine KN.out.mono ?_
  rintro e w1 ⟨b, m, rfl, hm, hb, hB⟩
  have HM := Lib.hid hm; clear hm
  have HB := Lib.hid hB; clear hB
  cases hk : kindsF n true kind with
  | none =>
    have HK := Lib.hid hk
    clear hk
    go_wp2_with (refine look_none rfl (.tmp 6) (.tmp 7) 109 3 rfl HM.out HT.out (zero_int _) kind hkd rfl rfl HK.out ?_)
    go_ret
    exact ⟨by rw [HK.out]; rfl, HB.out⟩
  | some x =>
    have hx := kinds_one hk
    subst hx
    have HK := Lib.hid hk
    clear hk
    go_wp2_with (refine look_some rfl (.tmp 6) (.tmp 7) 109 3 rfl HM.out HT.out (zero_int _) kind hkd rfl rfl 1 HK.out ?_)
    go_ret
    exact ⟨by rw [HK.out]; rfl, HB.out⟩
end Go.Proofs.Ytjcjhfnjamphlaa
namespace Go.Proofs.Ytjcjhfnjamphlaa
open Go.ChangeShapes Go.WideShapes Go.ChangeAt Go.RowKit Go.Maps
set_option maxRecDepth 100000 in
theorem plaidOut : laidOutB Try.prog = true := by kernel_rfl
set_option maxRecDepth 100000 in
theorem prow : (34 : TypeId) < Try.prog.types.size := of_decide_eq_true (by kernel_rfl)
set_option maxRecDepth 100000 in
theorem pwide : (match Try.prog.underlying 34 with | some (.array _ _) | some (.struct _) => true | _ => false) = true := by kernel_rfl
set_option maxRecDepth 100000 in
theorem pkeyed : Keyed Try.prog 34 := Keyed.of_law (deep_law_laid plaidOut (m := 2) (by omega) prow (by kernel_rfl) pwide)
set_option maxRecDepth 100000 in
theorem pkey (a b : Int) (ha : i64B a) (hb : i64B b) : ∃ l, keyOf Try.prog 34 (.agg #[.int .i64 a, .int .i64 b]) = some l := by
  have hc : Try.prog.cellsOf 34 = 2 := by kernel_rfl
  have hk : Try.prog.keyType 34 = true := by kernel_rfl
  have hf : (Value.agg #[.int .i64 a, .int .i64 b]).formed Try.prog 34 = true := by simp [Value.formed, Try.underlying34, hc]
  have h1 : ∀ d x, i64B x → Try.prog.keyLits (d + 1) 3 [.int .i64 x] = some [.int .i64 x] := fun d x hx => by
    unfold Program.keyLits
    simp [Try.underlying3, i64_wf hx]
  have hci : Try.prog.cellsOf 3 = 1 := by kernel_rfl
  have h2 : ∀ d, Try.prog.keyLits (d + 2) 34 [.int .i64 a, .int .i64 b] = some [.int .i64 a, .int .i64 b] := fun d => by
    unfold Program.keyLits
    simp [Try.underlying34, hc, hci, h1 d a ha, h1 d b hb]
  obtain ⟨n, hn⟩ : ∃ n, Try.prog.types.size + 1 = n + 2 := ⟨Try.prog.types.size - 1, by have : 0 < Try.prog.types.size := Nat.lt_of_le_of_lt (Nat.zero_le _) prow; omega⟩
  unfold keyOf
  rw [Try.underlying34]
  simp only [hk, hf, Bool.and_self, if_true]
  refine ⟨.string (keyBytes [.int .i64 a, .int .i64 b]), ?_⟩
  rw [hn]
  show Option.map (fun ls => Lit.string (keyBytes ls)) (Try.prog.keyLits (n + 2) 34 [.int .i64 a, .int .i64 b]) = _
  rw [h2]
  rfl
/-- keys that are places -/
noncomputable def plK : KeyTy Try.prog { x : Int × Int // i64B x.1 ∧ i64B x.2 } where
  k := 34
  law := pkeyed
  key := fun x => .agg #[.int .i64 x.1.1, .int .i64 x.1.2]
  lit := fun x => (keyOf Try.prog 34 (.agg #[.int .i64 x.1.1, .int .i64 x.1.2])).getD (.bool true)
  wf := fun _ => True
  hkey := fun x _ => by
    obtain ⟨l, h⟩ := pkey x.1.1 x.1.2 x.2.1 x.2.2
    rw [h]; rfl
  inj := fun x y h => by
    obtain ⟨l, h1⟩ := pkey x.1.1 x.1.2 x.2.1 x.2.2
    obtain ⟨m, h2⟩ := pkey y.1.1 y.1.2 y.2.1 y.2.2
    rw [h1, h2] at h
    have e : l = m := h
    subst e
    have h3 := pkeyed.inj h1 h2
    obtain ⟨⟨x1, x2⟩, _⟩ := x
    obtain ⟨⟨y1, y2⟩, _⟩ := y
    simp at h3
    obtain ⟨rfl, rfl⟩ := h3
    rfl
end Go.Proofs.Ytjcjhfnjamphlaa
