/- Walks: sets of words as maps: roots.put, wide, all; points. -/
import Derived.Test.YtknbllbhakpaaaaGreatHAg
import Derived.Test.YtknbllbhakpaaaaGreatHAc
set_option linter.unusedVariables false
set_option linter.unusedSimpArgs false
namespace Go.Proofs.YtknbllbhakpaaaaGreat
open Go.ChangeShapes Go.WideShapes Go.ChangeAt Go.RowKit Go.Maps
/-- block b is a set of words, of N or less -/
def Seen (w : World) (b N : Nat) (P : Int → Prop) : Prop := ∃ n f, n ≤ N ∧ MapIs intK (Value.int .i64) w b n f ∧ ∀ x, i64B x → ((f x).isSome = true ↔ P x)
theorem Seen.congr {w : World} {b N M : Nat} {P Q : Int → Prop} (h : Seen w b N P) (hq : ∀ x, i64B x → (P x ↔ Q x)) (hm : N ≤ M) : Seen w b M Q := by
  obtain ⟨n, f, h1, h2, h3⟩ := h
  exact ⟨n, f, by omega, h2, fun x hx => (h3 x hx).trans (hq x hx)⟩
theorem Seen.fr {w w' : World} {F : Nat → Prop} {b N : Nat} {P : Int → Prop} (h : Seen w b N P) (hf : Fr F w w') (hn : ¬ F b) : Seen w' b N P := by
  obtain ⟨n, f, h1, h2, h3⟩ := h
  exact ⟨n, f, h1, h2.fr hf hn, h3⟩
theorem Seen.below {w w' : World} {b N : Nat} {P : Int → Prop} (h : Seen w b N P) (hb : Below w.heap.size w w') : Seen w' b N P := h.fr (Fr.of_below hb (fun _ => False)) (fun h => h)
theorem Seen.lt {w : World} {b N : Nat} {P : Int → Prop} (h : Seen w b N P) : b < w.heap.size := by
  obtain ⟨n, f, h1, h2, h3⟩ := h
  exact h2.lt
theorem Seen.made (w : World) (N : Nat) : Seen (w.alloc (.map #[] 0)) w.heap.size N (fun _ => False) := ⟨0, fun _ => none, Nat.zero_le _, MapIs.made _ _ _, fun _ _ => by simp⟩
theorem upd_isSome (f : Int → Option Int) (a x y : Int) : ((upd f a (some y)) x).isSome = true ↔ (f x).isSome = true ∨ x = a := by
  unfold upd
  by_cases h : x = a
  · rw [if_pos h]; simp [h]
  · rw [if_neg h]; simp [h]
set_option maxRecDepth 100000 in
set_option maxHeartbeats 1600000 in
theorem put_any (w : World) (b N : Nat) (P : Int → Prop) (h : Seen w b N P) (D : Nat → Prop) (hD : ∀ k, D k → k ≠ b) (a : Option Addr) (l : List Int) (c : Nat) (hl : IntSl w D a l) (hlB : ∀ x ∈ l, i64B x) (hn : N + l.length ≤ 100000000) :
    Calls Tryz.prog 36 #[.map (some b), .slice a l.length c] w fun e w' => e = .returned (.tuple #[]) ∧ Seen w' b (N + l.length) (fun x => P x ∨ (x ∈ l ∧ x ≠ 0)) ∧ Fr (fun k => k = b) w w' := by
  have ht : Tryz.prog.underlying 100 = some (.map intK.k 3) := Tryz.underlying100
  have HD := Lib.hid hD
  have HL := Lib.hid hl
  have HLB := Lib.hid hlB
  have HS0 := Lib.hid h
  have HT := Lib.hid ht
  clear ht h hl hD hlB
  go_enter Tryz.func36, Tryz.ntmps36
  go_upto_region 1 with fail
  go_wp2_with fail
  go_loopw [8] (fun i wr => ∃ k : Nat, k ≤ l.length ∧ i = .int .i64 k ∧ Seen wr b (N + k) (fun y => P y ∨ (y ∈ l.take k ∧ y ≠ 0)) ∧ Fr (fun q => q = b) w wr) (fun i _ => l.length - (intOf i).toNat)
  case atStart => exact ⟨0, Nat.zero_le _, rfl, HS0.out.congr (fun x _ => by simp) (by omega), Fr.refl _ _⟩
  case round =>
    obtain ⟨k, hk, rfl, hS, hfr⟩ := hrel
    by_cases hlt : k < l.length
    · obtain ⟨x, hxe⟩ : ∃ x, x = l[k] := ⟨_, rfl⟩
      obtain ⟨bb, o, rfl, hbD, hc⟩ := HL.out k hlt
      have hc := hfr.cell hc (HD.out bb hbD)
      have hxb : i64B x := by rw [hxe]; exact HLB.out _ (List.getElem_mem hlt)
      rw [← hxe] at hc
      have HXE := Lib.hid hxe
      clear hxe
      by_cases hx0 : x = 0
      · have hs1 : Seen wr b (N + (k + 1)) (fun y => P y ∨ (y ∈ l.take (k + 1) ∧ y ≠ 0)) := hS.congr (fun y _ => by
          rw [List.take_succ_eq_append_getElem hlt, List.mem_append, List.mem_singleton, ← HXE.out]
          constructor
          · rintro (h | h)
            · exact .inl h
            · exact .inr ⟨.inl h.1, h.2⟩
          · rintro (h | ⟨h | h, h0⟩)
            · exact .inl h
            · exact .inr ⟨h, h0⟩
            · exact absurd (h.trans hx0) h0) (by omega)
        subst hx0
        have hfr1 := hfr
        clear hS hfr hxb
        have HS1 := Lib.hid hs1; clear hs1
        have HFR1 := Lib.hid hfr1; clear hfr1
        go_wp2_with fail
        go_roundw
        case rel => exact ⟨k + 1, hlt, by go_num, HS1.out, HFR1.out⟩
        case measure => simp [intOf]; omega
      · have hxn : (x != 0) = true := by rw [bne_iff_ne]; exact hx0
        have hfr1 := hfr
        clear hfr
        obtain ⟨n, f, hn1, hmp, hpf⟩ := hS
        have hnm : n < maxLen := by unfold maxLen; omega
        cases hf : f x with
        | none =>
          have HMP := Lib.hid hmp; clear hmp
          have HF := Lib.hid hf; clear hf
          have HFR1 := Lib.hid hfr1; clear hfr1
          have HX0 := Lib.hid hx0; clear hx0
          have HXB := Lib.hid hxb; clear hxb
          go_wp2_with (first | (refine look_none rfl (.tmp 14) (.tmp 15) 100 3 rfl HMP.out HT.out (zero_int _) x HXB.out rfl rfl HF.out ?_) | (refine put_map rfl (.tmp 14) (.tmp 15) (.tmp 17) 100 3 rfl HMP.out HT.out hnm x HXB.out _ rfl rfl rfl ?_; intro w1 hm1 ht1))
          have hs1 : Seen w1 b (N + (k + 1)) (fun y => P y ∨ (y ∈ l.take (k + 1) ∧ y ≠ 0)) := ⟨_, _, by split <;> omega, hm1, fun y hy => by
            rw [upd_isSome, hpf y hy, List.take_succ_eq_append_getElem hlt]
            have := HX0.out
            have := HXE.out
            show (P y ∨ y ∈ List.take k l ∧ y ≠ 0) ∨ y = x ↔ (P y ∨ y ∈ List.take k l ++ [l[k]] ∧ y ≠ 0)
            rw [List.mem_append, List.mem_singleton]
            constructor
            · rintro ((h | h) | h)
              · exact .inl h
              · exact .inr ⟨.inl h.1, h.2⟩
              · subst h; exact .inr ⟨.inr (by omega), HX0.out⟩
            · rintro (h | ⟨h | h, h0⟩)
              · exact .inl (.inl h)
              · exact .inl (.inr ⟨h, h0⟩)
              · exact .inr (by omega)⟩
          have hfr2 := HFR1.out.trans (turned_fr ht1) (fun _ _ h => h)
          clear hm1 ht1 HMP
          have HS1 := Lib.hid hs1; clear hs1
          have HFR2 := Lib.hid hfr2; clear hfr2
          go_wp2_with fail
          go_roundw
          case rel => exact ⟨k + 1, hlt, by go_num, HS1.out, HFR2.out⟩
          case measure => simp [intOf]; omega
        | some z =>
          have HMP := Lib.hid hmp; clear hmp
          have HF := Lib.hid hf; clear hf
          have HFR1 := Lib.hid hfr1; clear hfr1
          have HX0 := Lib.hid hx0; clear hx0
          have HXB := Lib.hid hxb; clear hxb
          go_wp2_with (first | (refine look_some rfl (.tmp 14) (.tmp 15) 100 3 rfl HMP.out HT.out (zero_int _) x HXB.out rfl rfl z HF.out ?_) | (refine put_map rfl (.tmp 14) (.tmp 15) (.tmp 17) 100 3 rfl HMP.out HT.out hnm x HXB.out _ rfl rfl rfl ?_; intro w1 hm1 ht1))
          have hs1 : Seen w1 b (N + (k + 1)) (fun y => P y ∨ (y ∈ l.take (k + 1) ∧ y ≠ 0)) := ⟨_, _, by split <;> omega, hm1, fun y hy => by
            rw [upd_isSome, hpf y hy, List.take_succ_eq_append_getElem hlt]
            have := HX0.out
            have := HXE.out
            show (P y ∨ y ∈ List.take k l ∧ y ≠ 0) ∨ y = x ↔ (P y ∨ y ∈ List.take k l ++ [l[k]] ∧ y ≠ 0)
            rw [List.mem_append, List.mem_singleton]
            constructor
            · rintro ((h | h) | h)
              · exact .inl h
              · exact .inr ⟨.inl h.1, h.2⟩
              · subst h; exact .inr ⟨.inr (by omega), HX0.out⟩
            · rintro (h | ⟨h | h, h0⟩)
              · exact .inl (.inl h)
              · exact .inl (.inr ⟨h, h0⟩)
              · exact .inr (by omega)⟩
          have hfr2 := HFR1.out.trans (turned_fr ht1) (fun _ _ h => h)
          clear hm1 ht1 HMP
          have HS1 := Lib.hid hs1; clear hs1
          have HFR2 := Lib.hid hfr2; clear hfr2
          go_wp2_with fail
          go_roundw
          case rel => exact ⟨k + 1, hlt, by go_num, HS1.out, HFR2.out⟩
          case measure => simp [intOf]; omega
    · have hk' : k = l.length := by omega
      subst hk'
      have hs1 := hS.congr (Q := fun y => P y ∨ (y ∈ l ∧ y ≠ 0)) (fun y _ => by rw [List.take_length]) (Nat.le_refl _)
      clear hS
      have HS1 := Lib.hid hs1; clear hs1
      have HFR := Lib.hid hfr; clear hfr
      go_wp2_with fail
      go_end0
      exact ⟨rfl, HS1.out, HFR.out⟩
def heapB (x : Int) : Bool := decide (1048576 ≤ x) && decide (x < 1050624)
theorem heapW_any (w : World) (x : Int) : Calls Tryz.prog 124 #[.int .i64 x] w fun e w' => e = .returned (.bool (heapB x)) ∧ w = w' := by
  unfold heapB
  go_enter Tryz.func124, Tryz.ntmps124
  go_wp2
  all_goals
    go_ret
    exact ⟨by simp [*]; try omega, rfl⟩
theorem heapB_ne {x : Int} (h : heapB x = true) : x ≠ 0 := fun e => by rw [e] at h; exact absurd h (by decide)
set_option maxRecDepth 100000 in
set_option maxHeartbeats 1600000 in
theorem wide_any (w : World) (b N : Nat) (P : Int → Prop) (h : Seen w b N P) (D : Nat → Prop) (hD : ∀ k, D k → k ≠ b) (a : Option Addr) (l : List Int) (c : Nat) (hl : IntSl w D a l) (hlB : ∀ x ∈ l, i64B x) (hn : N + l.length ≤ 100000000) :
    Calls Tryz.prog 84 #[.map (some b), .slice a l.length c] w fun e w' => e = .returned (.tuple #[]) ∧ Seen w' b (N + l.length) (fun x => P x ∨ (x ∈ l ∧ heapB x = true)) ∧ Fr (fun k => k = b) w w' := by
  have ht : Tryz.prog.underlying 100 = some (.map intK.k 3) := Tryz.underlying100
  have HW := Lib.hid heapW_any
  have HD := Lib.hid hD
  have HL := Lib.hid hl
  have HLB := Lib.hid hlB
  have HS0 := Lib.hid h
  have HT := Lib.hid ht
  clear ht h hl hD hlB
  go_enter Tryz.func84, Tryz.ntmps84
  go_upto_region 1 with fail
  go_wp2_with fail
  go_loopw [8] (fun i wr => ∃ k : Nat, k ≤ l.length ∧ i = .int .i64 k ∧ Seen wr b (N + k) (fun y => P y ∨ (y ∈ l.take k ∧ heapB y = true)) ∧ Fr (fun q => q = b) w wr) (fun i _ => l.length - (intOf i).toNat)
  case atStart => exact ⟨0, Nat.zero_le _, rfl, HS0.out.congr (fun x _ => by simp) (by omega), Fr.refl _ _⟩
  case round =>
    obtain ⟨k, hk, rfl, hS, hfr⟩ := hrel
    by_cases hlt : k < l.length
    · obtain ⟨x, hxe⟩ : ∃ x, x = l[k] := ⟨_, rfl⟩
      obtain ⟨bb, o, rfl, hbD, hc⟩ := HL.out k hlt
      have hc := hfr.cell hc (HD.out bb hbD)
      have hxb : i64B x := by rw [hxe]; exact HLB.out _ (List.getElem_mem hlt)
      rw [← hxe] at hc
      have HXE := Lib.hid hxe
      clear hxe
      have hw := HW.out wr x
      have hfr1 := hfr
      clear hfr
      cases hx0 : heapB x with
      | false =>
        rw [hx0] at hw
        have hs1 : Seen wr b (N + (k + 1)) (fun y => P y ∨ (y ∈ l.take (k + 1) ∧ heapB y = true)) := hS.congr (fun y _ => by
          rw [List.take_succ_eq_append_getElem hlt, List.mem_append, List.mem_singleton, ← HXE.out]
          constructor
          · rintro (h | h)
            · exact .inl h
            · exact .inr ⟨.inl h.1, h.2⟩
          · rintro (h | ⟨h | h, h0⟩)
            · exact .inl h
            · exact .inr ⟨h, h0⟩
            · subst h; rw [hx0] at h0; cases h0) (by omega)
        clear hS hxb hx0
        have HS1 := Lib.hid hs1; clear hs1
        have HFR1 := Lib.hid hfr1; clear hfr1
        have HW := Lib.hid hw; clear hw
        go_wp2_with fail
        refine HW.out.mono ?_
        rintro e w' ⟨rfl, rfl⟩
        go_wp2_with fail
        go_roundw
        case rel => exact ⟨k + 1, hlt, by go_num, HS1.out, HFR1.out⟩
        case measure => simp [intOf]; omega
      | true =>
        rw [hx0] at hw
        have HW := Lib.hid hw; clear hw
        go_wp2_with fail
        refine HW.out.mono ?_
        rintro e w' ⟨rfl, rfl⟩
        clear HW
        obtain ⟨n, f, hn1, hmp, hpf⟩ := hS
        have hnm : n < maxLen := by unfold maxLen; omega
        cases hf : f x with
        | none =>
          have HMP := Lib.hid hmp; clear hmp
          have HF := Lib.hid hf; clear hf
          have HFR1 := Lib.hid hfr1; clear hfr1
          have HX0 := Lib.hid hx0; clear hx0
          have HXB := Lib.hid hxb; clear hxb
          go_wp2_with (first | (refine look_none rfl (.tmp 14) (.tmp 15) 100 3 rfl HMP.out HT.out (zero_int _) x HXB.out rfl rfl HF.out ?_) | (refine put_map rfl (.tmp 14) (.tmp 15) (.tmp 17) 100 3 rfl HMP.out HT.out hnm x HXB.out _ rfl rfl rfl ?_; intro w1 hm1 ht1))
          have hs1 : Seen w1 b (N + (k + 1)) (fun y => P y ∨ (y ∈ l.take (k + 1) ∧ heapB y = true)) := ⟨_, _, by split <;> omega, hm1, fun y hy => by
            rw [upd_isSome, hpf y hy, List.take_succ_eq_append_getElem hlt]
            have := HX0.out
            have := HXE.out
            show (P y ∨ y ∈ List.take k l ∧ heapB y = true) ∨ y = x ↔ (P y ∨ y ∈ List.take k l ++ [l[k]] ∧ heapB y = true)
            rw [List.mem_append, List.mem_singleton]
            constructor
            · rintro ((h | h) | h)
              · exact .inl h
              · exact .inr ⟨.inl h.1, h.2⟩
              · subst h; exact .inr ⟨.inr (by omega), HX0.out⟩
            · rintro (h | ⟨h | h, h0⟩)
              · exact .inl (.inl h)
              · exact .inl (.inr ⟨h, h0⟩)
              · exact .inr (by omega)⟩
          have hfr2 := HFR1.out.trans (turned_fr ht1) (fun _ _ h => h)
          clear hm1 ht1 HMP
          have HS1 := Lib.hid hs1; clear hs1
          have HFR2 := Lib.hid hfr2; clear hfr2
          go_wp2_with fail
          go_roundw
          case rel => exact ⟨k + 1, hlt, by go_num, HS1.out, HFR2.out⟩
          case measure => simp [intOf]; omega
        | some z =>
          have HMP := Lib.hid hmp; clear hmp
          have HF := Lib.hid hf; clear hf
          have HFR1 := Lib.hid hfr1; clear hfr1
          have HX0 := Lib.hid hx0; clear hx0
          have HXB := Lib.hid hxb; clear hxb
          go_wp2_with (first | (refine look_some rfl (.tmp 14) (.tmp 15) 100 3 rfl HMP.out HT.out (zero_int _) x HXB.out rfl rfl z HF.out ?_) | (refine put_map rfl (.tmp 14) (.tmp 15) (.tmp 17) 100 3 rfl HMP.out HT.out hnm x HXB.out _ rfl rfl rfl ?_; intro w1 hm1 ht1))
          have hs1 : Seen w1 b (N + (k + 1)) (fun y => P y ∨ (y ∈ l.take (k + 1) ∧ heapB y = true)) := ⟨_, _, by split <;> omega, hm1, fun y hy => by
            rw [upd_isSome, hpf y hy, List.take_succ_eq_append_getElem hlt]
            have := HX0.out
            have := HXE.out
            show (P y ∨ y ∈ List.take k l ∧ heapB y = true) ∨ y = x ↔ (P y ∨ y ∈ List.take k l ++ [l[k]] ∧ heapB y = true)
            rw [List.mem_append, List.mem_singleton]
            constructor
            · rintro ((h | h) | h)
              · exact .inl h
              · exact .inr ⟨.inl h.1, h.2⟩
              · subst h; exact .inr ⟨.inr (by omega), HX0.out⟩
            · rintro (h | ⟨h | h, h0⟩)
              · exact .inl (.inl h)
              · exact .inl (.inr ⟨h, h0⟩)
              · exact .inr (by omega)⟩
          have hfr2 := HFR1.out.trans (turned_fr ht1) (fun _ _ h => h)
          clear hm1 ht1 HMP
          have HS1 := Lib.hid hs1; clear hs1
          have HFR2 := Lib.hid hfr2; clear hfr2
          go_wp2_with fail
          go_roundw
          case rel => exact ⟨k + 1, hlt, by go_num, HS1.out, HFR2.out⟩
          case measure => simp [intOf]; omega
    · have hk' : k = l.length := by omega
      subst hk'
      have hs1 := hS.congr (Q := fun y => P y ∨ (y ∈ l ∧ heapB y = true)) (fun y _ => by rw [List.take_length]) (Nat.le_refl _)
      clear hS
      have HS1 := Lib.hid hs1; clear hs1
      have HFR := Lib.hid hfr; clear hfr
      go_wp2_with fail
      go_end0
      exact ⟨rfl, HS1.out, HFR.out⟩
/-- a rising list -/
def Rising (l : List Int) : Prop := l.Pairwise (fun x y => x < y)
theorem Rising.eq {l m : List Int} (hl : Rising l) (hm : Rising m) (h : ∀ x, x ∈ l ↔ x ∈ m) : l = m := by
  have n1 : l.Nodup := hl.imp fun {a b} h e => by omega
  have n2 : m.Nodup := hm.imp fun {a b} h e => by omega
  exact List.Perm.eq_of_pairwise (fun a b _ _ h1 h2 => by omega) (hl.imp fun {a b} h => Int.le_of_lt h) (hm.imp fun {a b} h => Int.le_of_lt h) ((List.perm_ext_iff_of_nodup n1 n2).2 h)
theorem flat_int (l : List Int) : l.flatMap intE.enc = l.map (Value.int .i64) := by
  induction l with
  | nil => rfl
  | cons x l ih => rw [List.flatMap_cons, List.map_cons, ih]; rfl
theorem all_any (w : World) (b N : Nat) (P : Int → Prop) (h : Seen w b N P) (hN : N ≤ 100000000) :
    Calls Tryz.prog 37 #[.map (some b)] w fun e w' => ∃ v l, e = .returned v ∧ Own intE w' w.heap.size v l ∧ Rising l ∧ (∀ x, x ∈ l ↔ (i64B x ∧ P x)) ∧ l.length ≤ N ∧ (v = .slice none 0 0 ↔ l = []) ∧ Below w.heap.size w w' := by
  obtain ⟨n, f, hn, hmp, hpf⟩ := h
  obtain ⟨Dt, hown, hsz, hat⟩ := hmp
  have hku : Tryz.prog.underlying 3 = some (.int .i64) := Tryz.underlying3
  obtain ⟨es, hes, hpw, _⟩ := hown.entries intK.law
  obtain ⟨es', hes', hko⟩ := hown.keysOf
  obtain rfl : es = es' := by rw [hes] at hes'; simpa using hes'
  have hwf := intKeys_wf hown hku
  have hks : ∀ p ∈ es, ∃ x, p.1 = .int .i64 x := fun p hp => by obtain ⟨v, hv⟩ := hko p hp; obtain ⟨x, _, hx, _⟩ := Maps.keyOf_i64 hku hv; exact ⟨x, hx⟩
  have hmem : ∀ x, x ∈ intKeys Dt ↔ has Dt (.int .i64 x) = true := fun x => by
    rw [hes, has_eq, List.any_eq_true]
    show x ∈ es.map (fun p => Go.intOf p.1) ↔ _
    rw [List.mem_map]
    constructor
    · rintro ⟨p, hp', rfl⟩
      obtain ⟨a, ha⟩ := hks p hp'
      exact ⟨p, hp', by rw [ha]; simp [Lit.sameKey, Go.intOf]⟩
    · rintro ⟨p, hp', hs⟩
      obtain ⟨a, ha⟩ := hks p hp'
      rw [ha] at hs
      exact ⟨p, hp', by rw [ha]; simpa [Lit.sameKey, Go.intOf] using hs⟩
  have hwf2 : ∀ x, (Lit.int .i64 x).wf = true → i64B x := fun x hx => by
    simp [Lit.wf, IntKind.min, IntKind.max, IntKind.signed, IntKind.bits] at hx
    unfold i64B; omega
  have hset : ∀ x, x ∈ intKeys Dt ↔ (i64B x ∧ P x) := fun x => by
    constructor
    · intro hx
      have hb := hwf2 x (hwf x hx)
      refine ⟨hb, (hpf x hb).1 ?_⟩
      cases hf : f x with
      | none =>
        have h9 : has Dt (.int .i64 x) = false := has_false_of_atKey ((hat x hb).2 hf)
        rw [(hmem x).1 hx] at h9
        cases h9
      | some y => rfl
    · rintro ⟨hb, hp⟩
      have hs := (hpf x hb).2 hp
      cases hf : f x with
      | none => rw [hf] at hs; cases hs
      | some y => exact (hmem x).2 (has_true_of_atKey ((hat x hb).1 y hf))
  have hnd : (intKeys Dt).Nodup := by
    rw [hes]
    show (es.map fun p => Go.intOf p.1).Nodup
    refine List.pairwise_map.2 (hpw.imp_of_mem fun {p q} hp' hq' hne e => hne ?_)
    obtain ⟨a, ha⟩ := hks p hp'
    obtain ⟨b, hb⟩ := hks q hq'
    rw [ha, hb] at e ⊢
    exact congrArg _ e
  have hlen : (intKeys Dt).length = n := by
    rw [← hsz, hes]
    show (es.map fun p => Go.intOf p.1).length = es.length
    simp
  refine (all_keys b n Dt tokR w hown (by rw [hsz]; unfold maxLen; omega) (by rw [hsz]; omega)).mono ?_
  rintro e w' ⟨v, ss, rfl, hperm, hrow, hnil, hb⟩
  have tr : ∀ a b c : Int, (fun x y : Int => decide (x ≤ y)) a b = true → (fun x y : Int => decide (x ≤ y)) b c = true → (fun x y : Int => decide (x ≤ y)) a c = true := fun a b c h1 h2 => by simp only [decide_eq_true_eq] at *; omega
  have tot : ∀ a b : Int, ((fun x y : Int => decide (x ≤ y)) a b || (fun x y : Int => decide (x ≤ y)) b a) = true := fun a b => by simp only [Bool.or_eq_true, decide_eq_true_eq]; omega
  have hms := List.mergeSort_perm ss (fun x y : Int => decide (x ≤ y))
  have hsn : (ss.mergeSort (fun x y : Int => decide (x ≤ y))).Nodup := (hms.trans hperm).nodup_iff.2 hnd
  refine ⟨v, ss.mergeSort (fun x y => decide (x ≤ y)), rfl, ?_, ?_, fun x => ?_, ?_, ?_, hb⟩
  · show w'.ownsRow w.heap.size intE.e intE.size v _ _
    rw [flat_int, hms.length_eq]
    exact hrow
  · have h1 := List.pairwise_mergeSort tr tot ss
    have h2 : (ss.mergeSort (fun x y : Int => decide (x ≤ y))).Pairwise (fun a b => a ≠ b) := hsn
    exact (h1.and h2).imp fun {a b} h => by have := h.1; simp only [decide_eq_true_eq] at this; have := h.2; omega
  · rw [(hms.trans hperm).mem_iff]
    exact hset x
  · rw [(hms.trans hperm).length_eq, hlen]; exact hn
  · rw [hnil]
    constructor
    · rintro rfl; simp
    · intro e
      have := hms.length_eq
      rw [e] at this
      exact List.length_eq_zero_iff.1 this.symm
/-- is a kind that of a pointer? -/
def ptrB (k : Int) : Bool := decide (16 ≤ k) && decide (k < 32)
theorem points_any (w : World) (k : Int) (hk : i64B k) : Calls Tryz.prog 35 #[.int .i64 k] w fun e w' => e = .returned (.bool (ptrB k)) ∧ w = w' := by
  unfold ptrB
  unfold i64B at hk
  go_enter Tryz.func35, Tryz.ntmps35
  go_wp2
  all_goals
    go_ret
    exact ⟨by simp [*]; try omega, rfl⟩
end Go.Proofs.YtknbllbhakpaaaaGreat
