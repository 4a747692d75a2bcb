/- Walk: which slots an instruction reads. What may be: kinds, shapes, instructions, functions, programs; the two ways to tell it come to the same. Nothing of the program's text stands here. -/
import Derived.Test.YtknbllbhakpaaaaGreatHAe
import Derived.Test.YtknbllbhakpaaaaGreatHAd
import Derived.Test.YtknbllbhakpaaaaGreatHAc
import Derived.Deep.RegionLaw
import Derived.Deep.RegionHeld3
set_option linter.unusedVariables false
set_option linter.unusedSimpArgs false
namespace Go.Proofs.YtknbllbhakpaaaaGreat
open Go.ChangeShapes Go.WideShapes Go.ChangeAt Go.RowKit
/-- how many arguments count -/
def nArgs (args : Int) : Nat := (min (max args 0) 16).toNat
def argSlots (c : Int) (n : Nat) : List Int := (List.range n).map fun k : Nat => wrap64 (c + (k : Int))
def readsL (x : Ins) (args : Int) : List Int :=
  if x.op ∈ [2, 12, 14, 17, 19] then [x.b]
  else if x.op ∈ [3, 4, 5, 6, 7, 8] then onceL [x.b, x.c]
  else if x.op ∈ [10, 29] then [x.a]
  else if x.op ∈ [15, 20] then onceL [x.a, x.c]
  else if x.op ∈ [25] then onceL [x.a, x.b]
  else if x.op ∈ [21, 23, 24] then argSlots x.c (nArgs args)
  else []
theorem argSlots_snoc (c : Int) (n : Nat) : argSlots c (n + 1) = argSlots c n ++ [wrap64 (c + (n : Int))] := by simp [argSlots, List.range_succ]
theorem argSlots_len (c : Int) (n : Nat) : (argSlots c n).length = n := by simp [argSlots]
theorem nArgs_le (args : Int) : nArgs args ≤ 16 ∧ (nArgs args : Int) = min (max args 0) 16 := by unfold nArgs; omega
theorem once_new (w : World) (l : List Int) (hl : l.length ≤ 100) (g : Nat) (hg : g = w.heap.size) : Calls Tryz.prog 185 #[.slice (some ⟨g, 0, none⟩) l.length l.length] (w.alloc (.cells (l.map (Value.int .i64)).toArray 3)) fun e w' => ∃ v, e = .returned v ∧ Own intE w' (w.heap.size + 1) v (onceL l) ∧ Below w.heap.size w w' := by
  subst hg
  refine (once_any _ _ _ l l.length (int_new w l) (by omega)).mono ?_
  rintro e w' ⟨v, rfl, ho, hb⟩
  have hs : (w.alloc (.cells (l.map (Value.int .i64)).toArray 3)).heap.size = w.heap.size + 1 := by simp
  rw [hs] at ho hb
  exact ⟨v, rfl, ho, ((Below.refl _ _).alloc (Nat.le_refl _) _).trans (hb.mono (by omega))⟩
def ReadsSaid (x : Ins) (args : Int) (w : World) (e : Ending) (w' : World) : Prop := ∃ v, e = .returned v ∧ Own intE w' w.heap.size v (readsL x args) ∧ Below w.heap.size w w'
set_option maxRecDepth 100000 in
set_option maxHeartbeats 4000000 in
theorem reads_b (w : World) (op a b c args : Int) (hop : op ∈ [2,12,14,17,19]) : Calls Tryz.prog 161 #[.agg #[.int .i64 op, .int .i64 a, .int .i64 b, .int .i64 c], .int .i64 args] w (ReadsSaid ⟨op, a, b, c⟩ args w) := by
  have ho := fun w g hg => once_new w [b] (by simp) g hg
  have hm : ([b].map (Value.int .i64)).toArray = #[.int .i64 b] := rfl
  rw [hm] at ho
  clear hm
  have HO := Lib.hid ho; clear ho
  simp only [List.mem_cons, List.not_mem_nil, or_false] at hop
  have hfin : readsL ⟨op, a, b, c⟩ args = onceL [b] := by rcases hop with rfl|rfl|rfl|rfl|rfl <;> rfl
  have hsz : ∀ o, (w.alloc o).heap.size = w.heap.size + 1 := fun o => by simp
  have HFIN := Lib.hid hfin; clear hfin
  have HSZ := Lib.hid hsz; clear hsz
  rcases hop with rfl|rfl|rfl|rfl|rfl
  all_goals
    go_enter Tryz.func161, Tryz.ntmps161
    go_wp2_with fail
    refine (HO.out _ _ (by simp)).mono ?_
    rintro e w1 ⟨v, rfl, hown, hb⟩
    have hP : ReadsSaid ⟨_, a, b, c⟩ args w (.returned v) w1 := ⟨v, rfl, by rw [HFIN.out]; exact Own.base hown (fun k hk => by have := (hown.lt hk).1; rw [HSZ.out] at this; omega), ((Below.refl _ _).alloc (Nat.le_refl _) _).trans (hb.mono (by rw [HSZ.out]; omega))⟩
    have HP := Lib.hid hP
    clear hP hown hb
    go_wp2_with fail
    go_ret
    exact HP.out
set_option maxRecDepth 100000 in
set_option maxHeartbeats 4000000 in
theorem reads_bc (w : World) (op a b c args : Int) (hop : op ∈ [3,4,5,6,7,8]) : Calls Tryz.prog 161 #[.agg #[.int .i64 op, .int .i64 a, .int .i64 b, .int .i64 c], .int .i64 args] w (ReadsSaid ⟨op, a, b, c⟩ args w) := by
  have ho := fun w g hg => once_new w [b,c] (by simp) g hg
  have hm : ([b,c].map (Value.int .i64)).toArray = #[.int .i64 b,.int .i64 c] := rfl
  rw [hm] at ho
  clear hm
  have HO := Lib.hid ho; clear ho
  simp only [List.mem_cons, List.not_mem_nil, or_false] at hop
  have hfin : readsL ⟨op, a, b, c⟩ args = onceL [b,c] := by rcases hop with rfl|rfl|rfl|rfl|rfl|rfl <;> rfl
  have hsz : ∀ o, (w.alloc o).heap.size = w.heap.size + 1 := fun o => by simp
  have HFIN := Lib.hid hfin; clear hfin
  have HSZ := Lib.hid hsz; clear hsz
  rcases hop with rfl|rfl|rfl|rfl|rfl|rfl
  all_goals
    go_enter Tryz.func161, Tryz.ntmps161
    go_wp2_with fail
    refine (HO.out _ _ (by simp)).mono ?_
    rintro e w1 ⟨v, rfl, hown, hb⟩
    have hP : ReadsSaid ⟨_, a, b, c⟩ args w (.returned v) w1 := ⟨v, rfl, by rw [HFIN.out]; exact Own.base hown (fun k hk => by have := (hown.lt hk).1; rw [HSZ.out] at this; omega), ((Below.refl _ _).alloc (Nat.le_refl _) _).trans (hb.mono (by rw [HSZ.out]; omega))⟩
    have HP := Lib.hid hP
    clear hP hown hb
    go_wp2_with fail
    go_ret
    exact HP.out
set_option maxRecDepth 100000 in
set_option maxHeartbeats 4000000 in
theorem reads_a (w : World) (op a b c args : Int) (hop : op ∈ [10,29]) : Calls Tryz.prog 161 #[.agg #[.int .i64 op, .int .i64 a, .int .i64 b, .int .i64 c], .int .i64 args] w (ReadsSaid ⟨op, a, b, c⟩ args w) := by
  have ho := fun w g hg => once_new w [a] (by simp) g hg
  have hm : ([a].map (Value.int .i64)).toArray = #[.int .i64 a] := rfl
  rw [hm] at ho
  clear hm
  have HO := Lib.hid ho; clear ho
  simp only [List.mem_cons, List.not_mem_nil, or_false] at hop
  have hfin : readsL ⟨op, a, b, c⟩ args = onceL [a] := by rcases hop with rfl|rfl <;> rfl
  have hsz : ∀ o, (w.alloc o).heap.size = w.heap.size + 1 := fun o => by simp
  have HFIN := Lib.hid hfin; clear hfin
  have HSZ := Lib.hid hsz; clear hsz
  rcases hop with rfl|rfl
  all_goals
    go_enter Tryz.func161, Tryz.ntmps161
    go_wp2_with fail
    refine (HO.out _ _ (by simp)).mono ?_
    rintro e w1 ⟨v, rfl, hown, hb⟩
    have hP : ReadsSaid ⟨_, a, b, c⟩ args w (.returned v) w1 := ⟨v, rfl, by rw [HFIN.out]; exact Own.base hown (fun k hk => by have := (hown.lt hk).1; rw [HSZ.out] at this; omega), ((Below.refl _ _).alloc (Nat.le_refl _) _).trans (hb.mono (by rw [HSZ.out]; omega))⟩
    have HP := Lib.hid hP
    clear hP hown hb
    go_wp2_with fail
    go_ret
    exact HP.out
set_option maxRecDepth 100000 in
set_option maxHeartbeats 4000000 in
theorem reads_ac (w : World) (op a b c args : Int) (hop : op ∈ [15,20]) : Calls Tryz.prog 161 #[.agg #[.int .i64 op, .int .i64 a, .int .i64 b, .int .i64 c], .int .i64 args] w (ReadsSaid ⟨op, a, b, c⟩ args w) := by
  have ho := fun w g hg => once_new w [a,c] (by simp) g hg
  have hm : ([a,c].map (Value.int .i64)).toArray = #[.int .i64 a,.int .i64 c] := rfl
  rw [hm] at ho
  clear hm
  have HO := Lib.hid ho; clear ho
  simp only [List.mem_cons, List.not_mem_nil, or_false] at hop
  have hfin : readsL ⟨op, a, b, c⟩ args = onceL [a,c] := by rcases hop with rfl|rfl <;> rfl
  have hsz : ∀ o, (w.alloc o).heap.size = w.heap.size + 1 := fun o => by simp
  have HFIN := Lib.hid hfin; clear hfin
  have HSZ := Lib.hid hsz; clear hsz
  rcases hop with rfl|rfl
  all_goals
    go_enter Tryz.func161, Tryz.ntmps161
    go_wp2_with fail
    refine (HO.out _ _ (by simp)).mono ?_
    rintro e w1 ⟨v, rfl, hown, hb⟩
    have hP : ReadsSaid ⟨_, a, b, c⟩ args w (.returned v) w1 := ⟨v, rfl, by rw [HFIN.out]; exact Own.base hown (fun k hk => by have := (hown.lt hk).1; rw [HSZ.out] at this; omega), ((Below.refl _ _).alloc (Nat.le_refl _) _).trans (hb.mono (by rw [HSZ.out]; omega))⟩
    have HP := Lib.hid hP
    clear hP hown hb
    go_wp2_with fail
    go_ret
    exact HP.out
set_option maxRecDepth 100000 in
set_option maxHeartbeats 4000000 in
theorem reads_ab (w : World) (op a b c args : Int) (hop : op ∈ [25]) : Calls Tryz.prog 161 #[.agg #[.int .i64 op, .int .i64 a, .int .i64 b, .int .i64 c], .int .i64 args] w (ReadsSaid ⟨op, a, b, c⟩ args w) := by
  have ho := fun w g hg => once_new w [a,b] (by simp) g hg
  have hm : ([a,b].map (Value.int .i64)).toArray = #[.int .i64 a,.int .i64 b] := rfl
  rw [hm] at ho
  clear hm
  have HO := Lib.hid ho; clear ho
  simp only [List.mem_cons, List.not_mem_nil, or_false] at hop
  have hfin : readsL ⟨op, a, b, c⟩ args = onceL [a,b] := by rcases hop with rfl <;> rfl
  have hsz : ∀ o, (w.alloc o).heap.size = w.heap.size + 1 := fun o => by simp
  have HFIN := Lib.hid hfin; clear hfin
  have HSZ := Lib.hid hsz; clear hsz
  rcases hop with rfl
  all_goals
    go_enter Tryz.func161, Tryz.ntmps161
    go_wp2_with fail
    refine (HO.out _ _ (by simp)).mono ?_
    rintro e w1 ⟨v, rfl, hown, hb⟩
    have hP : ReadsSaid ⟨_, a, b, c⟩ args w (.returned v) w1 := ⟨v, rfl, by rw [HFIN.out]; exact Own.base hown (fun k hk => by have := (hown.lt hk).1; rw [HSZ.out] at this; omega), ((Below.refl _ _).alloc (Nat.le_refl _) _).trans (hb.mono (by rw [HSZ.out]; omega))⟩
    have HP := Lib.hid hP
    clear hP hown hb
    go_wp2_with fail
    go_ret
    exact HP.out
set_option maxRecDepth 100000 in
set_option maxHeartbeats 4000000 in
theorem reads_call (w : World) (op a b c args : Int) (hop : op ∈ [21, 23, 24]) : Calls Tryz.prog 161 #[.agg #[.int .i64 op, .int .i64 a, .int .i64 b, .int .i64 c], .int .i64 args] w (ReadsSaid ⟨op, a, b, c⟩ args w) := by
  have hfin : readsL ⟨op, a, b, c⟩ args = argSlots c (nArgs args) := by
    simp only [List.mem_cons, List.not_mem_nil, or_false] at hop
    rcases hop with rfl | rfl | rfl <;> rfl
  have hbx := box1 w #[.int .i64 op, .int .i64 a, .int .i64 b, .int .i64 c] 28
  have hn := nArgs_le args
  have HBX := Lib.hid hbx; clear hbx
  have hor : op = 21 ∨ op = 23 ∨ op = 24 := by simpa using hop
  clear hop
  have e0 : (op == 2) = false ∧ (op == 12) = false ∧ (op == 14) = false ∧ (op == 17) = false ∧ (op == 19) = false := by simp; omega
  clear e0
  by_cases h0 : args < 0
  · have hz : nArgs args = 0 := by omega
    rw [hz] at hfin
    clear hn hz
    have HFIN := Lib.hid hfin; clear hfin
    rcases hor with rfl | rfl | rfl
    · skip
      go_enter Tryz.func161, Tryz.ntmps161
      go_wp2_with fail
      go_loopw [5, 63] (fun v i wr => ∃ k : Nat, k ≤ 0 ∧ i = .int .i64 k ∧ Own intE wr (w.heap.size + 1) v (argSlots c k) ∧ Below (w.heap.size + 1) (w.alloc (.cells #[.int .i64 21, .int .i64 a, .int .i64 b, .int .i64 c] 28)) wr) (fun _ i _ => 0 - (intOf i).toNat)
      case atStart => exact ⟨0, Nat.zero_le _, rfl, Own.nil _ _ _, Below.refl _ _⟩
      case round =>
        obtain ⟨k, hk, rfl, hown, hB⟩ := hrel
        obtain ⟨hx, hbw, hsz⟩ := HBX.out wr hB
        have q3 := hx 3 _ rfl
        clear hx
        have hk' : k = 0 := by omega
        rw [hk'] at hown
        clear hk'
        have hP : ∀ v, Own intE wr (w.heap.size + 1) v (argSlots c 0) → ReadsSaid ⟨21, a, b, c⟩ args w (.returned v) wr := fun v hv => ⟨v, rfl, by rw [HFIN.out]; exact Own.base hv (fun k hk => by have := (hv.lt hk).1; omega), hbw⟩
        have HP := Lib.hid (hP _ hown)
        clear hP hown hB hbw q3
        go_wp2_with fail
        go_ret
        exact HP.out
    · skip
      go_enter Tryz.func161, Tryz.ntmps161
      go_wp2_with fail
      go_loopw [5, 63] (fun v i wr => ∃ k : Nat, k ≤ 0 ∧ i = .int .i64 k ∧ Own intE wr (w.heap.size + 1) v (argSlots c k) ∧ Below (w.heap.size + 1) (w.alloc (.cells #[.int .i64 23, .int .i64 a, .int .i64 b, .int .i64 c] 28)) wr) (fun _ i _ => 0 - (intOf i).toNat)
      case atStart => exact ⟨0, Nat.zero_le _, rfl, Own.nil _ _ _, Below.refl _ _⟩
      case round =>
        obtain ⟨k, hk, rfl, hown, hB⟩ := hrel
        obtain ⟨hx, hbw, hsz⟩ := HBX.out wr hB
        have q3 := hx 3 _ rfl
        clear hx
        have hk' : k = 0 := by omega
        rw [hk'] at hown
        clear hk'
        have hP : ∀ v, Own intE wr (w.heap.size + 1) v (argSlots c 0) → ReadsSaid ⟨23, a, b, c⟩ args w (.returned v) wr := fun v hv => ⟨v, rfl, by rw [HFIN.out]; exact Own.base hv (fun k hk => by have := (hv.lt hk).1; omega), hbw⟩
        have HP := Lib.hid (hP _ hown)
        clear hP hown hB hbw q3
        go_wp2_with fail
        go_ret
        exact HP.out
    · skip
      go_enter Tryz.func161, Tryz.ntmps161
      go_wp2_with fail
      go_loopw [5, 63] (fun v i wr => ∃ k : Nat, k ≤ 0 ∧ i = .int .i64 k ∧ Own intE wr (w.heap.size + 1) v (argSlots c k) ∧ Below (w.heap.size + 1) (w.alloc (.cells #[.int .i64 24, .int .i64 a, .int .i64 b, .int .i64 c] 28)) wr) (fun _ i _ => 0 - (intOf i).toNat)
      case atStart => exact ⟨0, Nat.zero_le _, rfl, Own.nil _ _ _, Below.refl _ _⟩
      case round =>
        obtain ⟨k, hk, rfl, hown, hB⟩ := hrel
        obtain ⟨hx, hbw, hsz⟩ := HBX.out wr hB
        have q3 := hx 3 _ rfl
        clear hx
        have hk' : k = 0 := by omega
        rw [hk'] at hown
        clear hk'
        have hP : ∀ v, Own intE wr (w.heap.size + 1) v (argSlots c 0) → ReadsSaid ⟨24, a, b, c⟩ args w (.returned v) wr := fun v hv => ⟨v, rfl, by rw [HFIN.out]; exact Own.base hv (fun k hk => by have := (hv.lt hk).1; omega), hbw⟩
        have HP := Lib.hid (hP _ hown)
        clear hP hown hB hbw q3
        go_wp2_with fail
        go_ret
        exact HP.out
  by_cases h16 : 16 < args
  · have hz : nArgs args = 16 := by omega
    rw [hz] at hfin
    clear hn hz
    have HFIN := Lib.hid hfin; clear hfin
    rcases hor with rfl | rfl | rfl
    · skip
      go_enter Tryz.func161, Tryz.ntmps161
      go_wp2_with fail
      go_loopw [5, 63] (fun v i wr => ∃ k : Nat, k ≤ 16 ∧ i = .int .i64 k ∧ Own intE wr (w.heap.size + 1) v (argSlots c k) ∧ Below (w.heap.size + 1) (w.alloc (.cells #[.int .i64 21, .int .i64 a, .int .i64 b, .int .i64 c] 28)) wr) (fun _ i _ => 16 - (intOf i).toNat)
      case atStart => exact ⟨0, Nat.zero_le _, rfl, Own.nil _ _ _, Below.refl _ _⟩
      case round =>
        obtain ⟨k, hk, rfl, hown, hB⟩ := hrel
        obtain ⟨hx, hbw, hsz⟩ := HBX.out wr hB
        have q3 := hx 3 _ rfl
        clear hx
        by_cases hlt : k < 16
        · have hsn := argSlots_snoc c k
          have hl := argSlots_len c k
          generalize argSlots c k = L at *
          have HSN := Lib.hid hsn; clear hsn
          have HOWN := Lib.hid hown; clear hown
          have HB := Lib.hid hB; clear hB
          have HBW := Lib.hid hbw; clear hbw
          have HL := Lib.hid hl; clear hl
          go_wp2_with (at_builtin; refine append_own intE rfl (.tmp 66) (.tmp 71) rfl (w.heap.size + 1) L [wrap64 (c + (k : Int))] _ rfl (HOWN.out.alloc _) wr.heap.size 0 1 rfl (CellsAt.new _ _ _ _) ?c1 ?c2 ?_)
          case c1 => rw [HL.out]; simp; omega
          case c2 => simp; omega
          intro v2 w2 hown2 hg2
          have hB2 := Lib.hid (below_grown (HB.out.alloc (by omega) _) (HOWN.out.alloc _) hg2 (by simp; omega) (Nat.le_refl _))
          have HO2 := Lib.hid hown2; clear hown2 hg2 q3
          go_wp2_with fail
          go_roundw
          case rel => exact ⟨k + 1, by omega, by go_num, by rw [HSN.out]; exact HO2.out, hB2.out⟩
          case measure => simp [intOf]; omega
        · have hk' : k = 16 := by omega
          rw [hk'] at hown
          clear hk'
          have hP : ∀ v, Own intE wr (w.heap.size + 1) v (argSlots c 16) → ReadsSaid ⟨21, a, b, c⟩ args w (.returned v) wr := fun v hv => ⟨v, rfl, by rw [HFIN.out]; exact Own.base hv (fun k hk => by have := (hv.lt hk).1; omega), hbw⟩
          have HP := Lib.hid (hP _ hown)
          clear hP hown hB hbw q3
          go_wp2_with fail
          go_ret
          exact HP.out
    · skip
      go_enter Tryz.func161, Tryz.ntmps161
      go_wp2_with fail
      go_loopw [5, 63] (fun v i wr => ∃ k : Nat, k ≤ 16 ∧ i = .int .i64 k ∧ Own intE wr (w.heap.size + 1) v (argSlots c k) ∧ Below (w.heap.size + 1) (w.alloc (.cells #[.int .i64 23, .int .i64 a, .int .i64 b, .int .i64 c] 28)) wr) (fun _ i _ => 16 - (intOf i).toNat)
      case atStart => exact ⟨0, Nat.zero_le _, rfl, Own.nil _ _ _, Below.refl _ _⟩
      case round =>
        obtain ⟨k, hk, rfl, hown, hB⟩ := hrel
        obtain ⟨hx, hbw, hsz⟩ := HBX.out wr hB
        have q3 := hx 3 _ rfl
        clear hx
        by_cases hlt : k < 16
        · have hsn := argSlots_snoc c k
          have hl := argSlots_len c k
          generalize argSlots c k = L at *
          have HSN := Lib.hid hsn; clear hsn
          have HOWN := Lib.hid hown; clear hown
          have HB := Lib.hid hB; clear hB
          have HBW := Lib.hid hbw; clear hbw
          have HL := Lib.hid hl; clear hl
          go_wp2_with (at_builtin; refine append_own intE rfl (.tmp 66) (.tmp 71) rfl (w.heap.size + 1) L [wrap64 (c + (k : Int))] _ rfl (HOWN.out.alloc _) wr.heap.size 0 1 rfl (CellsAt.new _ _ _ _) ?c1 ?c2 ?_)
          case c1 => rw [HL.out]; simp; omega
          case c2 => simp; omega
          intro v2 w2 hown2 hg2
          have hB2 := Lib.hid (below_grown (HB.out.alloc (by omega) _) (HOWN.out.alloc _) hg2 (by simp; omega) (Nat.le_refl _))
          have HO2 := Lib.hid hown2; clear hown2 hg2 q3
          go_wp2_with fail
          go_roundw
          case rel => exact ⟨k + 1, by omega, by go_num, by rw [HSN.out]; exact HO2.out, hB2.out⟩
          case measure => simp [intOf]; omega
        · have hk' : k = 16 := by omega
          rw [hk'] at hown
          clear hk'
          have hP : ∀ v, Own intE wr (w.heap.size + 1) v (argSlots c 16) → ReadsSaid ⟨23, a, b, c⟩ args w (.returned v) wr := fun v hv => ⟨v, rfl, by rw [HFIN.out]; exact Own.base hv (fun k hk => by have := (hv.lt hk).1; omega), hbw⟩
          have HP := Lib.hid (hP _ hown)
          clear hP hown hB hbw q3
          go_wp2_with fail
          go_ret
          exact HP.out
    · skip
      go_enter Tryz.func161, Tryz.ntmps161
      go_wp2_with fail
      go_loopw [5, 63] (fun v i wr => ∃ k : Nat, k ≤ 16 ∧ i = .int .i64 k ∧ Own intE wr (w.heap.size + 1) v (argSlots c k) ∧ Below (w.heap.size + 1) (w.alloc (.cells #[.int .i64 24, .int .i64 a, .int .i64 b, .int .i64 c] 28)) wr) (fun _ i _ => 16 - (intOf i).toNat)
      case atStart => exact ⟨0, Nat.zero_le _, rfl, Own.nil _ _ _, Below.refl _ _⟩
      case round =>
        obtain ⟨k, hk, rfl, hown, hB⟩ := hrel
        obtain ⟨hx, hbw, hsz⟩ := HBX.out wr hB
        have q3 := hx 3 _ rfl
        clear hx
        by_cases hlt : k < 16
        · have hsn := argSlots_snoc c k
          have hl := argSlots_len c k
          generalize argSlots c k = L at *
          have HSN := Lib.hid hsn; clear hsn
          have HOWN := Lib.hid hown; clear hown
          have HB := Lib.hid hB; clear hB
          have HBW := Lib.hid hbw; clear hbw
          have HL := Lib.hid hl; clear hl
          go_wp2_with (at_builtin; refine append_own intE rfl (.tmp 66) (.tmp 71) rfl (w.heap.size + 1) L [wrap64 (c + (k : Int))] _ rfl (HOWN.out.alloc _) wr.heap.size 0 1 rfl (CellsAt.new _ _ _ _) ?c1 ?c2 ?_)
          case c1 => rw [HL.out]; simp; omega
          case c2 => simp; omega
          intro v2 w2 hown2 hg2
          have hB2 := Lib.hid (below_grown (HB.out.alloc (by omega) _) (HOWN.out.alloc _) hg2 (by simp; omega) (Nat.le_refl _))
          have HO2 := Lib.hid hown2; clear hown2 hg2 q3
          go_wp2_with fail
          go_roundw
          case rel => exact ⟨k + 1, by omega, by go_num, by rw [HSN.out]; exact HO2.out, hB2.out⟩
          case measure => simp [intOf]; omega
        · have hk' : k = 16 := by omega
          rw [hk'] at hown
          clear hk'
          have hP : ∀ v, Own intE wr (w.heap.size + 1) v (argSlots c 16) → ReadsSaid ⟨24, a, b, c⟩ args w (.returned v) wr := fun v hv => ⟨v, rfl, by rw [HFIN.out]; exact Own.base hv (fun k hk => by have := (hv.lt hk).1; omega), hbw⟩
          have HP := Lib.hid (hP _ hown)
          clear hP hown hB hbw q3
          go_wp2_with fail
          go_ret
          exact HP.out
  obtain ⟨n, rfl⟩ := Int.eq_ofNat_of_zero_le (show 0 ≤ args by omega)
  have hz : nArgs (n : Int) = n := by omega
  rw [hz] at hfin
  have hn16 : n ≤ 16 := by omega
  clear hn hz h0 h16
  have HFIN := Lib.hid hfin; clear hfin
  rcases hor with rfl | rfl | rfl
  · skip
    go_enter Tryz.func161, Tryz.ntmps161
    go_wp2_with fail
    go_loopw [5, 63] (fun v i wr => ∃ k : Nat, k ≤ n ∧ i = .int .i64 k ∧ Own intE wr (w.heap.size + 1) v (argSlots c k) ∧ Below (w.heap.size + 1) (w.alloc (.cells #[.int .i64 21, .int .i64 a, .int .i64 b, .int .i64 c] 28)) wr) (fun _ i _ => n - (intOf i).toNat)
    case atStart => exact ⟨0, Nat.zero_le _, rfl, Own.nil _ _ _, Below.refl _ _⟩
    case round =>
      obtain ⟨k, hk, rfl, hown, hB⟩ := hrel
      obtain ⟨hx, hbw, hsz⟩ := HBX.out wr hB
      have q3 := hx 3 _ rfl
      clear hx
      by_cases hlt : k < n
      · have hsn := argSlots_snoc c k
        have hl := argSlots_len c k
        generalize argSlots c k = L at *
        have HSN := Lib.hid hsn; clear hsn
        have HOWN := Lib.hid hown; clear hown
        have HB := Lib.hid hB; clear hB
        have HBW := Lib.hid hbw; clear hbw
        have HL := Lib.hid hl; clear hl
        go_wp2_with (at_builtin; refine append_own intE rfl (.tmp 66) (.tmp 71) rfl (w.heap.size + 1) L [wrap64 (c + (k : Int))] _ rfl (HOWN.out.alloc _) wr.heap.size 0 1 rfl (CellsAt.new _ _ _ _) ?c1 ?c2 ?_)
        case c1 => rw [HL.out]; simp; omega
        case c2 => simp; omega
        intro v2 w2 hown2 hg2
        have hB2 := Lib.hid (below_grown (HB.out.alloc (by omega) _) (HOWN.out.alloc _) hg2 (by simp; omega) (Nat.le_refl _))
        have HO2 := Lib.hid hown2; clear hown2 hg2 q3
        go_wp2_with fail
        go_roundw
        case rel => exact ⟨k + 1, by omega, by go_num, by rw [HSN.out]; exact HO2.out, hB2.out⟩
        case measure => simp [intOf]; omega
      · have hk' : k = n := by omega
        rw [hk'] at hown
        clear hk'
        have hP : ∀ v, Own intE wr (w.heap.size + 1) v (argSlots c n) → ReadsSaid ⟨21, a, b, c⟩ (n:Int) w (.returned v) wr := fun v hv => ⟨v, rfl, by rw [HFIN.out]; exact Own.base hv (fun k hk => by have := (hv.lt hk).1; omega), hbw⟩
        have HP := Lib.hid (hP _ hown)
        clear hP hown hB hbw q3
        go_wp2_with fail
        go_ret
        exact HP.out
  · skip
    go_enter Tryz.func161, Tryz.ntmps161
    go_wp2_with fail
    go_loopw [5, 63] (fun v i wr => ∃ k : Nat, k ≤ n ∧ i = .int .i64 k ∧ Own intE wr (w.heap.size + 1) v (argSlots c k) ∧ Below (w.heap.size + 1) (w.alloc (.cells #[.int .i64 23, .int .i64 a, .int .i64 b, .int .i64 c] 28)) wr) (fun _ i _ => n - (intOf i).toNat)
    case atStart => exact ⟨0, Nat.zero_le _, rfl, Own.nil _ _ _, Below.refl _ _⟩
    case round =>
      obtain ⟨k, hk, rfl, hown, hB⟩ := hrel
      obtain ⟨hx, hbw, hsz⟩ := HBX.out wr hB
      have q3 := hx 3 _ rfl
      clear hx
      by_cases hlt : k < n
      · have hsn := argSlots_snoc c k
        have hl := argSlots_len c k
        generalize argSlots c k = L at *
        have HSN := Lib.hid hsn; clear hsn
        have HOWN := Lib.hid hown; clear hown
        have HB := Lib.hid hB; clear hB
        have HBW := Lib.hid hbw; clear hbw
        have HL := Lib.hid hl; clear hl
        go_wp2_with (at_builtin; refine append_own intE rfl (.tmp 66) (.tmp 71) rfl (w.heap.size + 1) L [wrap64 (c + (k : Int))] _ rfl (HOWN.out.alloc _) wr.heap.size 0 1 rfl (CellsAt.new _ _ _ _) ?c1 ?c2 ?_)
        case c1 => rw [HL.out]; simp; omega
        case c2 => simp; omega
        intro v2 w2 hown2 hg2
        have hB2 := Lib.hid (below_grown (HB.out.alloc (by omega) _) (HOWN.out.alloc _) hg2 (by simp; omega) (Nat.le_refl _))
        have HO2 := Lib.hid hown2; clear hown2 hg2 q3
        go_wp2_with fail
        go_roundw
        case rel => exact ⟨k + 1, by omega, by go_num, by rw [HSN.out]; exact HO2.out, hB2.out⟩
        case measure => simp [intOf]; omega
      · have hk' : k = n := by omega
        rw [hk'] at hown
        clear hk'
        have hP : ∀ v, Own intE wr (w.heap.size + 1) v (argSlots c n) → ReadsSaid ⟨23, a, b, c⟩ (n:Int) w (.returned v) wr := fun v hv => ⟨v, rfl, by rw [HFIN.out]; exact Own.base hv (fun k hk => by have := (hv.lt hk).1; omega), hbw⟩
        have HP := Lib.hid (hP _ hown)
        clear hP hown hB hbw q3
        go_wp2_with fail
        go_ret
        exact HP.out
  · skip
    go_enter Tryz.func161, Tryz.ntmps161
    go_wp2_with fail
    go_loopw [5, 63] (fun v i wr => ∃ k : Nat, k ≤ n ∧ i = .int .i64 k ∧ Own intE wr (w.heap.size + 1) v (argSlots c k) ∧ Below (w.heap.size + 1) (w.alloc (.cells #[.int .i64 24, .int .i64 a, .int .i64 b, .int .i64 c] 28)) wr) (fun _ i _ => n - (intOf i).toNat)
    case atStart => exact ⟨0, Nat.zero_le _, rfl, Own.nil _ _ _, Below.refl _ _⟩
    case round =>
      obtain ⟨k, hk, rfl, hown, hB⟩ := hrel
      obtain ⟨hx, hbw, hsz⟩ := HBX.out wr hB
      have q3 := hx 3 _ rfl
      clear hx
      by_cases hlt : k < n
      · have hsn := argSlots_snoc c k
        have hl := argSlots_len c k
        generalize argSlots c k = L at *
        have HSN := Lib.hid hsn; clear hsn
        have HOWN := Lib.hid hown; clear hown
        have HB := Lib.hid hB; clear hB
        have HBW := Lib.hid hbw; clear hbw
        have HL := Lib.hid hl; clear hl
        go_wp2_with (at_builtin; refine append_own intE rfl (.tmp 66) (.tmp 71) rfl (w.heap.size + 1) L [wrap64 (c + (k : Int))] _ rfl (HOWN.out.alloc _) wr.heap.size 0 1 rfl (CellsAt.new _ _ _ _) ?c1 ?c2 ?_)
        case c1 => rw [HL.out]; simp; omega
        case c2 => simp; omega
        intro v2 w2 hown2 hg2
        have hB2 := Lib.hid (below_grown (HB.out.alloc (by omega) _) (HOWN.out.alloc _) hg2 (by simp; omega) (Nat.le_refl _))
        have HO2 := Lib.hid hown2; clear hown2 hg2 q3
        go_wp2_with fail
        go_roundw
        case rel => exact ⟨k + 1, by omega, by go_num, by rw [HSN.out]; exact HO2.out, hB2.out⟩
        case measure => simp [intOf]; omega
      · have hk' : k = n := by omega
        rw [hk'] at hown
        clear hk'
        have hP : ∀ v, Own intE wr (w.heap.size + 1) v (argSlots c n) → ReadsSaid ⟨24, a, b, c⟩ (n:Int) w (.returned v) wr := fun v hv => ⟨v, rfl, by rw [HFIN.out]; exact Own.base hv (fun k hk => by have := (hv.lt hk).1; omega), hbw⟩
        have HP := Lib.hid (hP _ hown)
        clear hP hown hB hbw q3
        go_wp2_with fail
        go_ret
        exact HP.out
set_option maxRecDepth 100000 in
set_option maxHeartbeats 4000000 in
theorem reads_none (w : World) (op a b c args : Int) (hop : op ∉ [2, 12, 14, 17, 19, 3, 4, 5, 6, 7, 8, 10, 29, 15, 20, 25, 21, 23, 24]) : Calls Tryz.prog 161 #[.agg #[.int .i64 op, .int .i64 a, .int .i64 b, .int .i64 c], .int .i64 args] w (ReadsSaid ⟨op, a, b, c⟩ args w) := by
  have hfin : readsL ⟨op, a, b, c⟩ args = [] := by
    simp at hop
    simp [readsL, hop]
  simp at hop
  obtain ⟨e0, e1, e2, e3, e4, e5, e6, e7, e8, e9, e10, e11, e12, e13, e14, e15, e16, e17, e18⟩ := hop
  have HFIN := Lib.hid hfin; clear hfin
  have hP : ReadsSaid ⟨op, a, b, c⟩ args w (.returned (.slice none 0 0)) (w.alloc (.cells #[.int .i64 op, .int .i64 a, .int .i64 b, .int .i64 c] 28)) := ⟨_, rfl, by rw [HFIN.out]; exact Own.nil _ _ _, (Below.refl _ _).alloc (Nat.le_refl _) _⟩
  have HP := Lib.hid hP; clear hP
  go_enter Tryz.func161, Tryz.ntmps161
  go_wp2_with fail
  go_ret
  exact HP.out
theorem reads_any (w : World) (x : Ins) (args : Int) : Calls Tryz.prog 161 #[x.val, .int .i64 args] w (ReadsSaid x args w) := by
  obtain ⟨op, a, b, c⟩ := x
  by_cases h1 : op ∈ [2, 12, 14, 17, 19]
  · exact reads_b w op a b c args h1
  by_cases h2 : op ∈ [3, 4, 5, 6, 7, 8]
  · exact reads_bc w op a b c args h2
  by_cases h3 : op ∈ [10, 29]
  · exact reads_a w op a b c args h3
  by_cases h4 : op ∈ [15, 20]
  · exact reads_ac w op a b c args h4
  by_cases h5 : op ∈ [25]
  · exact reads_ab w op a b c args h5
  by_cases h6 : op ∈ [21, 23, 24]
  · exact reads_call w op a b c args h6
  refine reads_none w op a b c args (fun h => ?_)
  simp at h1 h2 h3 h4 h5 h6 h
  omega
end Go.Proofs.YtknbllbhakpaaaaGreat
namespace Go.Proofs.YtknbllbhakpaaaaGreat
def withinB (n m : Int) : Bool := decide (0 ≤ n) && decide (n < m)
def fieldB (kind : Int) (shapes : Nat) : Bool := decide (shapes ≤ 16) && (kind == 1 || (decide (16 ≤ kind) && decide (kind < 16 + shapes)))
def validB (kind : Int) (shapes : Nat) : Bool := fieldB kind shapes || (decide (shapes ≤ 16) && (decide (64 ≤ kind) && decide (kind < 64 + shapes)))
def isLocB (kind : Int) : Bool := decide (64 ≤ kind) && decide (kind < 80)
/-- the first place at which something is not 0, and what it is there -/
def firstAt (f : Nat → Int) (n : Nat) : Int × Nat := match (List.range n).find? fun i => f i != 0 with | some i => (f i, i) | none => (0, 0)
theorem firstAt_none {f : Nat → Int} {n : Nat} (h : ∀ j, j < n → f j = 0) : firstAt f n = (0, 0) := by
  unfold firstAt
  have : (List.range n).find? (fun i => f i != 0) = none := by
    rw [List.find?_eq_none]
    intro x hx
    simp [h x (List.mem_range.1 hx)]
  rw [this]
theorem firstAt_hit {f : Nat → Int} {n k : Nat} (hk : k < n) (h : ∀ j, j < k → f j = 0) (hh : f k ≠ 0) : firstAt f n = (f k, k) := by
  unfold firstAt
  have : (List.range n).find? (fun i => f i != 0) = some k := by
    rw [List.find?_range_eq_some]
    exact ⟨by simpa using hh, List.mem_range.2 hk, fun j hj => by simp [h j hj]⟩
  rw [this]
theorem firstAt_zero {f : Nat → Int} {n : Nat} : (firstAt f n).1 = 0 ↔ ∀ j, j < n → f j = 0 := by
  constructor
  · intro h j hj
    by_cases hz : ∃ k, k < n ∧ f k ≠ 0
    · exfalso
      unfold firstAt at h
      cases hf : (List.range n).find? fun i => f i != 0 with
      | none =>
        obtain ⟨k, hk, hk2⟩ := hz
        rw [List.find?_eq_none] at hf
        have := hf k (List.mem_range.2 hk)
        simp at this
        exact hk2 this
      | some k =>
        rw [hf] at h
        have := List.find?_some hf
        simp at this
        exact this h
    · exact Classical.byContradiction fun hne => hz ⟨j, hj, hne⟩
  · intro h
    rw [firstAt_none h]
def shErr (n : Nat) (x : List Int) : Int := if x.length < 1 ∨ 16 < x.length then 1 else if x.all (fieldB · n) then 0 else 3
def shapesErr (l : List (List Int)) : Int := if 16 < l.length then 1 else (firstAt (fun i => shErr l.length (l[i]?.getD [])) l.length).1

/-- the function that is called -/
def calleeF (p : Prg) (i : Ins) : Option Fun := if (i.op = 21 ∨ i.op = 23 ∨ i.op = 24) ∧ withinB i.b p.funcs.length = true then p.funcs[i.b.toNat]? else none
def argsN (g : Option Fun) : Nat := match g with | some g => g.args.length | none => 0
def quietB (p : Prg) (f : Fun) (i : Ins) : Bool :=
  (i.op == 22 && f.result == 0) || (i.op == 21 && (match calleeF p i with | some g => g.result == 0 | none => false))
def formB (p : Prg) (f : Fun) (i : Ins) : Bool := knownS i.op && mayB i.a ((usesS i.op).1 && !quietB p f i) && mayB i.b (usesS i.op).2.1 && mayB i.c (usesS i.op).2.2
def usedL (p : Prg) (f : Fun) (i : Ins) : List Int :=
  readsL i (argsN (calleeF p i)) ++ (if writesS i.op && !quietB p f i then [i.a] else []) ++ (if i.op == 26 then [i.b] else []) ++ (if i.op == 22 && !quietB p f i then [i.a] else [])
def roomB (f : Fun) (c : Int) (n : Nat) : Bool := decide (0 ≤ c) && decide ((n : Int) ≤ f.slots) && decide (c ≤ f.slots - n)
def slotsB (p : Prg) (f : Fun) (i : Ins) : Bool := (match calleeF p i with | some g => roomB f i.c g.args.length | none => true) && (usedL p f i).all (withinB · f.slots)
def thingsB (p : Prg) (f : Fun) (i : Ins) : Bool :=
  if i.op = 9 ∨ i.op = 10 then withinB i.b f.code.length
  else if i.op = 21 ∨ i.op = 23 ∨ i.op = 24 then withinB i.b p.funcs.length
  else if i.op = 13 ∨ i.op = 11 then withinB i.b p.shapes.length
  else if i.op = 16 then withinB i.b p.globals.length
  else if i.op = 17 then withinB i.a p.globals.length
  else if i.op = 18 then withinB i.b f.objects.length
  else if i.op = 14 ∨ i.op = 19 then withinB i.c 16
  else if i.op = 15 ∨ i.op = 20 then withinB i.b 16
  else true
def kindsB (p : Prg) (i : Ins) : Bool :=
  if i.op = 23 ∨ i.op = 24 then (match calleeF p i with | some g => g.result == 0 && !g.args.any isLocB | none => true)
  else if i.op = 25 ∨ i.op = 26 then decide (0 < p.shapes.length)
  else true
def instrS (p : Prg) (f : Fun) (i : Ins) : Int := if formB p f i = false then 2 else if (thingsB p f i && slotsB p f i) = false then 4 else if kindsB p i = false then 3 else 0

end Go.Proofs.YtknbllbhakpaaaaGreat
