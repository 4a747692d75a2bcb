/- Walks: what the kinds of a program tell; the first call of chapter 12's statements. A queue onto which rows are appended; a row of marks; the search for what can be reached, plainly. The reference's way to a function's flow, plainly: round by round till nothing changes. Nothing of the program's text stands here. Walk: which slots are pointers, which are places. Walks: a function of a program, or an empty one; the slots whose bits are set. Walks: the slots of a frame whose bits are set. -/
import Derived.Test.YtknbllbhakpaaaaGreatHBe
import Derived.Deep.Upon
import Derived.Test.YtknbllbhakpaaaaGreatHAx
import Derived.Test.YtknbllbhakpaaaaGreatHAu
import Derived.Test.YtknbllbhakpaaaaGreatHBa
import Derived.Test.YtknbllbhakpaaaaGreatHAo
import Derived.Test.YtknbllbhakpaaaaGreatHAg
import Derived.Test.YtknbllbhakpaaaaGreatHAc
import Derived.Deep.RegionHeld3
import Derived.Deep.CutBlock
import Derived.Deep.DeepCutAuto
import Derived.Test.YtknbllbhakpaaaaGreatHAv
import Derived.Test.YtknbllbhakpaaaaGreatHAw
import Derived.Test.YtknbllbhakpaaaaGreatHAd
import Derived.Laws.BitsAllLaws
import Derived.Test.YtknbllbhakpaaaaGreatHAh
import Derived.Test.YtknbllbhakpaaaaGreatHAi
set_option linter.unusedVariables false
set_option linter.unusedSimpArgs false
namespace Go.Proofs.YtknbllbhakpaaaaGreat
open Go.ChangeShapes Go.WideShapes Go.ChangeAt Go.RowKit Go.Maps
set_option maxRecDepth 100000 in
theorem kindsM_any (w : World) (B mb b nm : Nat) (V : Nat → Prop) (C : Pl → Option (List Int)) (h : MapsAt w B mb b nm V C) (fn q : Int) (hI : i64B fn ∧ i64B q) (hCl : ∀ x K, C x = some K → K.length ≤ 100000) :
    Calls Tryz.prog 150 #[.pointer (some ⟨mb, 0, none⟩), .int .i64 fn, .int .i64 q] w fun e w' => ∃ v, e = .returned v ∧ Own intE w' w.heap.size v ((C ⟨(fn, q), hI⟩).getD []) ∧ Below w.heap.size w w' := by
  obtain ⟨hr, hm, _⟩ := h
  have k0 : w.cell? ⟨mb, 0, none⟩ = some (.map (some b)) := (row_cell hr 0).1
  cases hc : C ⟨(fn, q), hI⟩ with
  | none =>
    have hlk : (Instr.lookup 90 (.map (some b)) (.agg #[.int .i64 fn, .int .i64 q]) false).run Tryz.prog w = .ok (.slice none 0 0) w := (hm.none_run _ hc).2
    have cl := cloneInts_any w (fun _ => False) none [] 0 (fun j hj => by cases hj) (by simp)
    clear hr hm hCl hc
    have CL := Lib.hid cl; clear cl
    go_enter Tryz.func150, Tryz.ntmps150
    go_wp2_with fail
    refine CL.out.mono ?_
    rintro e w1 ⟨v, rfl, ho, hb⟩
    have HO := Lib.hid ho; clear ho
    have HB := Lib.hid hb; clear hb
    clear hlk
    go_wp2_with fail
    go_ret
    exact ⟨v, rfl, HO.out, HB.out⟩
  | some K =>
    obtain ⟨a, c, hs, _, hlk⟩ := hm.some_run _ K hc
    have hlk : (Instr.lookup 90 (.map (some b)) (.agg #[.int .i64 fn, .int .i64 q]) false).run Tryz.prog w = .ok (.slice a K.length c) w := hlk
    have cl := cloneInts_any w _ a K c hs (by have := hCl _ K hc; omega)
    clear hr hm hCl hc hs
    have CL := Lib.hid cl; clear cl
    go_enter Tryz.func150, Tryz.ntmps150
    go_wp2_with fail
    refine CL.out.mono ?_
    rintro e w1 ⟨v, rfl, ho, hb⟩
    have HO := Lib.hid ho; clear ho
    have HB := Lib.hid hb; clear hb
    clear hlk
    go_wp2_with fail
    go_ret
    exact ⟨v, rfl, HO.out, HB.out⟩
theorem MapsAt.below {w w' : World} {B mb b nm : Nat} {V : Nat → Prop} {C : Pl → Option (List Int)} (h : MapsAt w B mb b nm V C) (hb : Below w.heap.size w w') : MapsAt w' B mb b nm V C := by
  obtain ⟨h1, h2, h3, h4, h5⟩ := h
  exact ⟨(Fr.of_below hb (fun _ => False)).heap h1 (fun h => h), h2.fr (Fr.of_below hb (fun _ => False)) (fun h => h) (fun _ _ h => h), h3, h4, fun q hq => ⟨(h5 q hq).1, Nat.lt_of_lt_of_le (h5 q hq).2 hb.size⟩⟩
end Go.Proofs.YtknbllbhakpaaaaGreat
namespace Go.Proofs.YtknbllbhakpaaaaGreat
open Go.ChangeShapes Go.WideShapes Go.ChangeAt Go.RowKit Go.Maps
theorem Que.le {w : World} {B : Nat} {a : Option Addr} {n c : Nat} {l : List Int} (h : Que w B (.slice a n c) l) : l.length ≤ c ∧ n = l.length := by
  rcases h with ⟨a', e, rfl, _⟩ | ⟨g, pre, c', e, hc, _⟩
  · injection e with e1 e2 e3
    subst e2 e3
    exact ⟨Nat.zero_le _, rfl⟩
  · injection e with e1 e2 e3
    subst e2 e3
    exact ⟨hc, rfl⟩
end Go.Proofs.YtknbllbhakpaaaaGreat
namespace Go.Proofs.YtknbllbhakpaaaaGreat
/-- what is not yet looked at in a round: all, if something has changed; else what lies behind -/
def PendAt (more : Bool) (pc : Nat) : Nat → Int → Prop := fun q _ => more = true ∨ pc ≤ q
def PendIn (more : Bool) (pc : Nat) (rem : List Int) : Nat → Int → Prop := fun q m => more = true ∨ pc < q ∨ (q = pc ∧ m ∈ rem)
theorem FInv.enter {p : Prg} {f : Fun} {M : Flo} {more : Bool} {pc : Nat} {i : Ins} {NL : List Int} (h : FInv p f M (PendAt more pc)) (hi : f.code[pc]? = some i) (hN : NL = nextK i pc) : FInv p f M (PendIn more pc NL) :=
  ⟨h.low, h.first, h.len, fun q K' i' hq hi' m hm1 hml hn => h.step q K' i' hq hi' m hm1 hml (fun hP => by
    rcases hP with hP | hP
    · exact hn (.inl hP)
    · by_cases e : q = pc
      · subst e
        rw [hi] at hi'
        injection hi' with hi'
        subst hi'
        exact hn (.inr (.inr ⟨rfl, hN ▸ hm1⟩))
      · exact hn (.inr (.inl (by omega))))⟩
/-- kinds come to a place at which they change something -/
theorem FInv.turned {p : Prg} {f : Fun} {M : Flo} {more : Bool} {pc n : Nat} {K : List Int} {l : List Int} (h : FInv p f M (PendIn more pc l)) (hn : n < f.code.length) (hK : K.length = f.slots.toNat) (hlow : ∀ S, Sol p f S → ∃ L, S n = some L ∧ Le L K) : ∀ rem, FInv p f (comeM M n K) (PendIn true pc rem) := fun _ =>
  (h.come n K hn hK hlow).1.weaken (fun _ _ _ => .inl rfl)
end Go.Proofs.YtknbllbhakpaaaaGreat
namespace Go.Proofs.YtknbllbhakpaaaaGreat
open Go.ChangeShapes Go.WideShapes Go.ChangeAt Go.RowKit Go.Maps
/-- a bit for each of the first n kinds that a question is right of -/
def bitsP (b : Int → Bool) (K : List Int) : Nat → Nat
  | 0 => 0
  | n + 1 => bitsP b K n + if b ((K[n]?).getD 0) then 2 ^ n else 0
theorem bitsP_lt (b : Int → Bool) (K : List Int) : ∀ n, bitsP b K n < 2 ^ n
  | 0 => Nat.one_pos
  | n + 1 => by
    have := bitsP_lt b K n
    show bitsP b K n + _ < 2 ^ (n + 1)
    rw [Nat.pow_succ]
    split <;> omega
theorem or_bit {x k : Nat} (hx : x < 2 ^ k) (hk : k < 16) : bits BinOp.or IntKind.u16 (x : Int) (IntKind.u16.wrap (2 ^ k)) = ((x + 2 ^ k : Nat) : Int) := by
  have h1 : ∀ k : Nat, k < 16 → IntKind.u16.wrap (2 ^ k) = ((2 ^ k : Nat) : Int) := by decide
  have h2 : 2 ^ k ≤ 2 ^ 15 := Nat.pow_le_pow_right (by decide) (by omega)
  have h3 : (2 : Nat) ^ 15 = 32768 := by decide
  rw [h1 k hk, u16_or_nat x (2 ^ k) (by omega) (by omega)]
  have h4 := Nat.two_pow_add_eq_or_of_lt hx 1
  rw [Nat.mul_one] at h4
  rw [Nat.or_comm, ← h4, Nat.add_comm]
set_option maxRecDepth 100000 in
theorem bitsP_any (w : World) (B mb b nm : Nat) (V : Nat → Prop) (C : Pl → Option (List Int)) (h : MapsAt w B mb b nm V C) (fn q : Int) (hI : i64B fn ∧ i64B q) (hCl : ∀ x K, C x = some K → K.length ≤ 16) :
    Calls Tryz.prog 125 #[.pointer (some ⟨mb, 0, none⟩), .int .i64 fn, .int .i64 q, .func (.func 81) #[] #[]] w fun e w' => e = .returned (.int .u16 (bitsP isPtrB ((C ⟨(fn, q), hI⟩).getD []) ((C ⟨(fn, q), hI⟩).getD []).length : Nat)) ∧ Below w.heap.size w w' := by
  have km := kindsM_any w B mb b nm V C h fn q hI (fun x K hx => Nat.le_trans (hCl x K hx) (by decide))
  have hkl : ((C ⟨(fn, q), hI⟩).getD []).length ≤ 16 := by
    cases hc : C ⟨(fn, q), hI⟩ with
    | none => exact Nat.zero_le _
    | some K => exact hCl _ K hc
  clear h hCl
  generalize (C ⟨(fn, q), hI⟩).getD [] = K at *
  have KM := Lib.hid km
  clear km
  go_enter Tryz.func125, Tryz.ntmps125
  go_wp2_with fail
  refine KM.out.mono ?_
  rintro e w1 ⟨v, rfl, ho, hb⟩
  obtain ⟨va, vc, rfl, hs⟩ := own_int ho
  have HS := Lib.hid hs
  have HB := Lib.hid hb
  clear hs hb ho
  go_upto_region 3 with fail
  go_loopw [9, 19] (fun o i wr => ∃ k : Nat, k ≤ K.length ∧ i = .int .i64 k ∧ o = .int .u16 (bitsP isPtrB K k : Nat) ∧ Below w1.heap.size w1 wr) (fun _ i _ => K.length - (intOf i).toNat)
  case atStart => exact ⟨0, Nat.zero_le _, rfl, rfl, Below.refl _ _⟩
  case round =>
    obtain ⟨k, hk, rfl, rfl, hbr⟩ := hrel
    by_cases hlt : k < K.length
    case neg =>
      have hk' : k = K.length := by omega
      have HBE := Lib.hid (HB.out.trans (hbr.mono HB.out.size))
      have hkn : ¬ (k : Int) < (K.length : Int) := by omega
      obtain ⟨x, hx⟩ : ∃ x, x = bitsP isPtrB K k := ⟨_, rfl⟩
      have HXX := Lib.hid (show x = bitsP isPtrB K K.length from by rw [hx, hk'])
      rw [← hx]
      clear hx
      clear hk' hk hbr
      go_wp2_with fail
      go_ret
      exact ⟨(congrArg (fun n : Nat => Ending.returned (Value.int IntKind.u16 (n : Int))) HXX.out), HBE.out⟩
    have hkl2 : (k : Int) < (K.length : Int) := by omega
    obtain ⟨b, o, rfl, _, c1⟩ := HS.out k hlt
    replace c1 := below_cell hbr c1
    have hx := bitsP_lt isPtrB K k
    have hor := or_bit hx (by omega)
    have hsucc : bitsP isPtrB K (k + 1) = bitsP isPtrB K k + if isPtrB K[k] then 2 ^ k else 0 := by
      show bitsP isPtrB K k + _ = _
      simp [hlt]
    have i1 : IntKind.i64.wrap ((k : Int) + 1) = (k : Int) + 1 := IntWalk.i64_in _ (by omega)
    generalize K[k] = y at *
    generalize bitsP isPtrB K k = x at *
    have pt := pointsX_any wr y
    have PT := Lib.hid pt
    have HSU := Lib.hid hsucc
    have HOR := Lib.hid hor
    have HLT := Lib.hid hlt
    have HBR := Lib.hid hbr
    clear pt hsucc hor hlt hbr hx
    go_wp2_with fail
    refine PT.out.mono ?_
    cases hB : isPtrB y
    · rintro e w2 ⟨rfl, rfl⟩
      have HSB := Lib.hid (show bitsP isPtrB K (k + 1) = x from by rw [HSU.out, hB]; simp)
      clear hB
      go_wp2_with fail
      go_roundw
      case rel => exact ⟨k + 1, HLT.out, by go_num, by rw [HSB.out], HBR.out⟩
      case measure => simp [intOf]; omega
    · rintro e w2 ⟨rfl, rfl⟩
      have HSB := Lib.hid (show bitsP isPtrB K (k + 1) = x + 2 ^ k from by rw [HSU.out, hB]; simp)
      clear hB
      go_wp2_with fail
      go_roundw
      case rel => exact ⟨k + 1, HLT.out, by go_num, by rw [HSB.out, HOR.out], HBR.out⟩
      case measure => simp [intOf]; omega
set_option maxRecDepth 100000 in
theorem mpointers_any (w : World) (B mb b nm : Nat) (V : Nat → Prop) (C : Pl → Option (List Int)) (h : MapsAt w B mb b nm V C) (fn q : Int) (hI : i64B fn ∧ i64B q) (hCl : ∀ x K, C x = some K → K.length ≤ 16) :
    Calls Tryz.prog 86 #[.pointer (some ⟨mb, 0, none⟩), .int .i64 fn, .int .i64 q] w fun e w' => e = .returned (.int .u16 (bitsP isPtrB ((C ⟨(fn, q), hI⟩).getD []) ((C ⟨(fn, q), hI⟩).getD []).length : Nat)) ∧ Below w.heap.size w w' := by
  have bt := bitsP_any w B mb b nm V C h fn q hI hCl
  clear h hCl
  generalize bitsP isPtrB ((C ⟨(fn, q), hI⟩).getD []) ((C ⟨(fn, q), hI⟩).getD []).length = x at *
  have BT := Lib.hid bt
  clear bt
  go_enter Tryz.func86, Tryz.ntmps86
  go_wp2_with fail
  refine BT.out.mono ?_
  rintro e w1 ⟨rfl, hb⟩
  have HB := Lib.hid hb
  clear hb
  go_wp2_with fail
  go_ret
  exact ⟨rfl, HB.out⟩
set_option maxRecDepth 100000 in
theorem bitsL_any (w : World) (B mb b nm : Nat) (V : Nat → Prop) (C : Pl → Option (List Int)) (h : MapsAt w B mb b nm V C) (fn q : Int) (hI : i64B fn ∧ i64B q) (hCl : ∀ x K, C x = some K → K.length ≤ 16) :
    Calls Tryz.prog 125 #[.pointer (some ⟨mb, 0, none⟩), .int .i64 fn, .int .i64 q, .func (.func 128) #[] #[]] w fun e w' => e = .returned (.int .u16 (bitsP isLocB ((C ⟨(fn, q), hI⟩).getD []) ((C ⟨(fn, q), hI⟩).getD []).length : Nat)) ∧ Below w.heap.size w w' := by
  have km := kindsM_any w B mb b nm V C h fn q hI (fun x K hx => Nat.le_trans (hCl x K hx) (by decide))
  have hkl : ((C ⟨(fn, q), hI⟩).getD []).length ≤ 16 := by
    cases hc : C ⟨(fn, q), hI⟩ with
    | none => exact Nat.zero_le _
    | some K => exact hCl _ K hc
  clear h hCl
  generalize (C ⟨(fn, q), hI⟩).getD [] = K at *
  have KM := Lib.hid km
  clear km
  go_enter Tryz.func125, Tryz.ntmps125
  go_wp2_with fail
  refine KM.out.mono ?_
  rintro e w1 ⟨v, rfl, ho, hb⟩
  obtain ⟨va, vc, rfl, hs⟩ := own_int ho
  have HS := Lib.hid hs
  have HB := Lib.hid hb
  clear hs hb ho
  go_upto_region 3 with fail
  go_loopw [9, 19] (fun o i wr => ∃ k : Nat, k ≤ K.length ∧ i = .int .i64 k ∧ o = .int .u16 (bitsP isLocB K k : Nat) ∧ Below w1.heap.size w1 wr) (fun _ i _ => K.length - (intOf i).toNat)
  case atStart => exact ⟨0, Nat.zero_le _, rfl, rfl, Below.refl _ _⟩
  case round =>
    obtain ⟨k, hk, rfl, rfl, hbr⟩ := hrel
    by_cases hlt : k < K.length
    case neg =>
      have hk' : k = K.length := by omega
      have HBE := Lib.hid (HB.out.trans (hbr.mono HB.out.size))
      have hkn : ¬ (k : Int) < (K.length : Int) := by omega
      obtain ⟨x, hx⟩ : ∃ x, x = bitsP isLocB K k := ⟨_, rfl⟩
      have HXX := Lib.hid (show x = bitsP isLocB K K.length from by rw [hx, hk'])
      rw [← hx]
      clear hx
      clear hk' hk hbr
      go_wp2_with fail
      go_ret
      exact ⟨(congrArg (fun n : Nat => Ending.returned (Value.int IntKind.u16 (n : Int))) HXX.out), HBE.out⟩
    have hkl2 : (k : Int) < (K.length : Int) := by omega
    obtain ⟨b, o, rfl, _, c1⟩ := HS.out k hlt
    replace c1 := below_cell hbr c1
    have hx := bitsP_lt isLocB K k
    have hor := or_bit hx (by omega)
    have hsucc : bitsP isLocB K (k + 1) = bitsP isLocB K k + if isLocB K[k] then 2 ^ k else 0 := by
      show bitsP isLocB K k + _ = _
      simp [hlt]
    have i1 : IntKind.i64.wrap ((k : Int) + 1) = (k : Int) + 1 := IntWalk.i64_in _ (by omega)
    generalize K[k] = y at *
    generalize bitsP isLocB K k = x at *
    have pt := placesX_any wr y
    have PT := Lib.hid pt
    have HSU := Lib.hid hsucc
    have HOR := Lib.hid hor
    have HLT := Lib.hid hlt
    have HBR := Lib.hid hbr
    clear pt hsucc hor hlt hbr hx
    go_wp2_with fail
    refine PT.out.mono ?_
    cases hB : isLocB y
    · rintro e w2 ⟨rfl, rfl⟩
      have HSB := Lib.hid (show bitsP isLocB K (k + 1) = x from by rw [HSU.out, hB]; simp)
      clear hB
      go_wp2_with fail
      go_roundw
      case rel => exact ⟨k + 1, HLT.out, by go_num, by rw [HSB.out], HBR.out⟩
      case measure => simp [intOf]; omega
    · rintro e w2 ⟨rfl, rfl⟩
      have HSB := Lib.hid (show bitsP isLocB K (k + 1) = x + 2 ^ k from by rw [HSU.out, hB]; simp)
      clear hB
      go_wp2_with fail
      go_roundw
      case rel => exact ⟨k + 1, HLT.out, by go_num, by rw [HSB.out, HOR.out], HBR.out⟩
      case measure => simp [intOf]; omega
set_option maxRecDepth 100000 in
theorem mplaces_any (w : World) (B mb b nm : Nat) (V : Nat → Prop) (C : Pl → Option (List Int)) (h : MapsAt w B mb b nm V C) (fn q : Int) (hI : i64B fn ∧ i64B q) (hCl : ∀ x K, C x = some K → K.length ≤ 16) :
    Calls Tryz.prog 89 #[.pointer (some ⟨mb, 0, none⟩), .int .i64 fn, .int .i64 q] w fun e w' => e = .returned (.int .u16 (bitsP isLocB ((C ⟨(fn, q), hI⟩).getD []) ((C ⟨(fn, q), hI⟩).getD []).length : Nat)) ∧ Below w.heap.size w w' := by
  have bt := bitsL_any w B mb b nm V C h fn q hI hCl
  clear h hCl
  generalize bitsP isLocB ((C ⟨(fn, q), hI⟩).getD []) ((C ⟨(fn, q), hI⟩).getD []).length = x at *
  have BT := Lib.hid bt
  clear bt
  go_enter Tryz.func89, Tryz.ntmps89
  go_wp2_with fail
  refine BT.out.mono ?_
  rintro e w1 ⟨rfl, hb⟩
  have HB := Lib.hid hb
  clear hb
  go_wp2_with fail
  go_ret
  exact ⟨rfl, HB.out⟩
end Go.Proofs.YtknbllbhakpaaaaGreat
namespace Go.Proofs.YtknbllbhakpaaaaGreat
open Go.ChangeShapes Go.WideShapes Go.ChangeAt Go.RowKit Go.Maps
theorem row_allocR {w : World} {q : Nat} {ob : Obj} (h : w.heap[q]? = some ob) (o : Obj) : (w.alloc o).heap[q]? = some ob := (Fr.of_below ((Below.refl w.heap.size w).alloc (Nat.le_refl _) o) (fun _ => False)).heap h (fun h => h)
def funR (p : Prg) (n : Int) : Fun := if 0 ≤ n then (p.funcs[n.toNat]?).getD fun0 else fun0
theorem funR_at (p : Prg) (j : Nat) (hj : j < p.funcs.length) : funR p j = p.funcs[j] := by unfold funR; rw [if_pos (by omega)]; simp [hj]
theorem funR_out (p : Prg) (n : Int) (h : n < 0 ∨ p.funcs.length ≤ n) : funR p n = fun0 := by
  unfold funR
  by_cases h0 : 0 ≤ n
  · rw [if_pos h0, List.getElem?_eq_none (by omega)]; rfl
  · rw [if_neg h0]
def FnRPost (p : Prg) (n : Int) (D : Nat → Prop) (w : World) (e : Ending) (w' : World) : Prop :=
  ∃ d0 d3 d4, e = .returned (.agg #[d0, .int .i64 (funR p n).result, .int .i64 (funR p n).slots, d3, d4]) ∧ FunVal w' D (funR p n) d0 (.int .i64 (funR p n).result) (.int .i64 (funR p n).slots) d3 d4 ∧ Below w.heap.size w w'
theorem fnR_none {p : Prg} {n : Int} {D : Nat → Prop} {w w' : World} (hn : n < 0 ∨ p.funcs.length ≤ n) (hb : Below w.heap.size w w') : FnRPost p n D w (.returned (.agg #[.slice none 0 0, .int .i64 0, .int .i64 0, .slice none 0 0, .slice none 0 0])) w' := by
  unfold FnRPost
  rw [funR_out p n hn]
  exact ⟨_, _, _, rfl, fun0_val _ _, hb⟩
theorem fnR_some {p : Prg} {n : Int} {g : Fun} {D : Nat → Prop} {w w' : World} {d0 d3 d4 : Value} (hn : funR p n = g) (hv : FunVal w' D g d0 (.int .i64 g.result) (.int .i64 g.slots) d3 d4) (hb : Below w.heap.size w w') : FnRPost p n D w (.returned (.agg #[d0, .int .i64 g.result, .int .i64 g.slots, d3, d4])) w' := by
  unfold FnRPost
  rw [hn]
  exact ⟨_, _, _, rfl, hv, hb⟩
set_option maxRecDepth 100000 in
set_option maxHeartbeats 800000 in
theorem fnR_any (w : World) (D : Nat → Prop) (hD : ∀ k, D k → k < w.heap.size) (p : Prg) (c0 c1 c2 : Value) (hv : PrgVal w D p c0 c1 c2) (n : Int) :
    Calls Tryz.prog 34 #[.agg #[c0, c1, c2], .int .i64 n] w (FnRPost p n D w) := by
  obtain ⟨⟨a0, m0, rfl, _⟩, ⟨a1, m1, rfl, _⟩, a2, m2, rfl, hfs⟩ := hv
  generalize p.globals.length = n0 at *
  generalize p.shapes.length = n1 at *
  have hb0 := (Below.refl w.heap.size w).alloc (Nat.le_refl _) (.cells #[.slice a0 n0 m0, .slice a1 n1 m1, .slice a2 p.funcs.length m2] 34)
  have hb1 := hb0.alloc hb0.size (.cells #[.slice none 0 0, .int .i64 0, .int .i64 0, .slice none 0 0, .slice none 0 0] 31)
  have hr0 := row_allocR (heap_new w (.cells #[.slice a0 n0 m0, .slice a1 n1 m1, .slice a2 p.funcs.length m2] 34)) (.cells #[.slice none 0 0, .int .i64 0, .int .i64 0, .slice none 0 0, .slice none 0 0] 31)
  have hl2 := heap_new (w.alloc (.cells #[.slice a0 n0 m0, .slice a1 n1 m1, .slice a2 p.funcs.length m2] 34)) (.cells #[.slice none 0 0, .int .i64 0, .int .i64 0, .slice none 0 0, .slice none 0 0] 31)
  rw [show (w.alloc (.cells #[.slice a0 n0 m0, .slice a1 n1 m1, .slice a2 p.funcs.length m2] 34)).heap.size = w.heap.size + 1 from by simp] at hl2
  obtain ⟨W, hW⟩ : ∃ W, W = (w.alloc (.cells #[.slice a0 n0 m0, .slice a1 n1 m1, .slice a2 p.funcs.length m2] 34)).alloc (.cells #[.slice none 0 0, .int .i64 0, .int .i64 0, .slice none 0 0, .slice none 0 0] 31) := ⟨_, rfl⟩
  rw [← hW] at hb1 hr0 hl2
  have k2 : W.cell? ⟨w.heap.size, 2, none⟩ = some (.slice a2 p.funcs.length m2) := (row_cell hr0 2).1
  have hfs1 := hfs.fr (Fr.of_below hb1 (fun _ => False)) (fun _ _ h => h)
  have HW := Lib.hid hW
  have HFS := Lib.hid hfs1
  have HB := Lib.hid hb1
  have HL2 := Lib.hid hl2
  have HD := Lib.hid hD
  clear hW hb0 hb1 hr0 hl2 hfs hfs1 hD
  by_cases hn : n < 0 ∨ p.funcs.length ≤ n
  · skip
    have hr := row_set (row_set (row_set (row_set (row_set HL2.out 0 (.slice none 0 0)) 1 (.int .i64 0)) 2 (.int .i64 0)) 3 (.slice none 0 0)) 4 (.slice none 0 0)
    have hf : Fr (fun k => k = w.heap.size + 1) W _ := (((((Fr.refl (fun k => k = w.heap.size + 1) W).setCell (p := ⟨w.heap.size + 1, 0, none⟩) (fun _ => rfl) (.slice none 0 0)).setCell (p := ⟨w.heap.size + 1, 1, none⟩) (fun _ => rfl) (.int .i64 0)).setCell (p := ⟨w.heap.size + 1, 2, none⟩) (fun _ => rfl) (.int .i64 0)).setCell (p := ⟨w.heap.size + 1, 3, none⟩) (fun _ => rfl) (.slice none 0 0)).setCell (p := ⟨w.heap.size + 1, 4, none⟩) (fun _ => rfl) (.slice none 0 0)
    have hb := HB.out.trans (hf.below HB.out.size (fun k hk => by omega))
    obtain ⟨⟨u0, u1, u2, u3, u4⟩, n0, n1, n2, n3, n4⟩ := five_cells HL2.out
    have hP := fnR_none (D := D) hn hb
    clear hf hb
    have HR := Lib.hid hr; clear hr
    have HP := Lib.hid hP; clear hP
    by_cases h0 : n < 0
    · go_enter Tryz.func34, Tryz.ntmps34
      go_upto_region 1 with fail
      rw [← HW.out]
      go_wp2_with (with_reducible refine bodyPost_ret ?_ rfl HP.out; obtain ⟨⟨k0, k1, k2, k3, k4⟩, _⟩ := five_cells HR.out; simp [results, Tryz.results34, go_sem, k0, k1, k2, k3, k4])
    · have h1 : (p.funcs.length : Int) ≤ n := by omega
      go_enter Tryz.func34, Tryz.ntmps34
      go_upto_region 1 with fail
      rw [← HW.out]
      go_wp2_with (with_reducible refine bodyPost_ret ?_ rfl HP.out; obtain ⟨⟨k0, k1, k2, k3, k4⟩, _⟩ := five_cells HR.out; simp [results, Tryz.results34, go_sem, k0, k1, k2, k3, k4])
  · obtain ⟨j, rfl⟩ : ∃ j : Nat, n = j := ⟨n.toNat, by omega⟩
    have hj : j < p.funcs.length := by omega
    have hq := funR_at p j hj
    have hfj := HFS.out j hj
    have h0 : ¬ (j : Int) < 0 := by omega
    have h1 : ¬ (p.funcs.length : Int) ≤ (j : Int) := by omega
    have h2 : (j : Int) < p.funcs.length := by omega
    have h3 : (0 : Int) ≤ (j : Int) := by omega
    obtain ⟨bb, o, rfl, hbb, e0, e1, e2, e3, e4, g0, g1, g2, g3, g4, hfv⟩ := hfj
    have hfw := hfv
    generalize p.funcs[j] = f at *
    obtain ⟨rfl, rfl, ⟨y0, y1, rfl, _⟩, ⟨y2, y3, rfl, _⟩, y4, y5, rfl, _⟩ := hfv
    have hr := row_set (row_set (row_set (row_set (row_set HL2.out 0 (.slice y0 f.args.length y1)) 1 (.int .i64 f.result)) 2 (.int .i64 f.slots)) 3 (.slice y2 f.objects.length y3)) 4 (.slice y4 f.code.length y5)
    have hf : Fr (fun k => k = w.heap.size + 1) W _ := (((((Fr.refl (fun k => k = w.heap.size + 1) W).setCell (p := ⟨w.heap.size + 1, 0, none⟩) (fun _ => rfl) (.slice y0 f.args.length y1)).setCell (p := ⟨w.heap.size + 1, 1, none⟩) (fun _ => rfl) (.int .i64 f.result)).setCell (p := ⟨w.heap.size + 1, 2, none⟩) (fun _ => rfl) (.int .i64 f.slots)).setCell (p := ⟨w.heap.size + 1, 3, none⟩) (fun _ => rfl) (.slice y2 f.objects.length y3)).setCell (p := ⟨w.heap.size + 1, 4, none⟩) (fun _ => rfl) (.slice y4 f.code.length y5)
    have hb := HB.out.trans (hf.below HB.out.size (fun k hk => by omega))
    obtain ⟨⟨u0, u1, u2, u3, u4⟩, n0, n1, n2, n3, n4⟩ := five_cells HL2.out
    have hP := fnR_some (D := D) hq (hfw.fr hf (fun k hk e => by have := HD.out k hk; omega)) hb
    clear hf hb hfw hq hn
    have HR := Lib.hid hr; clear hr
    have HP := Lib.hid hP; clear hP
    go_enter Tryz.func34, Tryz.ntmps34
    go_upto_region 1 with fail
    rw [← HW.out]
    go_wp2_with (with_reducible refine bodyPost_ret ?_ rfl HP.out; obtain ⟨⟨k0, k1, k2, k3, k4⟩, _⟩ := five_cells HR.out; simp [results, Tryz.results34, go_sem, k0, k1, k2, k3, k4])
end Go.Proofs.YtknbllbhakpaaaaGreat
namespace Go.Proofs.YtknbllbhakpaaaaGreat
open Go.ChangeShapes Go.WideShapes Go.ChangeAt Go.RowKit Go.Maps
theorem append_freshR {P : Program} {α : Type} (E : Elem P α) {ops : Array Oper} {rest : List Oper} {o : Oper} {a : Act} {Q : Exit → Act → World → Prop} {w : World} (hgd : o.guard = none) (s x : Operand)
    (ho : o.op = .call { callee := .builtin .append, args := #[s, x], argTypes := #[E.t, E.t] })
    (B : Nat) (l m : List α) (v : Value) (hs : a.eval s = v) (hown : Own E w B v l) (b of c : Nat) (hx : a.eval x = .slice (some ⟨b, of, none⟩) m.length c)
    (hm : CellsAt w b of (m.flatMap E.enc)) (hlen : l.length + m.length ≤ 100000000) (hB : B ≤ w.heap.size)
    (h : ∀ v' w', Own E w' B v' (l ++ m) → w.grownBy w' v.ownBlock → Fresh w v v' → wpList P ops Q rest (a.put o.dst v') w') : wpList P ops Q (o :: rest) a w :=
  wpList_plain hgd fun _ hK => by
    obtain ⟨v', w', hr, h2, h3, h4⟩ := run_append_fresh E w o.type B l m v hown b of c hm hlen hB
    unfold Oper.wp execOp
    simp only [ho, resolve, invoke, builtin, Sem.run_bind, Sem.run_pure, Result.andThen_ok, List.map_toArray, List.map_cons, List.map_nil, hs, hx, hr]
    exact hK _ _ (h v' w' h2 h3 h4)
structure SpotD where (fn pc base : Int) (leaving defers : Bool) (value : Int) (has : Bool) (slots objects : List Int)
def spotA (s : SpotD) (a7 : Option Addr) (c7 : Nat) (a8 : Option Addr) (c8 : Nat) : Array Value := #[.int .i64 s.fn, .int .i64 s.pc, .int .i64 s.base, .bool s.leaving, .bool s.defers, .int .i64 s.value, .bool s.has, .slice a7 s.slots.length c7, .slice a8 s.objects.length c8]
/-- the first n of l whose bits are set -/
def selL (l : List Int) (bits : Nat) (n : Nat) : List Int := (List.range n).filterMap (fun k => if k < 16 ∧ bits.testBit k = true then l[k]? else none)
theorem selL_succ (l : List Int) (bits n : Nat) : selL l bits (n + 1) = selL l bits n ++ (if n < 16 ∧ bits.testBit n = true then (l[n]?).toList else []) := by
  unfold selL
  rw [List.range_succ, List.filterMap_append]
  congr 1
  by_cases h : n < 16 ∧ bits.testBit n = true
  · simp only [List.filterMap_cons, if_pos h, List.filterMap_nil]
    cases l[n]? <;> rfl
  · simp only [List.filterMap_cons, if_neg h, List.filterMap_nil]
theorem selL_mem {l : List Int} {bits n : Nat} {x : Int} : x ∈ selL l bits n ↔ ∃ k, k < n ∧ k < 16 ∧ bits.testBit k = true ∧ l[k]? = some x := by
  unfold selL
  rw [List.mem_filterMap]
  constructor
  · rintro ⟨k, hk, h⟩
    rw [List.mem_range] at hk
    split at h
    · next h2 => exact ⟨k, hk, h2.1, h2.2, h⟩
    · cases h
  · rintro ⟨k, hk, h1, h2, h3⟩
    exact ⟨k, List.mem_range.2 hk, by rw [if_pos ⟨h1, h2⟩]; exact h3⟩
theorem selL_len (l : List Int) (bits n : Nat) : (selL l bits n).length ≤ n := by
  unfold selL
  have := List.length_filterMap_le (fun k => if k < 16 ∧ bits.testBit k = true then l[k]? else none) (List.range n)
  simpa using this
theorem shr_bit (x k : Nat) : ((x : Int) / 2 ^ k) = ((x / 2 ^ k : Nat) : Int) := by simp [Int.natCast_ediv, Int.natCast_pow]
theorem and_bit {x k : Nat} (hx : x < 65536) : (bits BinOp.and IntKind.u16 ((x : Int) / 2 ^ k) 1 == 1) = x.testBit k := by
  have h1 : x / 2 ^ k < 65536 := Nat.lt_of_le_of_lt (Nat.div_le_self _ _) hx
  have h2 := u16_and_nat (x / 2 ^ k) 1 h1 (by decide)
  rw [shr_bit]
  have h3 : ((1 : Nat) : Int) = 1 := rfl
  rw [h3] at h2
  rw [h2, Nat.and_one_is_mod, Nat.testBit_eq_decide_div_mod_eq]
  by_cases h : x / 2 ^ k % 2 = 1
  · rw [h]; simp
  · rw [decide_eq_false h]
    rw [beq_eq_false_iff_ne]
    omega
set_option maxRecDepth 100000 in
set_option maxHeartbeats 1600000 in
theorem slotsR_any (w : World) (D : Nat → Prop) (hD : ∀ k, D k → k < w.heap.size) (s : SpotD) (a7 a8 : Option Addr) (c7 c8 : Nat) (h7 : IntSl w D a7 s.slots) (hsl : s.slots.length ≤ 1000000) (bs : Nat) (hbs : bs < 65536) :
    Calls Tryz.prog 85 #[.agg (spotA s a7 c7 a8 c8), .int .u16 bs] w fun e w' => ∃ v, e = .returned v ∧ Own intE w' w.heap.size v (selL s.slots bs s.slots.length) ∧ Below w.heap.size w w' := by
  unfold spotA
  have hb0 := (Below.refl w.heap.size w).alloc (Nat.le_refl _) (.cells #[.int .i64 s.fn, .int .i64 s.pc, .int .i64 s.base, .bool s.leaving, .bool s.defers, .int .i64 s.value, .bool s.has, .slice a7 s.slots.length c7, .slice a8 s.objects.length c8] 36)
  have hr0 := heap_new w (.cells #[.int .i64 s.fn, .int .i64 s.pc, .int .i64 s.base, .bool s.leaving, .bool s.defers, .int .i64 s.value, .bool s.has, .slice a7 s.slots.length c7, .slice a8 s.objects.length c8] 36)
  obtain ⟨W, hW⟩ : ∃ W, W = w.alloc (.cells #[.int .i64 s.fn, .int .i64 s.pc, .int .i64 s.base, .bool s.leaving, .bool s.defers, .int .i64 s.value, .bool s.has, .slice a7 s.slots.length c7, .slice a8 s.objects.length c8] 36) := ⟨_, rfl⟩
  rw [← hW] at hb0 hr0
  have k7 : W.cell? ⟨w.heap.size, 7, none⟩ = some (.slice a7 s.slots.length c7) := (row_cell hr0 7).1
  have hl1 := h7.fr (Fr.of_below hb0 (fun _ => False)) (fun _ _ h => h)
  have hDW : ∀ k, D k → k < W.heap.size := fun k hk => Nat.lt_of_lt_of_le (hD k hk) hb0.size
  have HW := Lib.hid hW
  have HL := Lib.hid hl1
  have HB := Lib.hid hb0
  have HD := Lib.hid hDW
  have HSL := Lib.hid hsl
  clear hW hr0 h7 hl1 hb0 hD hDW hsl
  go_enter Tryz.func85, Tryz.ntmps85
  go_upto_region 1 with fail
  rw [← HW.out]
  go_upto_region 3 with fail
  go_wp2_with fail
  go_loopw [5, 11] (fun o i wr => ∃ k : Nat, k ≤ s.slots.length ∧ i = .int .i64 k ∧ Own intE wr W.heap.size o (selL s.slots bs k) ∧ Below W.heap.size W wr) (fun _ i _ => s.slots.length - (intOf i).toNat)
  case atStart => exact ⟨0, Nat.zero_le _, rfl, Own.nil _ _ _, Below.refl _ _⟩
  case round =>
    clear k7
    obtain ⟨k, hk, rfl, ho, hfr⟩ := hrel
    obtain ⟨q1, q2, q3, rfl⟩ := ho.slice
    have hsl := HSL.out
    by_cases hlt : k < s.slots.length
    · obtain ⟨x, hxe⟩ : ∃ x, x = s.slots[k] := ⟨_, rfl⟩
      have hxk : s.slots[k]? = some x := by rw [hxe, List.getElem?_eq_getElem hlt]
      obtain ⟨bb, oo, rfl, hbD, hc⟩ := HL.out k hlt
      rw [← hxe] at hc
      have hc := below_cell hfr hc
      clear hxe
      have HXK := Lib.hid hxk
      clear hxk
      have h0k : (0 : Int) ≤ (k : Int) := by omega
      have i1 : IntKind.u64.wrap (k : Int) = (k : Int) := by simp [IntKind.wrap, IntKind.bits, IntKind.signed]; omega
      by_cases h16 : k < 16
      · have h16' : (k : Int) < 16 := by omega
        have hb := and_bit (k := k) hbs
        cases hbit : bs.testBit k with
        | false =>
          rw [hbit] at hb
          have hno : ¬ (k < 16 ∧ bs.testBit k = true) := by rw [hbit]; simp
          clear hbit
          have hs1 := hfr
          have HO1 := Lib.hid (show Own intE wr W.heap.size (.slice q1 q2 q3) (selL s.slots bs (k + 1)) by rw [selL_succ, if_neg hno, List.append_nil]; exact ho)
          clear ho hfr
          have HS1 := Lib.hid hs1; clear hs1
          go_wp2_with fail
          go_roundw
          case rel => exact ⟨k + 1, hlt, by go_num, HO1.out, HS1.out⟩
          case measure => simp [intOf]; omega
        | true =>
          rw [hbit] at hb
          have hll := selL_len s.slots bs k
          have HSE := Lib.hid (show selL s.slots bs (k + 1) = selL s.slots bs k ++ [x] by rw [selL_succ, if_pos ⟨h16, hbit⟩, HXK.out]; rfl)
          clear hbit
          have HO := Lib.hid ho; clear ho
          have HFR := Lib.hid hfr; clear hfr
          go_wp2_with (at_builtin; refine append_freshR intE rfl (.tmp 26) (.tmp 28) rfl W.heap.size (selL s.slots bs k) [x] _ rfl (HO.out.alloc _) wr.heap.size 0 1 rfl (CellsAt.new _ _ _ _) ?c1 ?c2 ?_)
          case c1 => first | omega | (simp; omega)
          case c2 => have := HFR.out.size; simp; omega
          intro v9 w9 ho9 hg9 hf9
          have hfr9 := ((Fr.refl (fun q => (Value.slice q1 q2 q3).ownBlock = some q) wr).alloc (.cells #[.int .i64 x] 3)).grown hg9 (fun k hk _ => hk)
          have hb9 := HFR.out.trans (hfr9.below HFR.out.size (fun q hq => (HO.out.lt hq).1))
          rw [← HSE.out] at ho9
          obtain ⟨x1, x2, x3, rfl⟩ := ho9.slice
          clear hg9 hf9 hfr9 HO HFR
          have HO9 := Lib.hid ho9; clear ho9
          have HB9 := Lib.hid hb9; clear hb9
          go_wp2_with fail
          go_roundw
          case rel => exact ⟨k + 1, hlt, by go_num, HO9.out, HB9.out⟩
          case measure => simp [intOf]; omega
      · have h16' : ¬ (k : Int) < 16 := by omega
        have hno : ¬ (k < 16 ∧ bs.testBit k = true) := fun h => h16 h.1
        have hs1 := hfr
        have HO1 := Lib.hid (show Own intE wr W.heap.size (.slice q1 q2 q3) (selL s.slots bs (k + 1)) by rw [selL_succ, if_neg hno, List.append_nil]; exact ho)
        clear ho hfr
        have HS1 := Lib.hid hs1; clear hs1
        go_wp2_with fail
        go_roundw
        case rel => exact ⟨k + 1, hlt, by go_num, HO1.out, HS1.out⟩
        case measure => simp [intOf]; omega
    · have hk' : k = s.slots.length := by omega
      subst hk'
      have hbe := HB.out.trans (hfr.mono HB.out.size)
      have hoe := ho.base (B' := w.heap.size) (fun q hq => Nat.le_trans HB.out.size (ho.lt hq).1)
      clear ho hfr
      have HBE := Lib.hid hbe; clear hbe
      have HOE := Lib.hid hoe; clear hoe
      go_wp2_with fail
      go_ret
      exact ⟨_, rfl, HOE.out, HBE.out⟩
end Go.Proofs.YtknbllbhakpaaaaGreat
