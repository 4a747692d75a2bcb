import Derived.Test.YthkhgihjigmkoaaGreatRAr
import Derived.Test.YthkhgihjigmkoaaGreatRAo
import Derived.Test.YthkhgihjigmkoaaGreatRBp
import Derived.Test.YthkhgihjigmkoaaGreatRBq
import Derived.Test.YthkhgihjigmkoaaGreatRAa
import Derived.Test.YthkhgihjigmkoaaGreatRBn
import Derived.Deep.Upon
import Derived.Test.YthkhgihjigmkoaaGreatRBg
import Derived.Test.YthkhgihjigmkoaaGreatRBd
import Derived.Test.YthkhgihjigmkoaaGreatRBj
import Derived.Test.YthkhgihjigmkoaaGreatRAx
import Derived.Test.YthkhgihjigmkoaaGreatRAg
import Derived.Test.YthkhgihjigmkoaaGreatRAc
import Derived.Deep.RegionHeld3
import Derived.Deep.CutBlock
import Derived.Deep.DeepCutAuto
import Derived.Test.YthkhgihjigmkoaaGreatRBe
import Derived.Test.YthkhgihjigmkoaaGreatRBf
import Derived.Test.YthkhgihjigmkoaaGreatRAe
import Derived.Laws.BitsAllLaws
set_option linter.unusedVariables false
set_option linter.unusedSimpArgs false
namespace Go.Proofs.YthkhgihjigmkoaaGreat.Tk
open Go.ChangeShapes Go.WideShapes Go.ChangeAt Go.RowKit Go.Maps
theorem w10 : wordsN p1 (0 : Nat) = 7 := by decide
theorem w11 : wordsN p1 (1 : Nat) = 7 := by decide
end Go.Proofs.YthkhgihjigmkoaaGreat.Tk
namespace Go.Proofs.YthkhgihjigmkoaaGreat.Tk
open Go.ChangeShapes Go.WideShapes Go.ChangeAt Go.RowKit Go.Maps
theorem slot_three (slot : Int) : ∃ s : Nat, s < 3 ∧ (wrap64 (slot.tmod 3 + 3)).tmod 3 = (s : Int) := by
 have h1 := Int.lt_tmod_of_pos slot (show (0 : Int) < 3 by decide)
 have h2 := Int.tmod_lt_of_pos slot (show (0 : Int) < 3 by decide)
 generalize slot.tmod 3 = r at *
 have h3 : wrap64 (r + 3) = r + 3 := IntWalk.wrap64_in _ (by omega)
 rw [h3, Int.tmod_eq_emod_of_nonneg (by omega)]
 exact ⟨((r + 3) % 3).toNat, by omega, by omega⟩
end Go.Proofs.YthkhgihjigmkoaaGreat.Tk
namespace Go.Proofs.YthkhgihjigmkoaaGreat.Tk
open Go.ChangeShapes Go.WideShapes Go.ChangeAt Go.RowKit Go.Maps
theorem singleS (w : World) (sl : Nat) (code : List Ins) (cb co cc : Nat) (hcd : CellsAt w cb co (code.flatMap insE.enc)) (hn : code.length ≤ 1000) :
  Calls Tryz.prog 27 #[.int .i64 sl, .slice (some ⟨cb, co, none⟩) code.length cc] w fun e w' => ∃ a0 n0 m0 a1 m1 a2 m2, ∃ D : Nat → Prop, e = .returned (.agg #[.slice a0 n0 m0, .slice a1 1 m1, .slice a2 1 m2]) ∧ (∀ k, D k → k < w'.heap.size) ∧ PV w' D (qS sl) (.slice a0 n0 m0) (.slice a1 1 m1) (.slice a2 1 m2) ∧ PrgVal w' D (pS sl code) (.slice a0 n0 m0) (.slice a1 1 m1) (.slice a2 1 m2) ∧ Below w.heap.size w w' := by
 refine (single_any w sl code cb co cc hcd hn).mono ?_
 rintro e w' ⟨c0, c1, c2, rfl, hv, hg, hb⟩
 obtain ⟨a0, n0, m0, a1, m1, a2, m2, rfl, rfl, rfl⟩ := hv.three
 exact ⟨a0, n0, m0, a1, m1, a2, m2, _, rfl, fun k hk => hk.2, hv, hg, hb⟩
theorem boxS {w4 : World} {D : Nat → Prop} {sl : Nat} {code : List Ins} {a0 a1 a2 : Option Addr} {n0 m0 m1 m2 : Nat} {tb' : Nat → List (Option (List Int))} (hv : PV w4 D (qS sl) (.slice a0 n0 m0) (.slice a1 1 m1) (.slice a2 1 m2)) (hg : PrgVal w4 D (pS sl code) (.slice a0 n0 m0) (.slice a1 1 m1) (.slice a2 1 m2)) (hD : ∀ k, D k → k < w4.heap.size) (hs : sl ≤ 10) (hB : PrgB (pS sl code) ∧ PrgR (pS sl code)) (ht : TabOk (pS sl code) tb' ∧ (progS (pS sl code)).1 = 0) (W : World) (hW : W = w4.alloc (.cells #[.slice a0 n0 m0, .slice a1 1 m1, .slice a2 1 m2] 27)) :
  (∀ wx, Below W.heap.size W wx → wx.cell? ⟨w4.heap.size, 0, none⟩ = some (.slice a0 n0 m0) ∧ wx.cell? ⟨w4.heap.size, 1, none⟩ = some (.slice a1 1 m1) ∧ wx.cell? ⟨w4.heap.size, 2, none⟩ = some (.slice a2 1 m2) ∧ PrgVal wx D (pS sl code) (.slice a0 n0 m0) (.slice a1 1 m1) (.slice a2 1 m2)) ∧
  (∀ k, D k → k < W.heap.size) ∧ Below w4.heap.size w4 W ∧ Calls Tryz.prog 29 #[.agg #[.slice a0 n0 m0, .slice a1 1 m1, .slice a2 1 m2]] W (BegS W sl code tb') := by
 have hba := (Below.refl w4.heap.size w4).alloc (Nat.le_refl _) (.cells #[.slice a0 n0 m0, .slice a1 1 m1, .slice a2 1 m2] 27)
 have hra := heap_new w4 (.cells #[.slice a0 n0 m0, .slice a1 1 m1, .slice a2 1 m2] 27)
 rw [← hW] at hba hra
 have hg' := hg.fr (Fr.of_below hba (fun _ => False)) (fun _ _ h => h)
 have hD' : ∀ k, D k → k < W.heap.size := fun k hk => Nat.lt_of_lt_of_le (hD k hk) hba.size
 refine ⟨fun wx hw => ?_, hD', hba, beginS W D hD' sl hs code _ _ _ (hv.below hba) hg' hB ht.2 tb' ht.1⟩
 have g1 := (Fr.of_below hw (fun _ => False)).heap hra (fun h => h)
 exact ⟨(row_cell g1 0).1, (row_cell g1 1).1, (row_cell g1 2).1, hg'.fr (Fr.of_below hw (fun _ => False)) (fun _ _ h => h)⟩
theorem runIfYesS {w : World} {F : Nat → Prop} {tb sl : Nat} {X : TB} {pc : Nat} {ws : List Int} (h : TaskAt w F tb (qS sl) (SF pc ws) X) (hl : ws.length = 64) (hs : sl ≤ 10) (hpc : pc ≤ 1000) (sa : Nat) (hk : sa < sl) (x : Int) (hx : ws[2 + sa]? = some x) (h0 : x ≠ 0) (c0 c1 c2 mp : Value) (b c : Int) :
  Calls Tryz.prog 69 #[.agg (stepV c0 c1 c2 mp tb 10 sa b c)] w (RunPost w F tb (qS sl) X (SF b ws) (actV 0 0 0 0 0 false (.slice none 0 0))) :=
 run_ifYes w F tb (qS sl) (SF pc ws) X h (SF_ok pc ws hl) [] ⟨0, pc, 0, -1, none, 0, 0⟩ rfl ⟨by show (0 : Int) ≤ (pc : Int); omega, by show (pc : Int) ≤ 100000; omega⟩ 0 (by show 0 < 1; decide) rfl 0 rfl sa (by show (sa : Int) < (sl : Nat); omega) (by omega) (by show 0 + (2 + sa) < ws.length; omega) x (by rw [Nat.zero_add]; exact hx) h0 c0 c1 c2 mp b c
theorem runIfNoS {w : World} {F : Nat → Prop} {tb sl : Nat} {X : TB} {pc : Nat} {ws : List Int} (h : TaskAt w F tb (qS sl) (SF pc ws) X) (hl : ws.length = 64) (hs : sl ≤ 10) (hpc : pc ≤ 1000) (sa : Nat) (hk : sa < sl) (hx : ws[2 + sa]? = some 0) (c0 c1 c2 mp : Value) (b c : Int) :
  Calls Tryz.prog 69 #[.agg (stepV c0 c1 c2 mp tb 10 sa b c)] w (RunPost w F tb (qS sl) X (SF ((pc + 1 : Nat) : Int) ws) (actV 0 0 0 0 0 false (.slice none 0 0))) :=
 run_ifNo w F tb (qS sl) (SF pc ws) X h (SF_ok pc ws hl) [] ⟨0, pc, 0, -1, none, 0, 0⟩ rfl ⟨by show (0 : Int) ≤ (pc : Int); omega, by show (pc : Int) ≤ 100000; omega⟩ 0 (by show 0 < 1; decide) rfl 0 rfl sa (by show (sa : Int) < (sl : Nat); omega) (by omega) (by show 0 + (2 + sa) < ws.length; omega) (by rw [Nat.zero_add]; exact hx) c0 c1 c2 mp b c
theorem runJumpS {w : World} {F : Nat → Prop} {tb sl : Nat} {X : TB} {pc : Nat} {ws : List Int} (h : TaskAt w F tb (qS sl) (SF pc ws) X) (hl : ws.length = 64) (hpc : pc ≤ 1000) (c0 c1 c2 mp : Value) (a b c : Int) :
  Calls Tryz.prog 69 #[.agg (stepV c0 c1 c2 mp tb 9 a b c)] w (RunPost w F tb (qS sl) X (SF b ws) (actV 0 0 0 0 0 false (.slice none 0 0))) :=
 run_jump w F tb (qS sl) (SF pc ws) X h (SF_ok pc ws hl) [] ⟨0, pc, 0, -1, none, 0, 0⟩ rfl ⟨by show (0 : Int) ≤ (pc : Int); omega, by show (pc : Int) ≤ 100000; omega⟩ 0 (by show 0 < 1; decide) rfl 0 rfl c0 c1 c2 mp a b c
end Go.Proofs.YthkhgihjigmkoaaGreat.Tk
namespace Go.Proofs.YthkhgihjigmkoaaGreat
open Go.ChangeShapes Go.WideShapes Go.ChangeAt Go.RowKit Go.Maps
set_option maxRecDepth 100000 in
theorem kindsM_any (w : World) (B mb b nm : Nat) (V : Nat → Prop) (C : Pl → Option (List Int)) (h : MapsAt w B mb b nm V C) (fn q : Int) (hI : i64B fn ∧ i64B q) (hCl : ∀ x K, C x = some K → K.length ≤ 100000) :
  Calls Tryz.prog 114 #[.pointer (some ⟨mb, 0, none⟩), .int .i64 fn, .int .i64 q] w fun e w' => ∃ v, e = .returned v ∧ Own intE w' w.heap.size v ((C ⟨(fn, q), hI⟩).getD []) ∧ Below w.heap.size w w' := by
 obtain ⟨hr, hm, _⟩ := h
 have k0 : w.cell? ⟨mb, 0, none⟩ = some (.map (some b)) := (row_cell hr 0).1
 cases hc : C ⟨(fn, q), hI⟩ with
 | none =>
  have hlk : (Instr.lookup 79 (.map (some b)) (.agg #[.int .i64 fn, .int .i64 q]) false).run Tryz.prog w = .ok (.slice none 0 0) w := (hm.none_run _ hc).2
  have cl := cloneInts_any w (fun _ => False) none [] 0 (fun j hj => by cases hj) (by simp)
  clear hr hm hCl hc
  have CL := Lib.hid cl; clear cl
  go_enter Tryz.func114, Tryz.ntmps114
  go_wp2_with fail
  refine CL.out.mono ?_
  rintro e w1 ⟨v, rfl, ho, hb⟩
  have HO := Lib.hid ho; clear ho
  have HB := Lib.hid hb; clear hb
  clear hlk
  go_wp2_with fail
  go_ret
  exact ⟨v, rfl, HO.out, HB.out⟩
 | some K =>
  obtain ⟨a, c, hs, _, hlk⟩ := hm.some_run _ K hc
  have hlk : (Instr.lookup 79 (.map (some b)) (.agg #[.int .i64 fn, .int .i64 q]) false).run Tryz.prog w = .ok (.slice a K.length c) w := hlk
  have cl := cloneInts_any w _ a K c hs (by have := hCl _ K hc; omega)
  clear hr hm hCl hc hs
  have CL := Lib.hid cl; clear cl
  go_enter Tryz.func114, Tryz.ntmps114
  go_wp2_with fail
  refine CL.out.mono ?_
  rintro e w1 ⟨v, rfl, ho, hb⟩
  have HO := Lib.hid ho; clear ho
  have HB := Lib.hid hb; clear hb
  clear hlk
  go_wp2_with fail
  go_ret
  exact ⟨v, rfl, HO.out, HB.out⟩
theorem MapsAt.below {w w' : World} {B mb b nm : Nat} {V : Nat → Prop} {C : Pl → Option (List Int)} (h : MapsAt w B mb b nm V C) (hb : Below w.heap.size w w') : MapsAt w' B mb b nm V C := by
 obtain ⟨h1, h2, h3, h4, h5⟩ := h
 exact ⟨(Fr.of_below hb (fun _ => False)).heap h1 (fun h => h), h2.fr (Fr.of_below hb (fun _ => False)) (fun h => h) (fun _ _ h => h), h3, h4, fun q hq => ⟨(h5 q hq).1, Nat.lt_of_lt_of_le (h5 q hq).2 hb.size⟩⟩
end Go.Proofs.YthkhgihjigmkoaaGreat
namespace Go.Proofs.YthkhgihjigmkoaaGreat
def PendAt (more : Bool) (pc : Nat) : Nat → Int → Prop := fun q _ => more = true ∨ pc ≤ q
def PendIn (more : Bool) (pc : Nat) (rem : List Int) : Nat → Int → Prop := fun q m => more = true ∨ pc < q ∨ (q = pc ∧ m ∈ rem)
theorem FInv.turned {p : Prg} {f : Fun} {M : Flo} {more : Bool} {pc n : Nat} {K : List Int} {l : List Int} (h : FInv p f M (PendIn more pc l)) (hn : n < f.code.length) (hK : K.length = f.slots.toNat) (hlow : ∀ S, Sol p f S → ∃ L, S n = some L ∧ Le L K) : ∀ rem, FInv p f (comeM M n K) (PendIn true pc rem) := fun _ =>
 (h.come n K hn hK hlow).1.weaken (fun _ _ _ => .inl rfl)
theorem FInv.again {p : Prg} {f : Fun} {M : Flo} {P : Nat → Int → Prop} (h : FInv p f M P) : FInv p f M (PendAt false 0) := h.weaken (fun _ _ _ => .inr (Nat.zero_le _))
end Go.Proofs.YthkhgihjigmkoaaGreat
namespace Go.Proofs.YthkhgihjigmkoaaGreat
open Go.ChangeShapes Go.WideShapes Go.ChangeAt Go.RowKit Go.Maps
def bitsP (b : Int → Bool) (K : List Int) : Nat → Nat
 | 0 => 0
 | n + 1 => bitsP b K n + if b ((K[n]?).getD 0) then 2 ^ n else 0
theorem bitsP_lt (b : Int → Bool) (K : List Int) : ∀ n, bitsP b K n < 2 ^ n
 | 0 => Nat.one_pos
 | n + 1 => by
  have := bitsP_lt b K n
  show bitsP b K n + _ < 2 ^ (n + 1)
  rw [Nat.pow_succ]
  split <;> omega
theorem or_bit {x k : Nat} (hx : x < 2 ^ k) (hk : k < 16) : bits BinOp.or IntKind.u16 (x : Int) (IntKind.u16.wrap (2 ^ k)) = ((x + 2 ^ k : Nat) : Int) := by
 have h1 : ∀ k : Nat, k < 16 → IntKind.u16.wrap (2 ^ k) = ((2 ^ k : Nat) : Int) := by decide
 have h2 : 2 ^ k ≤ 2 ^ 15 := Nat.pow_le_pow_right (by decide) (by omega)
 have h3 : (2 : Nat) ^ 15 = 32768 := by decide
 rw [h1 k hk, u16_or_nat x (2 ^ k) (by omega) (by omega)]
 have h4 := Nat.two_pow_add_eq_or_of_lt hx 1
 rw [Nat.mul_one] at h4
 rw [Nat.or_comm, ← h4, Nat.add_comm]
set_option maxRecDepth 100000 in
theorem bitsP_any (w : World) (B mb b nm : Nat) (V : Nat → Prop) (C : Pl → Option (List Int)) (h : MapsAt w B mb b nm V C) (fn q : Int) (hI : i64B fn ∧ i64B q) (hCl : ∀ x K, C x = some K → K.length ≤ 16) :
  Calls Tryz.prog 80 #[.pointer (some ⟨mb, 0, none⟩), .int .i64 fn, .int .i64 q, .func (.func 155) #[] #[]] w fun e w' => e = .returned (.int .u16 (bitsP isPtrB ((C ⟨(fn, q), hI⟩).getD []) ((C ⟨(fn, q), hI⟩).getD []).length : Nat)) ∧ Below w.heap.size w w' := by
 have km := kindsM_any w B mb b nm V C h fn q hI (fun x K hx => Nat.le_trans (hCl x K hx) (by decide))
 have hkl : ((C ⟨(fn, q), hI⟩).getD []).length ≤ 16 := by
  cases hc : C ⟨(fn, q), hI⟩ with
  | none => exact Nat.zero_le _
  | some K => exact hCl _ K hc
 clear h hCl
 generalize (C ⟨(fn, q), hI⟩).getD [] = K at *
 have KM := Lib.hid km
 clear km
 go_enter Tryz.func80, Tryz.ntmps80
 go_wp2_with fail
 refine KM.out.mono ?_
 rintro e w1 ⟨v, rfl, ho, hb⟩
 obtain ⟨va, vc, rfl, hs⟩ := own_int ho
 have HS := Lib.hid hs
 have HB := Lib.hid hb
 clear hs hb ho
 go_upto_region 3 with fail
 go_loopw [9, 19] (fun o i wr => ∃ k : Nat, k ≤ K.length ∧ i = .int .i64 k ∧ o = .int .u16 (bitsP isPtrB K k : Nat) ∧ Below w1.heap.size w1 wr) (fun _ i _ => K.length - (intOf i).toNat)
 case atStart => exact ⟨0, Nat.zero_le _, rfl, rfl, Below.refl _ _⟩
 case round =>
  obtain ⟨k, hk, rfl, rfl, hbr⟩ := hrel
  by_cases hlt : k < K.length
  case neg =>
   have hk' : k = K.length := by omega
   have HBE := Lib.hid (HB.out.trans (hbr.mono HB.out.size))
   have hkn : ¬ (k : Int) < (K.length : Int) := by omega
   obtain ⟨x, hx⟩ : ∃ x, x = bitsP isPtrB K k := ⟨_, rfl⟩
   have HXX := Lib.hid (show x = bitsP isPtrB K K.length from by rw [hx, hk'])
   rw [← hx]
   clear hx
   clear hk' hk hbr
   go_wp2_with fail
   go_ret
   exact ⟨(congrArg (fun n : Nat => Ending.returned (Value.int IntKind.u16 (n : Int))) HXX.out), HBE.out⟩
  have hkl2 : (k : Int) < (K.length : Int) := by omega
  obtain ⟨b, o, rfl, _, c1⟩ := HS.out k hlt
  replace c1 := below_cell hbr c1
  have hx := bitsP_lt isPtrB K k
  have hor := or_bit hx (by omega)
  have hsucc : bitsP isPtrB K (k + 1) = bitsP isPtrB K k + if isPtrB K[k] then 2 ^ k else 0 := by
   show bitsP isPtrB K k + _ = _
   simp [hlt]
  have i1 : IntKind.i64.wrap ((k : Int) + 1) = (k : Int) + 1 := IntWalk.i64_in _ (by omega)
  generalize K[k] = y at *
  generalize bitsP isPtrB K k = x at *
  have pt := pointsX_any wr y
  have PT := Lib.hid pt
  have HSU := Lib.hid hsucc
  have HOR := Lib.hid hor
  have HLT := Lib.hid hlt
  have HBR := Lib.hid hbr
  clear pt hsucc hor hlt hbr hx
  go_wp2_with fail
  refine PT.out.mono ?_
  cases hB : isPtrB y
  ·rintro e w2 ⟨rfl, rfl⟩
   have HSB := Lib.hid (show bitsP isPtrB K (k + 1) = x from by rw [HSU.out, hB]; simp)
   clear hB
   go_wp2_with fail
   go_roundw
   case rel => exact ⟨k + 1, HLT.out, by go_num, by rw [HSB.out], HBR.out⟩
   case measure => simp [intOf]; omega
  ·rintro e w2 ⟨rfl, rfl⟩
   have HSB := Lib.hid (show bitsP isPtrB K (k + 1) = x + 2 ^ k from by rw [HSU.out, hB]; simp)
   clear hB
   go_wp2_with fail
   go_roundw
   case rel => exact ⟨k + 1, HLT.out, by go_num, by rw [HSB.out, HOR.out], HBR.out⟩
   case measure => simp [intOf]; omega
set_option maxRecDepth 100000 in
theorem mpointers_any (w : World) (B mb b nm : Nat) (V : Nat → Prop) (C : Pl → Option (List Int)) (h : MapsAt w B mb b nm V C) (fn q : Int) (hI : i64B fn ∧ i64B q) (hCl : ∀ x K, C x = some K → K.length ≤ 16) :
  Calls Tryz.prog 142 #[.pointer (some ⟨mb, 0, none⟩), .int .i64 fn, .int .i64 q] w fun e w' => e = .returned (.int .u16 (bitsP isPtrB ((C ⟨(fn, q), hI⟩).getD []) ((C ⟨(fn, q), hI⟩).getD []).length : Nat)) ∧ Below w.heap.size w w' := by
 have bt := bitsP_any w B mb b nm V C h fn q hI hCl
 clear h hCl
 generalize bitsP isPtrB ((C ⟨(fn, q), hI⟩).getD []) ((C ⟨(fn, q), hI⟩).getD []).length = x at *
 have BT := Lib.hid bt
 clear bt
 go_enter Tryz.func142, Tryz.ntmps142
 go_wp2_with fail
 refine BT.out.mono ?_
 rintro e w1 ⟨rfl, hb⟩
 have HB := Lib.hid hb
 clear hb
 go_wp2_with fail
 go_ret
 exact ⟨rfl, HB.out⟩
end Go.Proofs.YthkhgihjigmkoaaGreat
