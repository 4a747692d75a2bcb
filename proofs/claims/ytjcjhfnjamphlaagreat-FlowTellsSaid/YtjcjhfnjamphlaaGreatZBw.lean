import Derived.Test.YtjcjhfnjamphlaaGreatZBv
import Derived.Laws.BitsAllLaws
import Derived.Test.YtjcjhfnjamphlaaGreatZAj
import Derived.Deep.RegionHeld3
set_option linter.unusedVariables false
set_option linter.unusedSimpArgs false
namespace Go.Proofs.YtjcjhfnjamphlaaGreat
open Go.ChangeShapes Go.WideShapes Go.ChangeAt Go.RowKit Go.Maps
def bitsP (b : Int → Bool) (K : List Int) : Nat → Nat
 | 0 => 0
 | n + 1 => bitsP b K n + if b ((K[n]?).getD 0) then 2 ^ n else 0
theorem bitsP_lt (b : Int → Bool) (K : List Int) : ∀ n, bitsP b K n < 2 ^ n
 | 0 => Nat.one_pos
 | n + 1 => by
  have := bitsP_lt b K n
  show bitsP b K n + _ < 2 ^ (n + 1)
  rw [Nat.pow_succ]
  split <;> omega
theorem or_bit {x k : Nat} (hx : x < 2 ^ k) (hk : k < 16) : bits BinOp.or IntKind.u16 (x : Int) (IntKind.u16.wrap (2 ^ k)) = ((x + 2 ^ k : Nat) : Int) := by
 have h1 : ∀ k : Nat, k < 16 → IntKind.u16.wrap (2 ^ k) = ((2 ^ k : Nat) : Int) := by decide
 have h2 : 2 ^ k ≤ 2 ^ 15 := Nat.pow_le_pow_right (by decide) (by omega)
 have h3 : (2 : Nat) ^ 15 = 32768 := by decide
 rw [h1 k hk, u16_or_nat x (2 ^ k) (by omega) (by omega)]
 have h4 := Nat.two_pow_add_eq_or_of_lt hx 1
 rw [Nat.mul_one] at h4
 rw [Nat.or_comm, ← h4, Nat.add_comm]
set_option maxRecDepth 100000 in
theorem bitsP_any (w : World) (B mb b nm : Nat) (V : Nat → Prop) (C : Pl → Option (List Int)) (h : MapsAt w B mb b nm V C) (fn q : Int) (hI : i64B fn ∧ i64B q) (hCl : ∀ x K, C x = some K → K.length ≤ 16) :
  Calls Tryz.prog 27 #[.pointer (some ⟨mb, 0, none⟩), .int .i64 fn, .int .i64 q, .func (.func 28) #[] #[]] w fun e w' => e = .returned (.int .u16 (bitsP isPtrB ((C ⟨(fn, q), hI⟩).getD []) ((C ⟨(fn, q), hI⟩).getD []).length : Nat)) ∧ Below w.heap.size w w' := by
 have km := kindsM_any w B mb b nm V C h fn q hI (fun x K hx => Nat.le_trans (hCl x K hx) (by decide))
 have hkl : ((C ⟨(fn, q), hI⟩).getD []).length ≤ 16 := by
  cases hc : C ⟨(fn, q), hI⟩ with
  | none => exact Nat.zero_le _
  | some K => exact hCl _ K hc
 clear h hCl
 generalize (C ⟨(fn, q), hI⟩).getD [] = K at *
 have KM := Lib.hid km
 clear km
 go_enter Tryz.func27, Tryz.ntmps27
 go_wp2_with fail
 refine KM.out.mono ?_
 rintro e w1 ⟨v, rfl, ho, hb⟩
 obtain ⟨va, vc, rfl, hs⟩ := own_int ho
 have HS := Lib.hid hs
 have HB := Lib.hid hb
 clear hs hb ho
 go_upto_region 3 with fail
 go_loopw [9, 19] (fun o i wr => ∃ k : Nat, k ≤ K.length ∧ i = .int .i64 k ∧ o = .int .u16 (bitsP isPtrB K k : Nat) ∧ Below w1.heap.size w1 wr) (fun _ i _ => K.length - (intOf i).toNat)
 case atStart => exact ⟨0, Nat.zero_le _, rfl, rfl, Below.refl _ _⟩
 case round =>
  obtain ⟨k, hk, rfl, rfl, hbr⟩ := hrel
  by_cases hlt : k < K.length
  case neg =>
   have hk' : k = K.length := by omega
   have HBE := Lib.hid (HB.out.trans (hbr.mono HB.out.size))
   have hkn : ¬ (k : Int) < (K.length : Int) := by omega
   obtain ⟨x, hx⟩ : ∃ x, x = bitsP isPtrB K k := ⟨_, rfl⟩
   have HXX := Lib.hid (show x = bitsP isPtrB K K.length from by rw [hx, hk'])
   rw [← hx]
   clear hx
   clear hk' hk hbr
   go_wp2_with fail
   go_ret
   exact ⟨(congrArg (fun n : Nat => Ending.returned (Value.int IntKind.u16 (n : Int))) HXX.out), HBE.out⟩
  have hkl2 : (k : Int) < (K.length : Int) := by omega
  obtain ⟨b, o, rfl, _, c1⟩ := HS.out k hlt
  replace c1 := below_cell hbr c1
  have hx := bitsP_lt isPtrB K k
  have hor := or_bit hx (by omega)
  have hsucc : bitsP isPtrB K (k + 1) = bitsP isPtrB K k + if isPtrB K[k] then 2 ^ k else 0 := by
   show bitsP isPtrB K k + _ = _
   simp [hlt]
  have i1 : IntKind.i64.wrap ((k : Int) + 1) = (k : Int) + 1 := IntWalk.i64_in _ (by omega)
  generalize K[k] = y at *
  generalize bitsP isPtrB K k = x at *
  have pt := pointsX_any wr y
  have PT := Lib.hid pt
  have HSU := Lib.hid hsucc
  have HOR := Lib.hid hor
  have HLT := Lib.hid hlt
  have HBR := Lib.hid hbr
  clear pt hsucc hor hlt hbr hx
  go_wp2_with fail
  refine PT.out.mono ?_
  cases hB : isPtrB y
  ·rintro e w2 ⟨rfl, rfl⟩
   have HSB := Lib.hid (show bitsP isPtrB K (k + 1) = x from by rw [HSU.out, hB]; simp)
   clear hB
   go_wp2_with fail
   go_roundw
   case rel => exact ⟨k + 1, HLT.out, by go_num, by rw [HSB.out], HBR.out⟩
   case measure => simp [intOf]; omega
  ·rintro e w2 ⟨rfl, rfl⟩
   have HSB := Lib.hid (show bitsP isPtrB K (k + 1) = x + 2 ^ k from by rw [HSU.out, hB]; simp)
   clear hB
   go_wp2_with fail
   go_roundw
   case rel => exact ⟨k + 1, HLT.out, by go_num, by rw [HSB.out, HOR.out], HBR.out⟩
   case measure => simp [intOf]; omega
set_option maxRecDepth 100000 in
theorem mpointers_any (w : World) (B mb b nm : Nat) (V : Nat → Prop) (C : Pl → Option (List Int)) (h : MapsAt w B mb b nm V C) (fn q : Int) (hI : i64B fn ∧ i64B q) (hCl : ∀ x K, C x = some K → K.length ≤ 16) :
  Calls Tryz.prog 14 #[.pointer (some ⟨mb, 0, none⟩), .int .i64 fn, .int .i64 q] w fun e w' => e = .returned (.int .u16 (bitsP isPtrB ((C ⟨(fn, q), hI⟩).getD []) ((C ⟨(fn, q), hI⟩).getD []).length : Nat)) ∧ Below w.heap.size w w' := by
 have bt := bitsP_any w B mb b nm V C h fn q hI hCl
 clear h hCl
 generalize bitsP isPtrB ((C ⟨(fn, q), hI⟩).getD []) ((C ⟨(fn, q), hI⟩).getD []).length = x at *
 have BT := Lib.hid bt
 clear bt
 go_enter Tryz.func14, Tryz.ntmps14
 go_wp2_with fail
 refine BT.out.mono ?_
 rintro e w1 ⟨rfl, hb⟩
 have HB := Lib.hid hb
 clear hb
 go_wp2_with fail
 go_ret
 exact ⟨rfl, HB.out⟩
set_option maxRecDepth 100000 in
theorem bitsL_any (w : World) (B mb b nm : Nat) (V : Nat → Prop) (C : Pl → Option (List Int)) (h : MapsAt w B mb b nm V C) (fn q : Int) (hI : i64B fn ∧ i64B q) (hCl : ∀ x K, C x = some K → K.length ≤ 16) :
  Calls Tryz.prog 27 #[.pointer (some ⟨mb, 0, none⟩), .int .i64 fn, .int .i64 q, .func (.func 29) #[] #[]] w fun e w' => e = .returned (.int .u16 (bitsP isLocB ((C ⟨(fn, q), hI⟩).getD []) ((C ⟨(fn, q), hI⟩).getD []).length : Nat)) ∧ Below w.heap.size w w' := by
 have km := kindsM_any w B mb b nm V C h fn q hI (fun x K hx => Nat.le_trans (hCl x K hx) (by decide))
 have hkl : ((C ⟨(fn, q), hI⟩).getD []).length ≤ 16 := by
  cases hc : C ⟨(fn, q), hI⟩ with
  | none => exact Nat.zero_le _
  | some K => exact hCl _ K hc
 clear h hCl
 generalize (C ⟨(fn, q), hI⟩).getD [] = K at *
 have KM := Lib.hid km
 clear km
 go_enter Tryz.func27, Tryz.ntmps27
 go_wp2_with fail
 refine KM.out.mono ?_
 rintro e w1 ⟨v, rfl, ho, hb⟩
 obtain ⟨va, vc, rfl, hs⟩ := own_int ho
 have HS := Lib.hid hs
 have HB := Lib.hid hb
 clear hs hb ho
 go_upto_region 3 with fail
 go_loopw [9, 19] (fun o i wr => ∃ k : Nat, k ≤ K.length ∧ i = .int .i64 k ∧ o = .int .u16 (bitsP isLocB K k : Nat) ∧ Below w1.heap.size w1 wr) (fun _ i _ => K.length - (intOf i).toNat)
 case atStart => exact ⟨0, Nat.zero_le _, rfl, rfl, Below.refl _ _⟩
 case round =>
  obtain ⟨k, hk, rfl, rfl, hbr⟩ := hrel
  by_cases hlt : k < K.length
  case neg =>
   have hk' : k = K.length := by omega
   have HBE := Lib.hid (HB.out.trans (hbr.mono HB.out.size))
   have hkn : ¬ (k : Int) < (K.length : Int) := by omega
   obtain ⟨x, hx⟩ : ∃ x, x = bitsP isLocB K k := ⟨_, rfl⟩
   have HXX := Lib.hid (show x = bitsP isLocB K K.length from by rw [hx, hk'])
   rw [← hx]
   clear hx
   clear hk' hk hbr
   go_wp2_with fail
   go_ret
   exact ⟨(congrArg (fun n : Nat => Ending.returned (Value.int IntKind.u16 (n : Int))) HXX.out), HBE.out⟩
  have hkl2 : (k : Int) < (K.length : Int) := by omega
  obtain ⟨b, o, rfl, _, c1⟩ := HS.out k hlt
  replace c1 := below_cell hbr c1
  have hx := bitsP_lt isLocB K k
  have hor := or_bit hx (by omega)
  have hsucc : bitsP isLocB K (k + 1) = bitsP isLocB K k + if isLocB K[k] then 2 ^ k else 0 := by
   show bitsP isLocB K k + _ = _
   simp [hlt]
  have i1 : IntKind.i64.wrap ((k : Int) + 1) = (k : Int) + 1 := IntWalk.i64_in _ (by omega)
  generalize K[k] = y at *
  generalize bitsP isLocB K k = x at *
  have pt := placesX_any wr y
  have PT := Lib.hid pt
  have HSU := Lib.hid hsucc
  have HOR := Lib.hid hor
  have HLT := Lib.hid hlt
  have HBR := Lib.hid hbr
  clear pt hsucc hor hlt hbr hx
  go_wp2_with fail
  refine PT.out.mono ?_
  cases hB : isLocB y
  ·rintro e w2 ⟨rfl, rfl⟩
   have HSB := Lib.hid (show bitsP isLocB K (k + 1) = x from by rw [HSU.out, hB]; simp)
   clear hB
   go_wp2_with fail
   go_roundw
   case rel => exact ⟨k + 1, HLT.out, by go_num, by rw [HSB.out], HBR.out⟩
   case measure => simp [intOf]; omega
  ·rintro e w2 ⟨rfl, rfl⟩
   have HSB := Lib.hid (show bitsP isLocB K (k + 1) = x + 2 ^ k from by rw [HSU.out, hB]; simp)
   clear hB
   go_wp2_with fail
   go_roundw
   case rel => exact ⟨k + 1, HLT.out, by go_num, by rw [HSB.out, HOR.out], HBR.out⟩
   case measure => simp [intOf]; omega
set_option maxRecDepth 100000 in
theorem mplaces_any (w : World) (B mb b nm : Nat) (V : Nat → Prop) (C : Pl → Option (List Int)) (h : MapsAt w B mb b nm V C) (fn q : Int) (hI : i64B fn ∧ i64B q) (hCl : ∀ x K, C x = some K → K.length ≤ 16) :
  Calls Tryz.prog 15 #[.pointer (some ⟨mb, 0, none⟩), .int .i64 fn, .int .i64 q] w fun e w' => e = .returned (.int .u16 (bitsP isLocB ((C ⟨(fn, q), hI⟩).getD []) ((C ⟨(fn, q), hI⟩).getD []).length : Nat)) ∧ Below w.heap.size w w' := by
 have bt := bitsL_any w B mb b nm V C h fn q hI hCl
 clear h hCl
 generalize bitsP isLocB ((C ⟨(fn, q), hI⟩).getD []) ((C ⟨(fn, q), hI⟩).getD []).length = x at *
 have BT := Lib.hid bt
 clear bt
 go_enter Tryz.func15, Tryz.ntmps15
 go_wp2_with fail
 refine BT.out.mono ?_
 rintro e w1 ⟨rfl, hb⟩
 have HB := Lib.hid hb
 clear hb
 go_wp2_with fail
 go_ret
 exact ⟨rfl, HB.out⟩
end Go.Proofs.YtjcjhfnjamphlaaGreat
namespace Go.Proofs.YtjcjhfnjamphlaaGreat
open Go.ChangeShapes Go.WideShapes Go.ChangeAt Go.RowKit
structure Kept {α : Type} (E : Elem Tryz.prog α) (HE : Elem Tryz.prog Hd) (w : World) (B : Nat) (X Y : Nat → Prop) (v v' : Value) (hs : List Hd) (ls : List (List α)) : Prop where
 fam : Fam E HE w B X v hs ls
 hs' : ∃ hs, Fam E HE w B Y v' hs ls
 xy : ∀ k, X k → ¬ Y k
 xw : ∀ k, X k → B ≤ k ∧ k < w.heap.size
 yw : ∀ k, Y k → B ≤ k ∧ k < w.heap.size
theorem Kept.add {α : Type} {E : Elem Tryz.prog α} {HE : Elem Tryz.prog Hd} {w w3 w5 w6 : World} {p B : Nat} {X X2 Y : Nat → Prop} {v2 v1 v6 : Value} {hs hs' : List Hd} {ls : List (List α)} {l : List α} {x5 : Hd} {o : Obj} (J : Nat)
  (f3 : Fam E HE w3 B X2 v2 hs (ls ++ [l])) (f3' : Fam E HE w3 B Y v1 hs' ls) (fr3 : Fr (fun k => k = p ∨ X k ∨ Y k) w w3)
  (hyw : ∀ k, Y k → B ≤ k ∧ k < w.heap.size) (hX2w : ∀ k, X2 k → B ≤ k ∧ k < w3.heap.size) (hX2y : ∀ k, X2 k → ¬ Y k) (hp2 : ¬ Y p) (hp3 : ¬ X2 p) (hpl : p < w.heap.size) (hpB : B ≤ p)
  (hbW : Below w3.heap.size w3 w5) (ho5 : Own E w5 w3.heap.size x5.val l)
  (ho6 : Own HE w6 B v6 (hs' ++ [x5])) (hg6 : (w5.alloc o).grownBy w6 v1.ownBlock) (hf6 : Fresh (w5.alloc o) v1 v6) :
  ∃ Y', Kept E HE (w6.setCell ⟨p, J, none⟩ v6) B X2 Y' v2 v6 hs (ls ++ [l]) ∧ (∀ k, Y' k → Y k ∨ w.heap.size ≤ k) ∧ Fr (fun k => k = p ∨ X k ∨ Y k) w (w6.setCell ⟨p, J, none⟩ v6) := by
 have hs3 := fr3.size
 have hs5 := hbW.size
 have fL : Fr (fun _ => False) w3 (w5.alloc o) := (Fr.of_below hbW _).alloc o
 have hsa : (w5.alloc o).heap.size = w5.heap.size + 1 := by simp
 have f0 : Fr Y (w5.alloc o) w6 := (Fr.refl _ _).grown hg6 (fun k hk _ => f3'.row k hk)
 have hs6 := f0.size
 have s6 := Fam.snoc (f3'.fr fL (fun _ _ h => h)) (x := x5) (l := l) ((ho5.base (B' := B) (fun k hk => by have := (ho5.lt hk).1; omega)).alloc o) (fun k hk h => by have := (ho5.lt hk).1; have := (hyw k h).2; omega) (fun k hk => by have := (hyw k hk).2; omega) ho6 hg6 hf6
 have fr6 : Fr Y w3 w6 := (fL.mono (fun _ h => h.elim)).trans f0 (fun k _ h => h)
 have g6 := f3.fr fr6 (fun k hk h => hX2y k hk h)
 have frs := Fr.setAt w6 p J v6
 have hY6 : ∀ k, (Y k ∨ x5.val.ownBlock = some k ∨ v6.ownBlock = some k) → (Y k ∨ w3.heap.size ≤ k) ∧ B ≤ k ∧ k < w6.heap.size := fun k hk => by
  rcases hk with h | h | h
  ·have := hyw k h; exact ⟨.inl h, this.1, by omega⟩
  ·have := ho5.lt h; exact ⟨.inr this.1, by omega, by omega⟩
  ·have h2 := ho6.lt h
   rcases hf6 k h with h | h
   ·exact ⟨.inl (f3'.row k h), h2.1, h2.2⟩
   ·exact ⟨.inr (by omega), h2.1, h2.2⟩
 have hsz : (w6.setCell ⟨p, J, none⟩ v6).heap.size = w6.heap.size := by simp [World.setCell]
 refine ⟨_, ⟨g6.fr frs (fun k hk h => hp3 (by unfold onB at h; rw [← h]; exact hk)), ⟨_, s6.fr frs (fun k hk h => ?_)⟩, fun k h h2 => ?_, fun k h => ?_, fun k h => ?_⟩, fun k h => ?_, ?_⟩
 ·unfold onB at h
  rw [h] at hk
  rcases (hY6 p hk).1 with h | h
  ·exact hp2 h
  ·omega
 ·rcases (hY6 k h2).1 with h3 | h3
  ·exact hX2y k h h3
  ·have := (hX2w k h).2; omega
 ·have := hX2w k h; rw [hsz]; exact ⟨this.1, by omega⟩
 ·have := (hY6 k h).2; rw [hsz]; exact this
 ·rcases (hY6 k h).1 with h | h
  ·exact .inl h
  ·exact .inr (by omega)
 ·exact (fr3.trans fr6 (fun k _ h => .inr (.inr h))).trans frs (fun k _ h => .inl h)
def AddInts (w : World) (p B : Nat) (X Y : Nat → Prop) (cs : Array Value) (hs : List Hd) (ls : List (List Int)) (x : Hd) (l : List Int) (e : Ending) (w' : World) : Prop :=
 ∃ v v' X' Y', e = .returned (.tuple #[]) ∧ Bk w' p ((cs.setIfInBounds 0 v).setIfInBounds 1 v') ∧ Kept intE intsE w' B X' Y' v v' (hs ++ [x]) (ls ++ [l]) ∧ (∀ k, X' k → X k ∨ x.val.ownBlock = some k ∨ w.heap.size ≤ k) ∧ (∀ k, Y' k → Y k ∨ w.heap.size ≤ k) ∧ Fr (fun k => k = p ∨ X k ∨ Y k) w w'
set_option maxRecDepth 100000 in
set_option maxHeartbeats 3200000 in
theorem addInts_any (w : World) (p B : Nat) (X Y : Nat → Prop) (cs : Array Value) (v v' : Value) (hs : List Hd) (ls : List (List Int)) (a : Option Addr) (l : List Int) (c : Nat) (hb : Bk w p cs) (c0 : cs[0]? = some v) (c1 : cs[1]? = some v') (hK : Kept intE intsE w B X Y v v' hs ls)
  (hx : Own intE w B (.slice a l.length c) l) (hxX : ∀ k, (Value.slice a l.length c).ownBlock = some k → ¬ X k ∧ ¬ Y k ∧ k ≠ p) (hp1 : ¬ X p) (hp2 : ¬ Y p) (hpB : B ≤ p) (hn : ls.length < 250) (hl : l.length ≤ 100000) :
  Calls Tryz.prog 9 #[.pointer (some ⟨p, 0, none⟩), .slice a l.length c] w (AddInts w p B X Y cs hs ls ⟨a, l.length, c⟩ l) := by
 obtain ⟨hF, ⟨hs', hF'⟩, hxy, hxw, hyw⟩ := hK
 have hpl := heap_lt hb
 obtain ⟨a0, n0, hv0⟩ := hF.slice
 obtain ⟨a1, n1, hv1⟩ := hF'.slice
 subst hv0 hv1
 have q0 := (hb.cell 0).trans c0
 have q1 := (hb.cell 1).trans c1
 have z0 := hb.frozen 0
 have z1 := hb.frozen 1
 have hlen := hF.len
 have HF := Lib.hid hF; clear hF
 have HF' := Lib.hid hF'; clear hF'
 have HXY := Lib.hid hxy; clear hxy
 have HXW := Lib.hid hxw; clear hxw
 have HYW := Lib.hid hyw; clear hyw
 have HB := Lib.hid hb; clear hb
 have HX := Lib.hid hx; clear hx
 have HXX := Lib.hid hxX; clear hxX
 have HP1 := Lib.hid hp1; clear hp1
 have HP2 := Lib.hid hp2; clear hp2
 have C0 := Lib.hid c0; clear c0
 have C1 := Lib.hid c1; clear c1
 have HLEN := Lib.hid hlen; clear hlen
 go_enter Tryz.func9, Tryz.ntmps9
 go_wp2_with (at_builtin; refine append_fresh intsE rfl (.tmp 14) (.tmp 16) rfl B hs [⟨a, l.length, c⟩] _ rfl (HF.out.own.alloc _) w.heap.size 0 1 rfl (CellsAt.new _ _ _ _) ?d1 ?d2 ?_)
 case d1 => rw [HLEN.out]; simp; omega
 case d2 => simp; omega
 intro v2 w2 ho2 hg2 hf2
 obtain ⟨a2, n2, c2, hv2⟩ := ho2.slice
 have hx0 := HX.out
 obtain ⟨xa, xc, hxe, hsl⟩ := own_int hx0
 injection hxe with e1 e2 e3
 subst e1 e3
 have hne : ∀ k, (Value.slice a0 ls.length n0).ownBlock = some k → X k := fun k hk => HF.out.row k hk
 have hb2 : Bk w2 p cs := by
  unfold Bk
  rw [hg2.block p (by simp; omega) (fun e => HP1.out (hne p e.symm)), Below.heap_alloc _ _ _ hpl]
  exact HB.out
 have fr2 : Fr X w w2 := ((Fr.refl _ _).alloc _).grown hg2 (fun k hk _ => hne k hk)
 have f2 := Fam.snoc (HF.out.fr ((Fr.refl (fun _ => False) w).alloc _) (fun _ _ h => h)) (x := ⟨a, l.length, c⟩) (l := l) (Own.alloc hx0 _) (fun k hk => (HXX.out k hk).1) (fun k hk => by have := (HXW.out k hk).2; simp; omega) ho2 hg2 hf2
 have f2' := HF'.out.fr fr2 (fun k hk h => HXY.out k h hk)
 have hp3 : ¬ (X p ∨ (Hd.mk a l.length c).val.ownBlock = some p ∨ v2.ownBlock = some p) := by
  rintro (h | h | h)
  ·exact HP1.out h
  ·exact (HXX.out p h).2.2 rfl
  ·rcases hf2 p h with h | h
   ·exact HP1.out (hne p h)
   ·simp at h; omega
 have hX2w : ∀ k, (X k ∨ (Hd.mk a l.length c).val.ownBlock = some k ∨ v2.ownBlock = some k) → B ≤ k ∧ k < w2.heap.size := fun k hk => by
  have hs := fr2.size
  rcases hk with h | h | h
  ·have := HXW.out k h; omega
  ·have := hx0.lt h; omega
  ·have := ho2.lt h; omega
 have hX2o : ∀ k, (X k ∨ (Hd.mk a l.length c).val.ownBlock = some k ∨ v2.ownBlock = some k) → X k ∨ (Value.slice a l.length c).ownBlock = some k ∨ w.heap.size ≤ k := fun k hk => by
  rcases hk with h | h | h
  ·exact .inl h
  ·exact .inr (.inl h)
  ·rcases hf2 k h with h | h
   ·exact .inl (hne k h)
   ·exact .inr (.inr (by simp at h; omega))
 generalize hX2 : (fun k => X k ∨ (Hd.mk a l.length c).val.ownBlock = some k ∨ v2.ownBlock = some k) = X2 at f2
 have hX2i : ∀ k, X2 k ↔ (X k ∨ (Hd.mk a l.length c).val.ownBlock = some k ∨ v2.ownBlock = some k) := fun k => by rw [← hX2]
 have hp3 : ¬ X2 p := fun h => hp3 ((hX2i p).1 h)
 have hX2w : ∀ k, X2 k → B ≤ k ∧ k < w2.heap.size := fun k h => hX2w k ((hX2i k).1 h)
 have hX2o : ∀ k, X2 k → X k ∨ (Value.slice a l.length c).ownBlock = some k ∨ w.heap.size ≤ k := fun k h => hX2o k ((hX2i k).1 h)
 clear hX2i hX2
 have frs := Fr.setAt w2 p 0 v2
 have hb3 : Bk (w2.setCell ⟨p, 0, none⟩ v2) p (cs.setIfInBounds 0 v2) := row_set hb2 0 v2
 have f3 := f2.fr frs (fun k hk h => hp3 (by unfold onB at h; rw [← h]; exact hk))
 have f3' := f2'.fr frs (fun k hk h => HP2.out (by unfold onB at h; rw [← h]; exact hk))
 have fr3 : Fr (fun k => k = p ∨ X k ∨ Y k) w (w2.setCell ⟨p, 0, none⟩ v2) := (fr2.mono (fun k h => .inr (.inl h))).trans frs (fun k _ h => .inl h)
 have hsz3 : (w2.setCell ⟨p, 0, none⟩ v2).heap.size = w2.heap.size := by simp [World.setCell]
 have hsl3 := hsl.fr (fr3) (fun k hk h => by
  have := HXX.out k hk
  rcases h with h | h | h
  ·exact this.2.2 h
  ·exact this.1 h
  ·exact this.2.1 h)
 have r0 := hb2.cell 0
 have r1 := hb2.cell 1
 have t0 := hb2.frozen 0
 have t1 := hb2.frozen 1
 rw [C0.out] at r0
 rw [C1.out] at r1
 clear q0 q1 z0 z1
 clear hsl hb2 f2 f2' frs fr2 hne hg2 hf2
 subst hv2
 have k1 := hb3.cell 1
 rw [Array.getElem?_setIfInBounds_ne (by decide), C1.out] at k1
 have z1 := hb3.frozen 1
 have hp3l := heap_lt hb3
 obtain ⟨w3, hw3⟩ : ∃ w3, w3 = w2.setCell ⟨p, 0, none⟩ (.slice a2 n2 c2) := ⟨_, rfl⟩
 rw [← hw3] at hb3 f3 f3' fr3 hsz3 hsl3 k1 z1 hp3l
 have cp := copyInts_any w3.drew a l c _ (show IntSl w3.drew _ a l from hsl3) (by omega)
 have f3o := f3'.own
 have hpy : ∀ k, (Value.slice a1 ls.length n1).ownBlock = some k → Y k := f3'.row
 have hlen' := f3'.len
 have HB3 := Lib.hid hb3; clear hb3
 have F3 := Lib.hid f3; clear f3
 have F3' := Lib.hid f3'; clear f3'
 have FR3 := Lib.hid fr3; clear fr3
 have HSZ3 := Lib.hid hsz3; clear hsz3
 have HW3 := Lib.hid hw3; clear hw3
 have HX2W := Lib.hid hX2w; clear hX2w
 have HX2O := Lib.hid hX2o; clear hX2o
 have CP := Lib.hid cp; clear cp
 have F3O := Lib.hid f3o; clear f3o
 have HPY := Lib.hid hpy; clear hpy
 have HP3 := Lib.hid hp3; clear hp3
 have HLEN' := Lib.hid hlen'; clear hlen'
 clear hsl3 ho2 hx0
 go_wp2_with fail
 rw [← HW3.out]
 go_region_law (first | (go_simp; go_at_call 26; refine CP.out.mono ?_; rintro e w5 ⟨v5, rfl, ho5, hb5⟩; obtain ⟨a5, c5, rfl, _⟩ := own_int ho5; have hbW := ((Below.refl w3.heap.size w3).drew).trans hb5; have bk5 : Bk w5 p _ := (Fr.of_below hbW (fun _ => False)).heap HB3.out (fun h => h); have kk := bk5.cell 1; rw [Array.getElem?_setIfInBounds_ne (by decide), C1.out] at kk; have zz := bk5.frozen 1; have hp5 := heap_lt bk5; have nn5 := World.new_ne w5 _ kk; have hp5n := Nat.ne_of_gt hp5) | (refine step_append_fresh intsE rfl (.tmp 24) (.tmp 27) rfl B hs' [⟨a5, l.length, c5⟩] _ rfl ((F3O.out.below hbW).alloc _) w5.heap.size 0 1 rfl (CellsAt.new _ _ _ _) (by rw [HLEN'.out]; simp; omega) (by have := hbW.size; simp; omega) ?_; intro v6 w6 ho6 hg6 hf6; obtain ⟨a6, n6, c6, hv6⟩ := ho6.slice; subst hv6; have bk6 : Bk w6 p _ := ((hg6.block p (by simp; omega) (fun e => HP2.out (HPY.out p e.symm))).trans (Below.heap_alloc _ _ _ hp5)).trans bk5; have kk := bk6.cell 1; rw [Array.getElem?_setIfInBounds_ne (by decide), C1.out] at kk; have zz := bk6.frozen 1))
 all_goals
  obtain ⟨Y', e1, e2, e3⟩ := Kept.add (X := X) (x5 := ⟨a5, l.length, c5⟩) 1 F3.out F3'.out FR3.out HYW.out (fun k hk => by rw [HSZ3.out]; exact hX2w k hk) (fun k hk h => by
   rcases hX2o k hk with h2 | h2 | h2
   ·exact HXY.out k h2 h
   ·exact (HXX.out k h2).2.1 h
   ·have := (HYW.out k h).2; omega) HP2.out hp3 hpl hpB hbW ho5 ho6 hg6 hf6
  have bk7 : Bk (w6.setCell ⟨p, 1, none⟩ (.slice a6 n6 c6)) p _ := row_set bk6 1 (.slice a6 n6 c6)
  have E1 := Lib.hid e1
  have E2 := Lib.hid e2
  have E3 := Lib.hid e3
  have BK7 := Lib.hid bk7
  have HX2O' := Lib.hid hX2o
  clear e1 e2 e3 bk7 hX2o
  clear hg6 hf6 ho6 ho5
  go_wp2_with fail
  go_end0
  exact ⟨_, _, _, Y', rfl, BK7.out, E1.out, HX2O'.out, E2.out, E3.out⟩
end Go.Proofs.YtjcjhfnjamphlaaGreat
namespace Go.Proofs.YtjcjhfnjamphlaaGreat
open Go.ChangeShapes Go.WideShapes Go.ChangeAt Go.RowKit Go.Maps
def bkRow (v v' : Value) : Array Value := #[v, v', .slice none 0 0, .slice none 0 0, .slice none 0 0, .slice none 0 0, .slice none 0 0, .slice none 0 0, .slice none 0 0, .slice none 0 0]
def BookAt (w : World) (p B S : Nat) : Prop := ∃ v v' X Y hs ls, Bk w p (bkRow v v') ∧ Kept intE intsE w B X Y v v' hs ls ∧ ¬ X p ∧ ¬ Y p ∧ ls.length ≤ 250 ∧ (∀ l ∈ ls, l.length ≤ 100) ∧ B ≤ p ∧ p < S ∧ ∀ k, X k ∨ Y k → k < S
theorem BookAt.fr {F : Nat → Prop} {w w' : World} {p B S : Nat} (h : BookAt w p B S) (hf : Fr F w w') (hn : ∀ k, B ≤ k → k < S → ¬ F k) : BookAt w' p B S := by
 obtain ⟨v, v', X, Y, hs, ls, h1, ⟨k1, ⟨hs', k2⟩, k3, k4, k5⟩, h3, h4, h5, h6, h7, h8, h9⟩ := h
 exact ⟨v, v', X, Y, hs, ls, hf.heap h1 (hn p h7 h8), ⟨k1.fr hf (fun q hq => hn q (k4 q hq).1 (h9 q (.inl hq))), ⟨hs', k2.fr hf (fun q hq => hn q (k5 q hq).1 (h9 q (.inr hq)))⟩, k3, fun q hq => ⟨(k4 q hq).1, Nat.lt_of_lt_of_le (k4 q hq).2 hf.size⟩, fun q hq => ⟨(k5 q hq).1, Nat.lt_of_lt_of_le (k5 q hq).2 hf.size⟩⟩, h3, h4, h5, h6, h7, h8, h9⟩
theorem BookAt.below {w w' : World} {p B S : Nat} (h : BookAt w p B S) (hb : Below w.heap.size w w') : BookAt w' p B S := h.fr (Fr.of_below hb (fun _ => False)) (fun _ _ _ h => h)
theorem BookAt.made {w : World} {p B S : Nat} (h : Bk w p (bkRow (.slice none 0 0) (.slice none 0 0))) (hB : B ≤ p) (hS : p < S) : BookAt w p B S :=
 ⟨_, _, fun _ => False, fun _ => False, [], [], h, ⟨Fam.nil _ _ _ _ _, ⟨_, Fam.nil _ _ _ _ _⟩, fun _ h => h.elim, fun _ h => h.elim, fun _ h => h.elim⟩, fun h => h, fun h => h, by decide, fun _ h => (by cases h), hB, hS, fun _ h => h.elim (fun h => h.elim) (fun h => h.elim)⟩
set_option maxRecDepth 100000 in
theorem keep_any (w : World) (p B S : Nat) (h : BookAt w p B S) (hS : S ≤ w.heap.size) (a : Option Addr) (l : List Int) (c : Nat) (hx : Own intE w B (.slice a l.length c) l) (hxS : ∀ k, (Value.slice a l.length c).ownBlock = some k → S ≤ k) (hl : l.length ≤ 100) :
  Calls Tryz.prog 9 #[.pointer (some ⟨p, 0, none⟩), .slice a l.length c] w fun e w' => e = .returned (.tuple #[]) ∧ BookAt w' p B w'.heap.size ∧ Fr (fun k => B ≤ k ∧ k < S) w w' := by
 obtain ⟨v, v', X, Y, hs, ls, h1, h2, h3, h4, h5, h6, h7, h8, h9⟩ := h
 by_cases hn : ls.length < 250
 ·refine (addInts_any w p B X Y (bkRow v v') v v' hs ls a l c h1 rfl rfl h2 hx (fun k hk => ?_) h3 h4 h7 hn (by omega)).mono ?_
  ·have := hxS k hk
   exact ⟨fun e => by have := h9 k (.inl e); omega, fun e => by have := h9 k (.inr e); omega, by omega⟩
  ·rintro e w' ⟨u, u', X', Y', rfl, b1, b2, b3, b4, b5⟩
   have hsz := b5.size
   refine ⟨rfl, ⟨u, u', X', Y', _, _, b1, b2, fun e => ?_, fun e => ?_, by simp; omega, fun l' hl' => ?_, h7, by omega, fun k hk => ?_⟩, b5.mono (fun k hk => ?_)⟩
   ·rcases b3 p e with e | e | e
    ·exact h3 e
    ·have := hxS p e; omega
    ·omega
   ·rcases b4 p e with e | e
    ·exact h4 e
    ·omega
   ·rcases List.mem_append.1 hl' with e | e
    ·exact h6 l' e
    ·simp at e; subst e; exact hl
   ·rcases hk with hk | hk
    ·exact (b2.xw k hk).2
    ·exact (b2.yw k hk).2
   ·rcases hk with hk | hk | hk
    ·subst hk; exact ⟨h7, h8⟩
    ·exact ⟨(h2.xw k hk).1, h9 k (.inl hk)⟩
    ·exact ⟨(h2.yw k hk).1, h9 k (.inr hk)⟩
 ·obtain ⟨a0, n0, hv0⟩ := h2.fam.slice
  have hn2 : ¬ ((ls.length : Nat) : Int) < 250 := by omega
  have q0 : w.cell? ⟨p, 0, none⟩ = some v := (h1.cell 0).trans rfl
  have hfin : BookAt w p B w.heap.size := ⟨v, v', X, Y, hs, ls, h1, h2, h3, h4, h5, h6, h7, by omega, fun k hk => Nat.lt_of_lt_of_le (h9 k hk) hS⟩
  have HFIN := Lib.hid hfin
  subst hv0
  clear hfin hx hxS h1 h2 h3 h4 h5 h6 h9 hn
  generalize ls.length = n at *
  generalize l.length = m at *
  go_enter Tryz.func9, Tryz.ntmps9
  go_wp2_with fail
  go_end0
  exact ⟨rfl, HFIN.out, Fr.refl _ _⟩
set_option maxRecDepth 100000 in
theorem apartB_any (w : World) (p B S : Nat) (h : BookAt w p B S) (hB : B ≤ w.heap.size) :
  Calls Tryz.prog 16 #[.pointer (some ⟨p, 0, none⟩)] w fun e w' => e = .returned (.bool true) ∧ Below B w w' := by
 obtain ⟨v, v', X, Y, hs, ls, h1, ⟨k1, ⟨hs', k2⟩, k3, k4, k5⟩, h3, h4, h5, h6, h7, h8, h9⟩ := h
 refine (apart_any w p B X Y (fun _ => False) (fun _ => False) v v' (.slice none 0 0) (.slice none 0 0) _ _ [] [] _ [] h1 k1 k2 (Fam.nil _ _ _ _ _) (Fam.nil _ _ _ _ _) h3 (fun h => h) (fun q hq => (k4 q hq).2) (fun _ h => h.elim) (fun _ _ h => h) hB (by omega) (fun l hl => by have := h6 l hl; omega) (by decide) (fun _ h => by cases h)).mono ?_
 rintro e w' ⟨he, hfr⟩
 exact ⟨he, hfr.below hB (fun q hq => by
  rcases hq with hq | hq
  ·exact (k4 q hq).1
  ·exact hq.elim)⟩
set_option maxRecDepth 100000 in
theorem kindsN_any (w : World) (fn q : Int) : Calls Tryz.prog 8 #[.pointer none, .int .i64 fn, .int .i64 q] w fun e w' => e = .returned (.slice none 0 0) ∧ w = w' := by
 go_enter Tryz.func8, Tryz.ntmps8
 go_wp2_with fail
 go_ret
 exact ⟨rfl, rfl⟩
set_option maxRecDepth 100000 in
theorem reachedN_any (w : World) (fn q : Int) : Calls Tryz.prog 12 #[.pointer none, .int .i64 fn, .int .i64 q] w fun e w' => e = .returned (.bool false) ∧ w = w' := by
 go_enter Tryz.func12, Tryz.ntmps12
 go_wp2_with fail
 go_ret
 exact ⟨rfl, rfl⟩
set_option maxRecDepth 100000 in
theorem bitsNP_any (w : World) (fn q : Int) : Calls Tryz.prog 27 #[.pointer none, .int .i64 fn, .int .i64 q, .func (.func 28) #[] #[]] w fun e w' => e = .returned (.int .u16 0) ∧ w = w' := by
 have kn := kindsN_any w fn q
 have KN := Lib.hid kn
 clear kn
 go_enter Tryz.func27, Tryz.ntmps27
 go_wp2_with fail
 refine KN.out.mono ?_
 rintro e w1 ⟨rfl, rfl⟩
 go_upto_region 3 with fail
 go_loopw [9, 19] (fun o i wr => o = .int .u16 0 ∧ i = .int .i64 0 ∧ wr = w) (fun _ _ _ => 0)
 case atStart => exact ⟨rfl, rfl, rfl⟩
 case round =>
  obtain ⟨rfl, rfl, rfl⟩ := hrel
  go_wp2_with fail
  go_ret
  exact ⟨rfl, rfl⟩
set_option maxRecDepth 100000 in
theorem npointers_any (w : World) (fn q : Int) : Calls Tryz.prog 14 #[.pointer none, .int .i64 fn, .int .i64 q] w fun e w' => e = .returned (.int .u16 0) ∧ w = w' := by
 have bt := bitsNP_any w fn q
 have BT := Lib.hid bt
 clear bt
 go_enter Tryz.func14, Tryz.ntmps14
 go_wp2_with fail
 refine BT.out.mono ?_
 rintro e w1 ⟨rfl, rfl⟩
 go_wp2_with fail
 go_ret
 exact ⟨rfl, rfl⟩
set_option maxRecDepth 100000 in
theorem bitsNL_any (w : World) (fn q : Int) : Calls Tryz.prog 27 #[.pointer none, .int .i64 fn, .int .i64 q, .func (.func 29) #[] #[]] w fun e w' => e = .returned (.int .u16 0) ∧ w = w' := by
 have kn := kindsN_any w fn q
 have KN := Lib.hid kn
 clear kn
 go_enter Tryz.func27, Tryz.ntmps27
 go_wp2_with fail
 refine KN.out.mono ?_
 rintro e w1 ⟨rfl, rfl⟩
 go_upto_region 3 with fail
 go_loopw [9, 19] (fun o i wr => o = .int .u16 0 ∧ i = .int .i64 0 ∧ wr = w) (fun _ _ _ => 0)
 case atStart => exact ⟨rfl, rfl, rfl⟩
 case round =>
  obtain ⟨rfl, rfl, rfl⟩ := hrel
  go_wp2_with fail
  go_ret
  exact ⟨rfl, rfl⟩
set_option maxRecDepth 100000 in
theorem nplaces_any (w : World) (fn q : Int) : Calls Tryz.prog 15 #[.pointer none, .int .i64 fn, .int .i64 q] w fun e w' => e = .returned (.int .u16 0) ∧ w = w' := by
 have bt := bitsNL_any w fn q
 have BT := Lib.hid bt
 clear bt
 go_enter Tryz.func15, Tryz.ntmps15
 go_wp2_with fail
 refine BT.out.mono ?_
 rintro e w1 ⟨rfl, rfl⟩
 go_wp2_with fail
 go_ret
 exact ⟨rfl, rfl⟩
end Go.Proofs.YtjcjhfnjamphlaaGreat
