import Derived.Test.YtjcjhfnjamphlaaGreatZAl
import Derived.Test.YtjcjhfnjamphlaaGreatZAe
import Derived.Test.YtjcjhfnjamphlaaGreatZAr
import Derived.Test.YtjcjhfnjamphlaaGreatZAd
set_option linter.unusedVariables false
set_option linter.unusedSimpArgs false
namespace Go.Proofs.YtjcjhfnjamphlaaGreat
open Go.ChangeShapes Go.WideShapes Go.ChangeAt Go.RowKit
def LettersAre (op : Int) (x y z : Int) : Prop := (operandsS op).size = 3 ∧ gb (operandsS op) 0 = x ∧ gb (operandsS op) 1 = y ∧ gb (operandsS op) 2 = z
theorem letters0 : LettersAre 0 45 45 45 := ⟨rfl, rfl, rfl, rfl⟩
theorem letters1 : LettersAre 1 115 110 45 := ⟨rfl, rfl, rfl, rfl⟩
theorem letters2 : LettersAre 2 115 115 45 := ⟨rfl, rfl, rfl, rfl⟩
theorem letters3 : LettersAre 3 115 115 115 := ⟨rfl, rfl, rfl, rfl⟩
theorem letters4 : LettersAre 4 115 115 115 := ⟨rfl, rfl, rfl, rfl⟩
theorem letters5 : LettersAre 5 115 115 115 := ⟨rfl, rfl, rfl, rfl⟩
theorem letters6 : LettersAre 6 115 115 115 := ⟨rfl, rfl, rfl, rfl⟩
theorem letters7 : LettersAre 7 115 115 115 := ⟨rfl, rfl, rfl, rfl⟩
theorem letters8 : LettersAre 8 115 115 115 := ⟨rfl, rfl, rfl, rfl⟩
theorem letters9 : LettersAre 9 45 116 45 := ⟨rfl, rfl, rfl, rfl⟩
theorem letters10 : LettersAre 10 115 116 45 := ⟨rfl, rfl, rfl, rfl⟩
theorem letters11 : LettersAre 11 115 112 45 := ⟨rfl, rfl, rfl, rfl⟩
theorem letters12 : LettersAre 12 115 115 45 := ⟨rfl, rfl, rfl, rfl⟩
theorem letters13 : LettersAre 13 115 112 45 := ⟨rfl, rfl, rfl, rfl⟩
theorem letters14 : LettersAre 14 115 115 105 := ⟨rfl, rfl, rfl, rfl⟩
theorem letters15 : LettersAre 15 115 105 115 := ⟨rfl, rfl, rfl, rfl⟩
theorem letters16 : LettersAre 16 115 103 45 := ⟨rfl, rfl, rfl, rfl⟩
theorem letters17 : LettersAre 17 103 115 45 := ⟨rfl, rfl, rfl, rfl⟩
theorem letters18 : LettersAre 18 115 111 45 := ⟨rfl, rfl, rfl, rfl⟩
theorem letters19 : LettersAre 19 115 115 105 := ⟨rfl, rfl, rfl, rfl⟩
theorem letters20 : LettersAre 20 115 105 115 := ⟨rfl, rfl, rfl, rfl⟩
theorem letters21 : LettersAre 21 114 102 97 := ⟨rfl, rfl, rfl, rfl⟩
theorem letters22 : LettersAre 22 114 45 45 := ⟨rfl, rfl, rfl, rfl⟩
theorem letters23 : LettersAre 23 45 102 97 := ⟨rfl, rfl, rfl, rfl⟩
theorem letters24 : LettersAre 24 45 102 97 := ⟨rfl, rfl, rfl, rfl⟩
theorem letters25 : LettersAre 25 115 115 45 := ⟨rfl, rfl, rfl, rfl⟩
theorem letters26 : LettersAre 26 115 115 45 := ⟨rfl, rfl, rfl, rfl⟩
theorem letters27 : LettersAre 27 45 45 45 := ⟨rfl, rfl, rfl, rfl⟩
theorem letters28 : LettersAre 28 45 45 45 := ⟨rfl, rfl, rfl, rfl⟩
theorem letters29 : LettersAre 29 115 45 45 := ⟨rfl, rfl, rfl, rfl⟩
theorem room_args (f : Fun) (c : Int) (n : Nat) (hs : f.slots < 9223372036854775808) (h : roomB f c n = true) : (argSlots c (nArgs n)).all (withinB · f.slots) = true := by
 unfold roomB at h
 simp only [Bool.and_eq_true, decide_eq_true_eq] at h
 rw [List.all_eq_true]
 intro x hx
 unfold argSlots at hx
 obtain ⟨k, hk, rfl⟩ := List.mem_map.1 hx
 have hk := List.mem_range.1 hk
 have h2 := nArgs_le (n : Int)
 have hkn : k < n := by omega
 have hw : wrap64 (c + (k : Int)) = c + (k : Int) := by unfold wrap64; omega
 rw [hw]
 unfold withinB
 simp only [Bool.and_eq_true, decide_eq_true_eq]
 omega
def IEq (op : Int) : Prop := ∀ (p : Prg) (f : Fun) (a b c : Int), f.slots < 9223372036854775808 → rInstrS p f ⟨op, a, b, c⟩ = instrS p f ⟨op, a, b, c⟩
theorem ieq0 : IEq 0 := by
 intro p f a b c hs
 obtain ⟨h0, h1, h2, h3⟩ := letters0
 have h4 : usesS 0 = (false, false, false) := rfl
 have h5 : writesS 0 = false := rfl
 simp [rInstrS, instrS, bad0, badAll, unusedB, mayB, placeB, topL, rcallee, calleeF, argsN, quietB, formB, usedL, slotsB, thingsB, kindsB, knownS, readsL, onceL_two, h0, h1, h2, h3, h4, h5]
 try (repeat' split) <;> simp_all
theorem ieq1 : IEq 1 := by
 intro p f a b c hs
 obtain ⟨h0, h1, h2, h3⟩ := letters1
 have h4 : usesS 1 = (true, true, false) := rfl
 have h5 : writesS 1 = true := rfl
 simp [rInstrS, instrS, bad0, badAll, unusedB, mayB, placeB, topL, rcallee, calleeF, argsN, quietB, formB, usedL, slotsB, thingsB, kindsB, knownS, readsL, onceL_two, h0, h1, h2, h3, h4, h5]
 try (repeat' split) <;> simp_all
theorem ieq2 : IEq 2 := by
 intro p f a b c hs
 obtain ⟨h0, h1, h2, h3⟩ := letters2
 have h4 : usesS 2 = (true, true, false) := rfl
 have h5 : writesS 2 = true := rfl
 simp [rInstrS, instrS, bad0, badAll, unusedB, mayB, placeB, topL, rcallee, calleeF, argsN, quietB, formB, usedL, slotsB, thingsB, kindsB, knownS, readsL, onceL_two, h0, h1, h2, h3, h4, h5]
 try (repeat' split) <;> simp_all
theorem ieq3 : IEq 3 := by
 intro p f a b c hs
 obtain ⟨h0, h1, h2, h3⟩ := letters3
 have h4 : usesS 3 = (true, true, true) := rfl
 have h5 : writesS 3 = true := rfl
 simp [rInstrS, instrS, bad0, badAll, unusedB, mayB, placeB, topL, rcallee, calleeF, argsN, quietB, formB, usedL, slotsB, thingsB, kindsB, knownS, readsL, onceL_two, h0, h1, h2, h3, h4, h5]
 try (repeat' split) <;> simp_all
theorem ieq4 : IEq 4 := by
 intro p f a b c hs
 obtain ⟨h0, h1, h2, h3⟩ := letters4
 have h4 : usesS 4 = (true, true, true) := rfl
 have h5 : writesS 4 = true := rfl
 simp [rInstrS, instrS, bad0, badAll, unusedB, mayB, placeB, topL, rcallee, calleeF, argsN, quietB, formB, usedL, slotsB, thingsB, kindsB, knownS, readsL, onceL_two, h0, h1, h2, h3, h4, h5]
 try (repeat' split) <;> simp_all
theorem ieq5 : IEq 5 := by
 intro p f a b c hs
 obtain ⟨h0, h1, h2, h3⟩ := letters5
 have h4 : usesS 5 = (true, true, true) := rfl
 have h5 : writesS 5 = true := rfl
 simp [rInstrS, instrS, bad0, badAll, unusedB, mayB, placeB, topL, rcallee, calleeF, argsN, quietB, formB, usedL, slotsB, thingsB, kindsB, knownS, readsL, onceL_two, h0, h1, h2, h3, h4, h5]
 try (repeat' split) <;> simp_all
theorem ieq6 : IEq 6 := by
 intro p f a b c hs
 obtain ⟨h0, h1, h2, h3⟩ := letters6
 have h4 : usesS 6 = (true, true, true) := rfl
 have h5 : writesS 6 = true := rfl
 simp [rInstrS, instrS, bad0, badAll, unusedB, mayB, placeB, topL, rcallee, calleeF, argsN, quietB, formB, usedL, slotsB, thingsB, kindsB, knownS, readsL, onceL_two, h0, h1, h2, h3, h4, h5]
 try (repeat' split) <;> simp_all
theorem ieq7 : IEq 7 := by
 intro p f a b c hs
 obtain ⟨h0, h1, h2, h3⟩ := letters7
 have h4 : usesS 7 = (true, true, true) := rfl
 have h5 : writesS 7 = true := rfl
 simp [rInstrS, instrS, bad0, badAll, unusedB, mayB, placeB, topL, rcallee, calleeF, argsN, quietB, formB, usedL, slotsB, thingsB, kindsB, knownS, readsL, onceL_two, h0, h1, h2, h3, h4, h5]
 try (repeat' split) <;> simp_all
theorem ieq8 : IEq 8 := by
 intro p f a b c hs
 obtain ⟨h0, h1, h2, h3⟩ := letters8
 have h4 : usesS 8 = (true, true, true) := rfl
 have h5 : writesS 8 = true := rfl
 simp [rInstrS, instrS, bad0, badAll, unusedB, mayB, placeB, topL, rcallee, calleeF, argsN, quietB, formB, usedL, slotsB, thingsB, kindsB, knownS, readsL, onceL_two, h0, h1, h2, h3, h4, h5]
 try (repeat' split) <;> simp_all
theorem ieq9 : IEq 9 := by
 intro p f a b c hs
 obtain ⟨h0, h1, h2, h3⟩ := letters9
 have h4 : usesS 9 = (false, true, false) := rfl
 have h5 : writesS 9 = false := rfl
 simp [rInstrS, instrS, bad0, badAll, unusedB, mayB, placeB, topL, rcallee, calleeF, argsN, quietB, formB, usedL, slotsB, thingsB, kindsB, knownS, readsL, onceL_two, h0, h1, h2, h3, h4, h5]
 try (repeat' split) <;> simp_all
theorem ieq10 : IEq 10 := by
 intro p f a b c hs
 obtain ⟨h0, h1, h2, h3⟩ := letters10
 have h4 : usesS 10 = (true, true, false) := rfl
 have h5 : writesS 10 = false := rfl
 simp [rInstrS, instrS, bad0, badAll, unusedB, mayB, placeB, topL, rcallee, calleeF, argsN, quietB, formB, usedL, slotsB, thingsB, kindsB, knownS, readsL, onceL_two, h0, h1, h2, h3, h4, h5]
 try (repeat' split) <;> simp_all
theorem ieq11 : IEq 11 := by
 intro p f a b c hs
 obtain ⟨h0, h1, h2, h3⟩ := letters11
 have h4 : usesS 11 = (true, true, false) := rfl
 have h5 : writesS 11 = true := rfl
 simp [rInstrS, instrS, bad0, badAll, unusedB, mayB, placeB, topL, rcallee, calleeF, argsN, quietB, formB, usedL, slotsB, thingsB, kindsB, knownS, readsL, onceL_two, h0, h1, h2, h3, h4, h5]
 try (repeat' split) <;> simp_all
theorem ieq12 : IEq 12 := by
 intro p f a b c hs
 obtain ⟨h0, h1, h2, h3⟩ := letters12
 have h4 : usesS 12 = (true, true, false) := rfl
 have h5 : writesS 12 = true := rfl
 simp [rInstrS, instrS, bad0, badAll, unusedB, mayB, placeB, topL, rcallee, calleeF, argsN, quietB, formB, usedL, slotsB, thingsB, kindsB, knownS, readsL, onceL_two, h0, h1, h2, h3, h4, h5]
 try (repeat' split) <;> simp_all
theorem ieq13 : IEq 13 := by
 intro p f a b c hs
 obtain ⟨h0, h1, h2, h3⟩ := letters13
 have h4 : usesS 13 = (true, true, false) := rfl
 have h5 : writesS 13 = true := rfl
 simp [rInstrS, instrS, bad0, badAll, unusedB, mayB, placeB, topL, rcallee, calleeF, argsN, quietB, formB, usedL, slotsB, thingsB, kindsB, knownS, readsL, onceL_two, h0, h1, h2, h3, h4, h5]
 try (repeat' split) <;> simp_all
theorem ieq14 : IEq 14 := by
 intro p f a b c hs
 obtain ⟨h0, h1, h2, h3⟩ := letters14
 have h4 : usesS 14 = (true, true, true) := rfl
 have h5 : writesS 14 = true := rfl
 simp [rInstrS, instrS, bad0, badAll, unusedB, mayB, placeB, topL, rcallee, calleeF, argsN, quietB, formB, usedL, slotsB, thingsB, kindsB, knownS, readsL, onceL_two, h0, h1, h2, h3, h4, h5]
 try (repeat' split) <;> simp_all
theorem ieq15 : IEq 15 := by
 intro p f a b c hs
 obtain ⟨h0, h1, h2, h3⟩ := letters15
 have h4 : usesS 15 = (true, true, true) := rfl
 have h5 : writesS 15 = false := rfl
 simp [rInstrS, instrS, bad0, badAll, unusedB, mayB, placeB, topL, rcallee, calleeF, argsN, quietB, formB, usedL, slotsB, thingsB, kindsB, knownS, readsL, onceL_two, h0, h1, h2, h3, h4, h5]
 try (repeat' split) <;> simp_all
theorem ieq16 : IEq 16 := by
 intro p f a b c hs
 obtain ⟨h0, h1, h2, h3⟩ := letters16
 have h4 : usesS 16 = (true, true, false) := rfl
 have h5 : writesS 16 = true := rfl
 simp [rInstrS, instrS, bad0, badAll, unusedB, mayB, placeB, topL, rcallee, calleeF, argsN, quietB, formB, usedL, slotsB, thingsB, kindsB, knownS, readsL, onceL_two, h0, h1, h2, h3, h4, h5]
 try (repeat' split) <;> simp_all
theorem ieq17 : IEq 17 := by
 intro p f a b c hs
 obtain ⟨h0, h1, h2, h3⟩ := letters17
 have h4 : usesS 17 = (true, true, false) := rfl
 have h5 : writesS 17 = false := rfl
 simp [rInstrS, instrS, bad0, badAll, unusedB, mayB, placeB, topL, rcallee, calleeF, argsN, quietB, formB, usedL, slotsB, thingsB, kindsB, knownS, readsL, onceL_two, h0, h1, h2, h3, h4, h5]
 try (repeat' split) <;> simp_all
theorem ieq18 : IEq 18 := by
 intro p f a b c hs
 obtain ⟨h0, h1, h2, h3⟩ := letters18
 have h4 : usesS 18 = (true, true, false) := rfl
 have h5 : writesS 18 = true := rfl
 simp [rInstrS, instrS, bad0, badAll, unusedB, mayB, placeB, topL, rcallee, calleeF, argsN, quietB, formB, usedL, slotsB, thingsB, kindsB, knownS, readsL, onceL_two, h0, h1, h2, h3, h4, h5]
 try (repeat' split) <;> simp_all
theorem ieq19 : IEq 19 := by
 intro p f a b c hs
 obtain ⟨h0, h1, h2, h3⟩ := letters19
 have h4 : usesS 19 = (true, true, true) := rfl
 have h5 : writesS 19 = true := rfl
 simp [rInstrS, instrS, bad0, badAll, unusedB, mayB, placeB, topL, rcallee, calleeF, argsN, quietB, formB, usedL, slotsB, thingsB, kindsB, knownS, readsL, onceL_two, h0, h1, h2, h3, h4, h5]
 try (repeat' split) <;> simp_all
theorem ieq20 : IEq 20 := by
 intro p f a b c hs
 obtain ⟨h0, h1, h2, h3⟩ := letters20
 have h4 : usesS 20 = (true, true, true) := rfl
 have h5 : writesS 20 = false := rfl
 simp [rInstrS, instrS, bad0, badAll, unusedB, mayB, placeB, topL, rcallee, calleeF, argsN, quietB, formB, usedL, slotsB, thingsB, kindsB, knownS, readsL, onceL_two, h0, h1, h2, h3, h4, h5]
 try (repeat' split) <;> simp_all
theorem ieq25 : IEq 25 := by
 intro p f a b c hs
 obtain ⟨h0, h1, h2, h3⟩ := letters25
 have h4 : usesS 25 = (true, true, false) := rfl
 have h5 : writesS 25 = false := rfl
 simp [rInstrS, instrS, bad0, badAll, unusedB, mayB, placeB, topL, rcallee, calleeF, argsN, quietB, formB, usedL, slotsB, thingsB, kindsB, knownS, readsL, onceL_two, h0, h1, h2, h3, h4, h5]
 try (repeat' split) <;> simp_all
theorem ieq26 : IEq 26 := by
 intro p f a b c hs
 obtain ⟨h0, h1, h2, h3⟩ := letters26
 have h4 : usesS 26 = (true, true, false) := rfl
 have h5 : writesS 26 = true := rfl
 simp [rInstrS, instrS, bad0, badAll, unusedB, mayB, placeB, topL, rcallee, calleeF, argsN, quietB, formB, usedL, slotsB, thingsB, kindsB, knownS, readsL, onceL_two, h0, h1, h2, h3, h4, h5]
 try (repeat' split) <;> simp_all
theorem ieq27 : IEq 27 := by
 intro p f a b c hs
 obtain ⟨h0, h1, h2, h3⟩ := letters27
 have h4 : usesS 27 = (false, false, false) := rfl
 have h5 : writesS 27 = false := rfl
 simp [rInstrS, instrS, bad0, badAll, unusedB, mayB, placeB, topL, rcallee, calleeF, argsN, quietB, formB, usedL, slotsB, thingsB, kindsB, knownS, readsL, onceL_two, h0, h1, h2, h3, h4, h5]
 try (repeat' split) <;> simp_all
theorem ieq28 : IEq 28 := by
 intro p f a b c hs
 obtain ⟨h0, h1, h2, h3⟩ := letters28
 have h4 : usesS 28 = (false, false, false) := rfl
 have h5 : writesS 28 = false := rfl
 simp [rInstrS, instrS, bad0, badAll, unusedB, mayB, placeB, topL, rcallee, calleeF, argsN, quietB, formB, usedL, slotsB, thingsB, kindsB, knownS, readsL, onceL_two, h0, h1, h2, h3, h4, h5]
 try (repeat' split) <;> simp_all
theorem ieq29 : IEq 29 := by
 intro p f a b c hs
 obtain ⟨h0, h1, h2, h3⟩ := letters29
 have h4 : usesS 29 = (true, false, false) := rfl
 have h5 : writesS 29 = false := rfl
 simp [rInstrS, instrS, bad0, badAll, unusedB, mayB, placeB, topL, rcallee, calleeF, argsN, quietB, formB, usedL, slotsB, thingsB, kindsB, knownS, readsL, onceL_two, h0, h1, h2, h3, h4, h5]
 try (repeat' split) <;> simp_all
theorem ieq21 : IEq 21 := by
 intro p f a b c hs
 obtain ⟨h0, h1, h2, h3⟩ := letters21
 have h4 : usesS 21 = (true, true, true) := rfl
 have h5 : writesS 21 = true := rfl
 by_cases hb : withinB b p.funcs.length = true
 ·have hlt : b.toNat < p.funcs.length := by unfold withinB at hb; simp at hb; omega
  have hg : p.funcs[b.toNat]? = some p.funcs[b.toNat] := List.getElem?_eq_getElem hlt
  generalize p.funcs[b.toNat] = g at hg
  have hcal : calleeF p ⟨21, a, b, c⟩ = some g := by unfold calleeF; rw [if_pos ⟨by simp, hb⟩]; exact hg
  have hrc : rcallee p ⟨21, a, b, c⟩ = some g := by unfold rcallee; rw [if_pos ⟨h2, hb⟩]; exact hg
  have hra := room_args f c g.args.length hs
  have hrl : readsL ⟨21, a, b, c⟩ (g.args.length : Int) = argSlots c (nArgs g.args.length) := rfl
  simp only [rInstrS, instrS, bad0, badAll, unusedB, mayB, placeB, topL, argsN, quietB, formB, usedL, slotsB, thingsB, kindsB, knownS, h0, h1, h2, h3, h4, h5, hcal, hrc, hrl, hb, List.all_append, resultOf]
  generalize g.args.any isLocB = an
  cases hr : roomB f c g.args.length
  ·simp
   try (repeat' split) <;> simp_all
  ·rw [hra hr]
   simp
   try (repeat' split) <;> simp_all
 ·have hb : withinB b p.funcs.length = false := by simpa using hb
  have hcal : calleeF p ⟨21, a, b, c⟩ = none := by unfold calleeF; rw [if_neg (by simp [hb])]
  simp [rInstrS, instrS, unusedB, mayB, quietB, formB, thingsB, knownS, h0, h1, h2, h3, h4, h5, hcal, hb]
  try (repeat' split) <;> simp_all
theorem ieq23 : IEq 23 := by
 intro p f a b c hs
 obtain ⟨h0, h1, h2, h3⟩ := letters23
 have h4 : usesS 23 = (false, true, true) := rfl
 have h5 : writesS 23 = false := rfl
 by_cases hb : withinB b p.funcs.length = true
 ·have hlt : b.toNat < p.funcs.length := by unfold withinB at hb; simp at hb; omega
  have hg : p.funcs[b.toNat]? = some p.funcs[b.toNat] := List.getElem?_eq_getElem hlt
  generalize p.funcs[b.toNat] = g at hg
  have hcal : calleeF p ⟨23, a, b, c⟩ = some g := by unfold calleeF; rw [if_pos ⟨by simp, hb⟩]; exact hg
  have hrc : rcallee p ⟨23, a, b, c⟩ = some g := by unfold rcallee; rw [if_pos ⟨h2, hb⟩]; exact hg
  have hra := room_args f c g.args.length hs
  have hrl : readsL ⟨23, a, b, c⟩ (g.args.length : Int) = argSlots c (nArgs g.args.length) := rfl
  simp only [rInstrS, instrS, bad0, badAll, unusedB, mayB, placeB, topL, argsN, quietB, formB, usedL, slotsB, thingsB, kindsB, knownS, h0, h1, h2, h3, h4, h5, hcal, hrc, hrl, hb, List.all_append, resultOf]
  generalize g.args.any isLocB = an
  cases hr : roomB f c g.args.length
  ·simp
   try (repeat' split) <;> simp_all
  ·rw [hra hr]
   simp
   try (repeat' split) <;> simp_all
 ·have hb : withinB b p.funcs.length = false := by simpa using hb
  have hcal : calleeF p ⟨23, a, b, c⟩ = none := by unfold calleeF; rw [if_neg (by simp [hb])]
  simp [rInstrS, instrS, unusedB, mayB, quietB, formB, thingsB, knownS, h0, h1, h2, h3, h4, h5, hcal, hb]
  try (repeat' split) <;> simp_all
theorem ieq24 : IEq 24 := by
 intro p f a b c hs
 obtain ⟨h0, h1, h2, h3⟩ := letters24
 have h4 : usesS 24 = (false, true, true) := rfl
 have h5 : writesS 24 = false := rfl
 by_cases hb : withinB b p.funcs.length = true
 ·have hlt : b.toNat < p.funcs.length := by unfold withinB at hb; simp at hb; omega
  have hg : p.funcs[b.toNat]? = some p.funcs[b.toNat] := List.getElem?_eq_getElem hlt
  generalize p.funcs[b.toNat] = g at hg
  have hcal : calleeF p ⟨24, a, b, c⟩ = some g := by unfold calleeF; rw [if_pos ⟨by simp, hb⟩]; exact hg
  have hrc : rcallee p ⟨24, a, b, c⟩ = some g := by unfold rcallee; rw [if_pos ⟨h2, hb⟩]; exact hg
  have hra := room_args f c g.args.length hs
  have hrl : readsL ⟨24, a, b, c⟩ (g.args.length : Int) = argSlots c (nArgs g.args.length) := rfl
  simp only [rInstrS, instrS, bad0, badAll, unusedB, mayB, placeB, topL, argsN, quietB, formB, usedL, slotsB, thingsB, kindsB, knownS, h0, h1, h2, h3, h4, h5, hcal, hrc, hrl, hb, List.all_append, resultOf]
  generalize g.args.any isLocB = an
  cases hr : roomB f c g.args.length
  ·simp
   try (repeat' split) <;> simp_all
  ·rw [hra hr]
   simp
   try (repeat' split) <;> simp_all
 ·have hb : withinB b p.funcs.length = false := by simpa using hb
  have hcal : calleeF p ⟨24, a, b, c⟩ = none := by unfold calleeF; rw [if_neg (by simp [hb])]
  simp [rInstrS, instrS, unusedB, mayB, quietB, formB, thingsB, knownS, h0, h1, h2, h3, h4, h5, hcal, hb]
  try (repeat' split) <;> simp_all
theorem ieq22 : IEq 22 := by
 intro p f a b c hs
 obtain ⟨h0, h1, h2, h3⟩ := letters22
 have h4 : usesS 22 = (true, false, false) := rfl
 have h5 : writesS 22 = false := rfl
 by_cases hr : f.result = 0
 all_goals
  simp [rInstrS, instrS, bad0, badAll, unusedB, mayB, placeB, topL, rcallee, calleeF, argsN, quietB, formB, usedL, slotsB, thingsB, kindsB, knownS, readsL, resultOf, h0, h1, h2, h3, h4, h5, hr]
  try (repeat' split) <;> simp_all
theorem ieq_any (p : Prg) (f : Fun) (i : Ins) (hs : f.slots < 9223372036854775808) : rInstrS p f i = instrS p f i := by
 obtain ⟨op, a, b, c⟩ := i
 have out : ∀ op, (op < 0 ∨ 29 < op) → IEq op := fun op h p f a b c hs => by
  have h1 := operands_out op h
  have h2 : knownS op = false := by unfold knownS; simp; omega
  have hz : (operandsS op).size < 1 := by rw [h1]; decide
  have e1 : rInstrS p f ⟨op, a, b, c⟩ = 2 := if_pos (.inl hz)
  have e2 : formB p f ⟨op, a, b, c⟩ = false := by unfold formB; rw [h2]; rfl
  have e3 : instrS p f ⟨op, a, b, c⟩ = 2 := if_pos e2
  rw [e1, e3]
 exact op_cases (p := IEq) (ops_all ieq0 ieq1 ieq2 ieq3 ieq4 ieq5 ieq6 ieq7 ieq8 ieq9 ieq10 ieq11 ieq12 ieq13 ieq14 ieq15 ieq16 ieq17 ieq18 ieq19 ieq20 ieq21 ieq22 ieq23 ieq24 ieq25 ieq26 ieq27 ieq28 ieq29) (fun op h => out op (.inl h)) (fun op h => out op (.inr h)) op p f a b c hs
end Go.Proofs.YtjcjhfnjamphlaaGreat
namespace Go.Proofs.YtjcjhfnjamphlaaGreat
open Go.ChangeShapes Go.WideShapes Go.ChangeAt Go.RowKit
def FunB (f : Fun) : Prop := (∀ x ∈ f.args, i64B x) ∧ i64B f.result ∧ i64B f.slots ∧ (∀ x ∈ f.objects, i64B x) ∧ ∀ i ∈ f.code, i.wf
def PrgB (p : Prg) : Prop := (∀ x ∈ p.globals, i64B x) ∧ (∀ s ∈ p.shapes, ∀ x ∈ s, i64B x) ∧ ∀ f ∈ p.funcs, FunB f
theorem all_at {α : Type} {P : α → Prop} {l : List α} (h : ∀ j (hj : j < l.length), P l[j]) : ∀ x ∈ l, P x := fun x hx => by
 obtain ⟨j, hj, rfl⟩ := List.getElem_of_mem hx
 exact h j hj
variable {H : Type} {enc : TypeId × Value → H}
theorem trodB_ints {w : World} {base : Nat} {sp : Nat → Bool} {hd : Bool} {m : Nat} {cs : List Value} {x : DataW H × List MemPlace} (h : DataW.trod enc Tryz.prog w base sp hd m 22 cs = some x) :
  ∃ a l c, cs = [.slice a (List.length l) c] ∧ IntSl w (fun k => k < w.heap.size) a l ∧ ∀ x ∈ l, i64B x := by
 obtain ⟨a, l, c, h1, h2⟩ := open_elems (α := Int) Tryz.underlying22 cells_ints.1 (by decide) (fun ds z => ∀ u, ds = [u] → u = .int .i64 z ∧ i64B z) (fun n ds y hy => by
  rcases Nat.lt_or_ge 1 ds.length with h | h
  ·exact ⟨0, fun u hu => by rw [hu] at h; simp at h⟩
  ·match ds, h with
   | [], _ => exact ⟨0, fun u hu => by cases hu⟩
   | [u], _ =>
    obtain ⟨z, hz, hz2⟩ := trod_one hy
    exact ⟨z, fun v hv => by simp at hv; rw [← hv]; exact ⟨hz, hz2⟩⟩) h
 refine ⟨a, l, c, h1, fun j hj => ?_, all_at fun j hj => ?_⟩
 ·obtain ⟨b, o, ds, h3, h4, h5, h6⟩ := h2 j hj
  match ds, h5 with
  | [u], _ =>
   have hu := (h4 u rfl).1
   have hc := h6 0 u rfl
   rw [hu, Nat.mul_one] at hc
   exact ⟨b, o, h3, World.block_lt hc, hc⟩
 ·obtain ⟨b, o, ds, h3, h4, h5, h6⟩ := h2 j hj
  match ds, h5 with
  | [u], _ => exact (h4 u rfl).2
theorem trodB_instrs {w : World} {base : Nat} {sp : Nat → Bool} {hd : Bool} {m : Nat} {cs : List Value} {x : DataW H × List MemPlace} (h : DataW.trod enc Tryz.prog w base sp hd m 56 cs = some x) :
  ∃ a l c, cs = [.slice a (List.length l) c] ∧ InsSlD w (fun k => k < w.heap.size) a l ∧ ∀ i ∈ l, Ins.wf i := by
 obtain ⟨a, l, c, h1, h2⟩ := open_elems (α := Ins) Tryz.underlying56 cells_ints.2 (by decide) (fun ds z => ds = z.cells ∧ z.wf) (fun n ds y hy => trod_ins hy) h
 refine ⟨a, l, c, h1, fun j hj => ?_, all_at fun j hj => ?_⟩
 ·obtain ⟨b, o, ds, h3, ⟨rfl, _⟩, h5, h6⟩ := h2 j hj
  exact ⟨b, o, h3, World.block_lt (h6 0 _ rfl), h6 0 _ rfl, h6 1 _ rfl, h6 2 _ rfl, h6 3 _ rfl⟩
 ·obtain ⟨b, o, ds, h3, ⟨_, h4⟩, h5, h6⟩ := h2 j hj
  exact h4
set_option maxRecDepth 100000 in
theorem trodB_shape {w : World} {base : Nat} {sp : Nat → Bool} {hd : Bool} {n : Nat} {cs : List Value} {x : DataW H × List MemPlace} (h : DataW.trod enc Tryz.prog w base sp hd n 55 cs = some x) :
  ∃ l : List Int, ∃ a c, cs = [.slice a l.length c] ∧ IntSl w (fun k => k < w.heap.size) a l ∧ ∀ x ∈ l, i64B x := by
 obtain ⟨xs, m, _, _, hl, hlen, hf⟩ := DataW.trod_struct Tryz.underlying55 h
 rw [cells_more.1] at hl
 match cs, hl, xs, hlen with
 | [c0], _, [y0], _ =>
  have f0 : DataW.trod enc Tryz.prog w base sp hd m 22 (([c0].drop 0).take (Tryz.prog.cellsOf 22)) = some y0 := hf 0 _ rfl
  rw [cells_more.2.2.2.1] at f0
  obtain ⟨a, l, c, h1, h2⟩ := trodB_ints f0
  exact ⟨l, a, c, h1, h2⟩
set_option maxRecDepth 100000 in
theorem trodB_func {w : World} {base : Nat} {sp : Nat → Bool} {hd : Bool} {n : Nat} {cs : List Value} {x : DataW H × List MemPlace} (h : DataW.trod enc Tryz.prog w base sp hd n 58 cs = some x) :
  ∃ f : Fun, (∃ c0 c1 c2 c3 c4, cs = [c0, c1, c2, c3, c4] ∧ FunVal w (fun k => k < w.heap.size) f c0 c1 c2 c3 c4) ∧ FunB f := by
 obtain ⟨xs, m, _, _, hl, hlen, hf⟩ := DataW.trod_struct Tryz.underlying58 h
 rw [cells_more.2.1] at hl
 match cs, hl, xs, hlen with
 | [c0, c1, c2, c3, c4], _, [y0, y1, y2, y3, y4], _ =>
  have f0 : DataW.trod enc Tryz.prog w base sp hd m 22 (([c0, c1, c2, c3, c4].drop 0).take (Tryz.prog.cellsOf 22)) = some y0 := hf 0 _ rfl
  have f1 : DataW.trod enc Tryz.prog w base sp hd m 3 (([c0, c1, c2, c3, c4].drop 1).take (Tryz.prog.cellsOf 3)) = some y1 := hf 1 _ rfl
  have f2 : DataW.trod enc Tryz.prog w base sp hd m 3 (([c0, c1, c2, c3, c4].drop 2).take (Tryz.prog.cellsOf 3)) = some y2 := hf 2 _ rfl
  have f3 : DataW.trod enc Tryz.prog w base sp hd m 22 (([c0, c1, c2, c3, c4].drop 3).take (Tryz.prog.cellsOf 22)) = some y3 := hf 3 _ rfl
  have f4 : DataW.trod enc Tryz.prog w base sp hd m 56 (([c0, c1, c2, c3, c4].drop 4).take (Tryz.prog.cellsOf 56)) = some y4 := hf 4 _ rfl
  rw [cells_more.2.2.2.1] at f0 f3
  rw [cells_ints.1] at f1 f2
  rw [cells_more.2.2.2.2.1] at f4
  obtain ⟨a0, l0, n0, h0, s0, b0⟩ := trodB_ints f0
  obtain ⟨z1, h1, b1⟩ := trod_one f1
  obtain ⟨z2, h2, b2⟩ := trod_one f2
  obtain ⟨a3, l3, n3, h3, s3, b3⟩ := trodB_ints f3
  obtain ⟨a4, l4, n4, h4, s4, b4⟩ := trodB_instrs f4
  simp at h0 h3 h4
  exact ⟨⟨l0, z1, z2, l3, l4⟩, ⟨_, _, _, _, _, rfl, h1, h2, ⟨a0, n0, h0, s0⟩, ⟨a3, n3, h3, s3⟩, a4, n4, h4, s4⟩, b0, b1, b2, b3, b4⟩
theorem trodB_shapes {w : World} {base : Nat} {sp : Nat → Bool} {hd : Bool} {m : Nat} {cs : List Value} {x : DataW H × List MemPlace} (h : DataW.trod enc Tryz.prog w base sp hd m 23 cs = some x) :
  ∃ a l c, cs = [.slice a (List.length l) c] ∧ ShSl w (fun k => k < w.heap.size) a l ∧ ∀ s ∈ l, ∀ x ∈ s, i64B x := by
 obtain ⟨a, l, c, h1, h2⟩ := open_elems (α := List Int) Tryz.underlying23 cells_more.1 (by decide) (fun ds z => ∃ a c, ds = [.slice a z.length c] ∧ IntSl w (fun k => k < w.heap.size) a z ∧ ∀ x ∈ z, i64B x) (fun n ds y hy => trodB_shape hy) h
 refine ⟨a, l, c, h1, fun j hj => ?_, all_at fun j hj => ?_⟩
 ·obtain ⟨b, o, ds, h3, ⟨a', c', rfl, h4, _⟩, h5, h6⟩ := h2 j hj
  have hc := h6 0 _ rfl
  rw [Nat.mul_one] at hc
  exact ⟨b, o, h3, World.block_lt hc, a', c', hc, h4⟩
 ·obtain ⟨b, o, ds, h3, ⟨a', c', rfl, _, h4⟩, h5, h6⟩ := h2 j hj
  exact h4
theorem trodB_funcs {w : World} {base : Nat} {sp : Nat → Bool} {hd : Bool} {m : Nat} {cs : List Value} {x : DataW H × List MemPlace} (h : DataW.trod enc Tryz.prog w base sp hd m 24 cs = some x) :
  ∃ a l c, cs = [.slice a (List.length l) c] ∧ FnSl w (fun k => k < w.heap.size) a l ∧ ∀ f ∈ l, FunB f := by
 obtain ⟨a, l, c, h1, h2⟩ := open_elems (α := Fun) Tryz.underlying24 cells_more.2.1 (by decide) (fun ds z => (∃ c0 c1 c2 c3 c4, ds = [c0, c1, c2, c3, c4] ∧ FunVal w (fun k => k < w.heap.size) z c0 c1 c2 c3 c4) ∧ FunB z) (fun n ds y hy => trodB_func hy) h
 refine ⟨a, l, c, h1, fun j hj => ?_, all_at fun j hj => ?_⟩
 ·obtain ⟨b, o, ds, h3, ⟨⟨c0, c1, c2, c3, c4, rfl, h4⟩, _⟩, h5, h6⟩ := h2 j hj
  exact ⟨b, o, h3, World.block_lt (h6 0 _ rfl), c0, c1, c2, c3, c4, h6 0 _ rfl, h6 1 _ rfl, h6 2 _ rfl, h6 3 _ rfl, h6 4 _ rfl, h4⟩
 ·obtain ⟨b, o, ds, h3, ⟨_, h4⟩, h5, h6⟩ := h2 j hj
  exact h4
set_option maxRecDepth 100000 in
theorem open_programB {w : World} {base b : Nat} {v : Value} {sp : Nat → Bool} {d : DataW H} {p : List MemPlace} (hv : Value.okWide Tryz.prog w .any base 26 v)
  (h : DataW.Trod enc Tryz.prog w b sp true 26 v d p) : ∃ (pr : Prg) (c0 c1 c2 : Value), v = .agg #[c0, c1, c2] ∧ PrgVal w (fun k => k < w.heap.size) pr c0 c1 c2 ∧ PrgB pr := by
 obtain ⟨v0, v1, v2, y0, y1, y2, n, rfl, _, _, h0, h1, h2⟩ := Joins.open_agg3 Tryz.underlying26 (by kernel_rfl) cells_more.2.2.1 hv h
 obtain ⟨a0, l0, n0, e0, s0, t0⟩ := trodB_ints h0
 obtain ⟨a1, l1, n1, e1, s1, t1⟩ := trodB_shapes h1
 obtain ⟨a2, l2, n2, e2, s2, t2⟩ := trodB_funcs h2
 simp at e0 e1 e2
 exact ⟨⟨l0, l1, l2⟩, v0, v1, v2, rfl, ⟨⟨a0, n0, e0, s0⟩, ⟨a1, n1, e1, s1⟩, a2, n2, e2, s2⟩, t0, t1, t2⟩
end Go.Proofs.YtjcjhfnjamphlaaGreat
namespace Go.Proofs.YtjcjhfnjamphlaaGreat
def frontS (p : Prg) (f : Fun) : Int :=
 if f.slots < f.args.length ∨ 16 < f.slots ∨ 8 < f.objects.length ∨ f.code.length < 1 ∨ 64 < f.code.length then 1
 else if f.args.all (validB · p.shapes.length) = false then 3
 else if f.result ≠ 0 ∧ fieldB f.result p.shapes.length = false then 3
 else if f.objects.all (withinB · p.shapes.length) = false then 4 else 0
def funF (p : Prg) (fn : Nat) (f : Fun) : Int × Nat := if frontS p f ≠ 0 then (frontS p f, 0) else firstAt (fun pc => instrE p fn pc) f.code.length
def funcS (p : Prg) (fn : Int) : Int × Nat := if withinB fn p.funcs.length = true then funF p fn.toNat ((p.funcs[fn.toNat]?).getD fun0) else (1, 0)
def wholeS (p : Prg) : Int :=
 if shapesErr p.shapes ≠ 0 then shapesErr p.shapes
 else if 16 < p.globals.length ∨ p.funcs.length < 1 ∨ 16 < p.funcs.length then 1
 else if p.globals.all (fieldB · p.shapes.length) = false then 3
 else if 0 < ((p.funcs[0]?).getD fun0).args.length ∨ ((p.funcs[0]?).getD fun0).result ≠ 0 then 3 else 0
def progS (p : Prg) : Int × Nat × Nat :=
 if wholeS p ≠ 0 then (wholeS p, 0, 0)
 else ((firstAt (fun i => (funcS p i).1) p.funcs.length).1, (firstAt (fun i => (funcS p i).1) p.funcs.length).2,
  if (firstAt (fun i => (funcS p i).1) p.funcs.length).1 = 0 then 0 else (funcS p (firstAt (fun i => (funcS p i).1) p.funcs.length).2).2)
theorem funcS_out {p : Prg} {fn : Int} (h : withinB fn p.funcs.length = false) : funcS p fn = (1, 0) := by unfold funcS; rw [h]; rfl
theorem funcS_at {p : Prg} (k : Nat) (hk : k < p.funcs.length) : funcS p k = funF p k p.funcs[k] := by
 have h : withinB (k : Int) p.funcs.length = true := by simp [withinB]; omega
 unfold funcS
 rw [if_pos h]
 simp [hk]
theorem progS_zero (p : Prg) : (progS p).1 = 0 ↔ wholeS p = 0 ∧ ∀ i, i < p.funcs.length → (funcS p i).1 = 0 := by
 unfold progS
 by_cases h : wholeS p = 0
 ·rw [if_neg (by simpa using h)]
  simp only [h, true_and]
  exact firstAt_zero
 ·rw [if_pos h]
  simp [h]
theorem funF_front {p : Prg} {k : Nat} {f : Fun} (h : frontS p f ≠ 0) : funF p k f = (frontS p f, 0) := if_pos h
theorem funF_code {p : Prg} {k : Nat} {f : Fun} (h : frontS p f = 0) : funF p k f = firstAt (fun pc => instrE p k pc) f.code.length := if_neg (by simpa using h)
theorem funF_zero {p : Prg} {k : Nat} {f : Fun} (h : (funF p k f).1 = 0) : ∀ j, j < f.code.length → instrE p k j = 0 := by
 by_cases h2 : frontS p f = 0
 ·rw [funF_code h2] at h
  exact firstAt_zero.1 h
 ·rw [funF_front h2] at h
  exact absurd h h2
theorem all_take {α : Type} {P : α → Bool} {l : List α} {k : Nat} (hk : k < l.length) (h : (l.take k).all P = true) : (l.take (k + 1)).all P = P l[k] := by
 rw [take_snoc l k hk, List.all_append, h]
 simp
theorem all_no {α : Type} {P : α → Bool} {l : List α} {k : Nat} (hk : k < l.length) (h : P l[k] = false) : l.all P = false := by
 rw [List.all_eq_false]
 exact ⟨l[k], List.getElem_mem hk, by simp [h]⟩
def PrgR (p : Prg) : Prop := p.globals.length ≤ 3000 ∧ p.shapes.length ≤ 3000 ∧ p.funcs.length ≤ 3000 ∧ (∀ s ∈ p.shapes, s.length ≤ 3000) ∧ ∀ f ∈ p.funcs, f.args.length ≤ 3000 ∧ f.objects.length ≤ 3000 ∧ f.code.length ≤ 3000
theorem codeOf_len {p : Prg} (h : PrgR p) (fn : Int) : (codeOf p fn).length ≤ 3000 := by
 unfold codeOf
 split
 ·cases hq : p.funcs[fn.toNat]? with
  | none => simp
  | some f => exact (h.2.2.2.2 f (List.mem_of_getElem? hq)).2.2
 ·simp
theorem calleeG_len {p : Prg} (h : PrgR p) (i : Ins) : (calleeG p i).args.length ≤ 3000 := by
 unfold calleeG calleeF
 split
 ·cases hq : p.funcs[i.b.toNat]? with
  | none => simp [fun0]
  | some f => exact (h.2.2.2.2 f (List.mem_of_getElem? hq)).1
 ·simp [fun0]
theorem slots_lt {p : Prg} (h : PrgB p) : ∀ f ∈ p.funcs, f.slots < 9223372036854775808 := fun f hf => by
 have := (h.2.2 f hf).2.2.1.2
 omega
end Go.Proofs.YtjcjhfnjamphlaaGreat
