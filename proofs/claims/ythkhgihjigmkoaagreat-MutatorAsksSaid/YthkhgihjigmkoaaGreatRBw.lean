import Derived.Test.YthkhgihjigmkoaaGreatRBr
import Derived.Test.YthkhgihjigmkoaaGreatRBv
set_option linter.unusedVariables false
set_option linter.unusedSimpArgs false
namespace Go.Proofs.YthkhgihjigmkoaaGreat.Tk
open Go.ChangeShapes Go.WideShapes Go.ChangeAt Go.RowKit Go.Maps
def insK (k : Nat) : Ins := if k = 0 then ⟨13, 2, 0, 0⟩ else if k = 1 then ⟨16, 0, 0, 0⟩ else if k = 2 then ⟨17, 1, 1, 0⟩ else if k = 3 then ⟨14, 0, 1, 0⟩ else ⟨15, 1, 1, 1⟩
def codeK (k : Nat) : List Ins := [⟨1, 0, 3, 0⟩, ⟨13, 1, 0, 0⟩, insK k]
def tK (k : Nat) (_ : Nat) : List (Option (List Int)) := [some [0, 0, 0], some [1, 0, 0], some [1, 16, 0], some [1, 16, if k = 0 then 16 else 0]]
theorem ask_tab (k : Nat) (hk : k < 5) : TabOk (pS (3 : Nat) (codeK k)) (tK k) ∧ (progS (pS (3 : Nat) (codeK k))).1 = 0 := by
 have hk2 : k = 0 ∨ k = 1 ∨ k = 2 ∨ k = 3 ∨ k = 4 := by omega
 have h : (solB (pS (3 : Nat) (codeK k)) (fnAt (pS (3 : Nat) (codeK k)) 0) (tK k 0) = true ∧ treeB (pS (3 : Nat) (codeK k)) (fnAt (pS (3 : Nat) (codeK k)) 0) (tK k 0) [0, 0, 1, 2] = true) ∧ (flowE (pS (3 : Nat) (codeK k)) (fnAt (pS (3 : Nat) (codeK k)) 0) (tblF (tK k 0))).1 = 0 ∧ (progS (pS (3 : Nat) (codeK k))).1 = 0 := by
  rcases hk2 with rfl | rfl | rfl | rfl | rfl <;> exact ⟨⟨by kernel_rfl, by kernel_rfl⟩, by kernel_rfl, by kernel_rfl⟩
 refine ⟨fun i hi => ?_, h.2.2⟩
 obtain rfl : i = 0 := by have : i < 1 := hi; omega
 refine ⟨isFlow_tbl (par := [0, 0, 1, 2]) (fun j hj => ?_) h.1.1 h.1.2, h.2.1⟩
 have hj : j ∈ codeK k ++ [(⟨27, 0, 0, 0⟩ : Ins)] := hj
 simp [codeK] at hj
 rcases hj with rfl | rfl | rfl | rfl
 ·exact insOk_of _ _ _ _ _ (by decide)
 ·exact insOk_of _ _ _ _ _ (by decide)
 ·rcases hk2 with rfl | rfl | rfl | rfl | rfl
  ·exact insOk_of _ _ _ _ _ (by decide)
  ·exact insOk_of _ _ _ _ _ (by decide)
  ·exact ⟨fun _ => by decide, fun k _ e => by have e : (17 : Int) = 21 ∨ (17 : Int) = 23 ∨ (17 : Int) = 24 := e; omega⟩
  ·exact insOk_of _ _ _ _ _ (by decide)
  ·exact insOk_of _ _ _ _ _ (by decide)
 ·exact insOk_of _ _ _ _ _ (by decide)
theorem ask_B (k : Nat) (hk : k < 5) : PrgB (pS (3 : Nat) (codeK k)) ∧ PrgR (pS (3 : Nat) (codeK k)) := by
 have hk2 : k = 0 ∨ k = 1 ∨ k = 2 ∨ k = 3 ∨ k = 4 := by omega
 rcases hk2 with rfl | rfl | rfl | rfl | rfl <;> (unfold PrgB PrgR FunB Ins.wf i64B pS codeK insK; simp)
def aW1 : List Int := (List.replicate 64 0).set 2 3
def aW2 : List Int := aW1.set 3 1048576
theorem aW1_len : aW1.length = 64 := by unfold aW1; simp
theorem aW2_len : aW2.length = 64 := by unfold aW2 aW1; simp
theorem MapsAt.below {w w' : World} {B mb b nm : Nat} {V : Nat → Prop} {C : Pl → Option (List Int)} (h : MapsAt w B mb b nm V C) (hb : Below w.heap.size w w') : MapsAt w' B mb b nm V C := by
 obtain ⟨h1, h2, h3, h4, h5⟩ := h
 exact ⟨(Fr.of_below hb (fun _ => False)).heap h1 (fun h => h), h2.fr (Fr.of_below hb (fun _ => False)) (fun h => h) (fun _ _ h => h), h3, h4, fun q hq => ⟨(h5 q hq).1, Nat.lt_of_lt_of_le (h5 q hq).2 hb.size⟩⟩
theorem ptsK {w : World} {B mb b nm : Nat} {V : Nat → Prop} {Ms : Nat → Flo} (k : Nat) (hMs : ∀ i, i < 1 → Ms i = tblF (tK k i)) (hm : MapsAt w B mb b nm V (allM 1 Ms)) :
  Calls Tryz.prog 142 #[.pointer (some ⟨mb, 0, none⟩), .int .i64 0, .int .i64 2] w fun e w' => e = .returned (.int .u16 (2 : Nat)) ∧ Below w.heap.size w w' := by
 have hI : i64B 0 ∧ i64B 2 := ⟨⟨by omega, by omega⟩, ⟨by omega, by omega⟩⟩
 have hrow : ∀ q K, tblF (tK k 0) q = some K → K.length ≤ 16 := fun q K h => by
  unfold tblF tK at h
  rcases q with _ | _ | _ | _ | q
  ·injection h with h; rw [← h]; simp
  ·injection h with h; rw [← h]; simp
  ·injection h with h; rw [← h]; simp
  ·injection h with h; rw [← h]; simp
  ·cases h
 have hcl : ∀ x K, allM 1 Ms x = some K → K.length ≤ 16 := fun x K hx => by
  unfold allM at hx
  split at hx
  ·next h1 =>
   split at hx
   ·have e : x.1.1.toNat = 0 := by have := h1.2; omega
    rw [e, hMs 0 (by omega)] at hx
    exact hrow _ _ hx
   ·cases hx
  ·cases hx
 have := mpointers_any w B mb b nm V _ hm 0 2 hI hcl
 have e : allM 1 Ms ⟨((0 : Int), (2 : Int)), hI⟩ = some [1, 16, 0] := by
  unfold allM
  rw [if_pos (by simp), if_pos (by simp)]
  show Ms 0 2 = _
  rw [hMs 0 (by omega)]
  rfl
 rw [e] at this
 exact this
theorem askStep0 {w : World} {F : Nat → Prop} {tb : Nat} {X : TB} (h : TaskAt w F tb (qS (3 : Nat)) (SF (2 : Nat) aW2) X) (D : Nat → Prop) (hD : ∀ k, D k → ¬ F k ∧ k < w.heap.size) (c0 c1 c2 : Value) (mb : Nat) (hv : PrgVal w D (pS (3 : Nat) (codeK 0)) c0 c1 c2) (PTS : ∀ wr, Below w.heap.size w wr → Calls Tryz.prog 142 #[.pointer (some ⟨mb, 0, none⟩), .int .i64 0, .int .i64 2] wr fun e w' => e = .returned (.int .u16 (2 : Nat)) ∧ Below wr.heap.size wr w') :
  Calls Tryz.prog 30 #[.agg #[c0, c1, c2], .pointer (some ⟨mb, 0, none⟩), .pointer (some ⟨tb, 0, none⟩)] w (RunPost w F tb (qS (3 : Nat)) X (SF (2 : Nat) aW2) (actV 5 0 0 0 0 false (.slice none 0 0))) := by
 refine stepS h D hD (codeK 0) c0 c1 c2 (some ⟨mb, 0, none⟩) hv ⟨13, 2, 0, 0⟩ rfl _ 5 0 0 0 0 false none 0 0 (fun wr hw => run_13 wr F tb (qS (3 : Nat)) (SF (2 : Nat) aW2) X (h.below hw) c0 c1 c2 (.pointer (some ⟨mb, 0, none⟩)) 2 0 0 _ 5 0 0 0 0 false none 0 0 (fun wx hx => ?_))
 have hx' := (h.below hw).below hx
 have hin : ∀ k, k < 10 → 0 + (2 + k) < (SF (2 : Nat) aW2).words.length := fun k hk => by show 0 + (2 + k) < aW2.length; rw [aW2_len]; omega
 have hpt := fun wy (hy : Below wx.heap.size wx wy) => PTS wy (hw.trans ((hx.trans (hy.mono hx.size)).mono hw.size))
 exact asks_new wx F tb (qS (3 : Nat)) (SF (2 : Nat) aW2) X hx' c0 c1 c2 _ 2 0 0
theorem askStep1 {w : World} {F : Nat → Prop} {tb : Nat} {X : TB} (h : TaskAt w F tb (qS (3 : Nat)) (SF (2 : Nat) aW2) X) (D : Nat → Prop) (hD : ∀ k, D k → ¬ F k ∧ k < w.heap.size) (c0 c1 c2 : Value) (mb : Nat) (hv : PrgVal w D (pS (3 : Nat) (codeK 1)) c0 c1 c2) (PTS : ∀ wr, Below w.heap.size w wr → Calls Tryz.prog 142 #[.pointer (some ⟨mb, 0, none⟩), .int .i64 0, .int .i64 2] wr fun e w' => e = .returned (.int .u16 (2 : Nat)) ∧ Below wr.heap.size wr w') :
  Calls Tryz.prog 30 #[.agg #[c0, c1, c2], .pointer (some ⟨mb, 0, none⟩), .pointer (some ⟨tb, 0, none⟩)] w (RunPost w F tb (qS (3 : Nat)) X (SF (2 : Nat) aW2) (actV 6 0 0 0 0 false (.slice none 0 0))) := by
 refine stepS h D hD (codeK 1) c0 c1 c2 (some ⟨mb, 0, none⟩) hv ⟨16, 0, 0, 0⟩ rfl _ 6 0 0 0 0 false none 0 0 (fun wr hw => run_16 wr F tb (qS (3 : Nat)) (SF (2 : Nat) aW2) X (h.below hw) c0 c1 c2 (.pointer (some ⟨mb, 0, none⟩)) 0 0 0 _ 6 0 0 0 0 false none 0 0 (fun wx hx => ?_))
 have hx' := (h.below hw).below hx
 have hin : ∀ k, k < 10 → 0 + (2 + k) < (SF (2 : Nat) aW2).words.length := fun k hk => by show 0 + (2 + k) < aW2.length; rw [aW2_len]; omega
 have hpt := fun wy (hy : Below wx.heap.size wx wy) => PTS wy (hw.trans ((hx.trans (hy.mono hx.size)).mono hw.size))
 exact asks_gload wx F tb (qS (3 : Nat)) (SF (2 : Nat) aW2) X hx' c0 c1 c2 _ 0 0 0
theorem askStep2 {w : World} {F : Nat → Prop} {tb : Nat} {X : TB} (h : TaskAt w F tb (qS (3 : Nat)) (SF (2 : Nat) aW2) X) (D : Nat → Prop) (hD : ∀ k, D k → ¬ F k ∧ k < w.heap.size) (c0 c1 c2 : Value) (mb : Nat) (hv : PrgVal w D (pS (3 : Nat) (codeK 2)) c0 c1 c2) (PTS : ∀ wr, Below w.heap.size w wr → Calls Tryz.prog 142 #[.pointer (some ⟨mb, 0, none⟩), .int .i64 0, .int .i64 2] wr fun e w' => e = .returned (.int .u16 (2 : Nat)) ∧ Below wr.heap.size wr w') :
  Calls Tryz.prog 30 #[.agg #[c0, c1, c2], .pointer (some ⟨mb, 0, none⟩), .pointer (some ⟨tb, 0, none⟩)] w (RunPost w F tb (qS (3 : Nat)) X (SF (2 : Nat) aW2) (actV 7 0 1 1048576 0 true (.slice none 0 0))) := by
 refine stepS h D hD (codeK 2) c0 c1 c2 (some ⟨mb, 0, none⟩) hv ⟨17, 1, 1, 0⟩ rfl _ 7 0 1 1048576 0 true none 0 0 (fun wr hw => run_17 wr F tb (qS (3 : Nat)) (SF (2 : Nat) aW2) X (h.below hw) c0 c1 c2 (.pointer (some ⟨mb, 0, none⟩)) 1 1 0 _ 7 0 1 1048576 0 true none 0 0 (fun wx hx => ?_))
 have hx' := (h.below hw).below hx
 have hin : ∀ k, k < 10 → 0 + (2 + k) < (SF (2 : Nat) aW2).words.length := fun k hk => by show 0 + (2 + k) < aW2.length; rw [aW2_len]; omega
 have hpt := fun wy (hy : Below wx.heap.size wx wy) => PTS wy (hw.trans ((hx.trans (hy.mono hx.size)).mono hw.size))
 exact asks_gstore wx F tb (qS (3 : Nat)) (SF (2 : Nat) aW2) X hx' (SF_ok _ _ aW2_len) [] ⟨0, (2 : Nat), 0, -1, none, 0, 0⟩ rfl 0 (by decide) rfl 0 rfl 1 (by decide) (by decide) (hin 1 (by decide)) 1048576 rfl mb 2 (by decide) hpt true (by decide) c0 c1 c2 1 0
theorem askStep3 {w : World} {F : Nat → Prop} {tb : Nat} {X : TB} (h : TaskAt w F tb (qS (3 : Nat)) (SF (2 : Nat) aW2) X) (D : Nat → Prop) (hD : ∀ k, D k → ¬ F k ∧ k < w.heap.size) (c0 c1 c2 : Value) (mb : Nat) (hv : PrgVal w D (pS (3 : Nat) (codeK 3)) c0 c1 c2) (PTS : ∀ wr, Below w.heap.size w wr → Calls Tryz.prog 142 #[.pointer (some ⟨mb, 0, none⟩), .int .i64 0, .int .i64 2] wr fun e w' => e = .returned (.int .u16 (2 : Nat)) ∧ Below wr.heap.size wr w') :
  Calls Tryz.prog 30 #[.agg #[c0, c1, c2], .pointer (some ⟨mb, 0, none⟩), .pointer (some ⟨tb, 0, none⟩)] w (RunPost w F tb (qS (3 : Nat)) X (SF (2 : Nat) aW2) (actV 3 1048576 0 0 0 false (.slice none 0 0))) := by
 refine stepS h D hD (codeK 3) c0 c1 c2 (some ⟨mb, 0, none⟩) hv ⟨14, 0, 1, 0⟩ rfl _ 3 1048576 0 0 0 false none 0 0 (fun wr hw => run_14 wr F tb (qS (3 : Nat)) (SF (2 : Nat) aW2) X (h.below hw) c0 c1 c2 (.pointer (some ⟨mb, 0, none⟩)) 0 1 0 _ 3 1048576 0 0 0 false none 0 0 (fun wx hx => ?_))
 have hx' := (h.below hw).below hx
 have hin : ∀ k, k < 10 → 0 + (2 + k) < (SF (2 : Nat) aW2).words.length := fun k hk => by show 0 + (2 + k) < aW2.length; rw [aW2_len]; omega
 have hpt := fun wy (hy : Below wx.heap.size wx wy) => PTS wy (hw.trans ((hx.trans (hy.mono hx.size)).mono hw.size))
 exact asks_load wx F tb (qS (3 : Nat)) (SF (2 : Nat) aW2) X hx' (SF_ok _ _ aW2_len) [] ⟨0, (2 : Nat), 0, -1, none, 0, 0⟩ rfl 0 (by decide) rfl 0 rfl 1 (by decide) (by decide) (hin 1 (by decide)) 1048576 rfl (by decide) c0 c1 c2 _ 0 0
theorem askStep4 {w : World} {F : Nat → Prop} {tb : Nat} {X : TB} (h : TaskAt w F tb (qS (3 : Nat)) (SF (2 : Nat) aW2) X) (D : Nat → Prop) (hD : ∀ k, D k → ¬ F k ∧ k < w.heap.size) (c0 c1 c2 : Value) (mb : Nat) (hv : PrgVal w D (pS (3 : Nat) (codeK 4)) c0 c1 c2) (PTS : ∀ wr, Below w.heap.size w wr → Calls Tryz.prog 142 #[.pointer (some ⟨mb, 0, none⟩), .int .i64 0, .int .i64 2] wr fun e w' => e = .returned (.int .u16 (2 : Nat)) ∧ Below wr.heap.size wr w') :
  Calls Tryz.prog 30 #[.agg #[c0, c1, c2], .pointer (some ⟨mb, 0, none⟩), .pointer (some ⟨tb, 0, none⟩)] w (RunPost w F tb (qS (3 : Nat)) X (SF (2 : Nat) aW2) (actV 4 1048576 1 1048576 0 true (.slice none 0 0))) := by
 refine stepS h D hD (codeK 4) c0 c1 c2 (some ⟨mb, 0, none⟩) hv ⟨15, 1, 1, 1⟩ rfl _ 4 1048576 1 1048576 0 true none 0 0 (fun wr hw => run_15 wr F tb (qS (3 : Nat)) (SF (2 : Nat) aW2) X (h.below hw) c0 c1 c2 (.pointer (some ⟨mb, 0, none⟩)) 1 1 1 _ 4 1048576 1 1048576 0 true none 0 0 (fun wx hx => ?_))
 have hx' := (h.below hw).below hx
 have hin : ∀ k, k < 10 → 0 + (2 + k) < (SF (2 : Nat) aW2).words.length := fun k hk => by show 0 + (2 + k) < aW2.length; rw [aW2_len]; omega
 have hpt := fun wy (hy : Below wx.heap.size wx wy) => PTS wy (hw.trans ((hx.trans (hy.mono hx.size)).mono hw.size))
 exact asks_store wx F tb (qS (3 : Nat)) (SF (2 : Nat) aW2) X hx' (SF_ok _ _ aW2_len) [] ⟨0, (2 : Nat), 0, -1, none, 0, 0⟩ rfl 0 (by decide) rfl 0 rfl 1 1 (by decide) (by decide) ⟨hin 1 (by decide), hin 1 (by decide)⟩ 1048576 1048576 rfl (by decide) rfl mb 2 (by decide) hpt true (by decide) c0 c1 c2 1
theorem giveSet13 {w : World} {F : Nat → Prop} {tb sl : Nat} {X : TB} {pc : Nat} {ws : List Int} (h : TaskAt w F tb (qS sl) (SF pc ws) X) (hl : ws.length = 64) (hs : sl ≤ 10) (hpc : pc ≤ 1000) (D : Nat → Prop) (hD : ∀ k, D k → ¬ F k ∧ k < w.heap.size) (code : List Ins) (c0 c1 c2 : Value) (hv : PrgVal w D (pS sl code) c0 c1 c2) (s : Nat) (hk : s < sl) (ib ic : Int) (hi : (code ++ [(⟨27, 0, 0, 0⟩ : Ins)])[pc]? = some ⟨13, s, ib, ic⟩) (v : Int) :
  Calls Tryz.prog 35 #[.agg #[c0, c1, c2], .pointer (some ⟨tb, 0, none⟩), .int .i64 v] w fun e w' => e = .returned (.bool true) ∧ TaskAt w' F tb (qS sl) (SF ((pc + 1 : Nat) : Int) (ws.set (2 + s) v)) X ∧ Fr F w w' := by
 obtain ⟨hl2, hi⟩ := List.getElem?_eq_some_iff.1 hi
 refine give_13 w F tb (qS sl) (SF pc ws) X h (by show 1 ≤ 1000; decide) rfl (by show 1 ≤ 10000; decide) [] ⟨0, pc, 0, -1, none, 0, 0⟩ rfl D hD (pS sl code) c0 c1 c2 hv 0 (by show 0 < 1; decide) rfl pc rfl hl2 s ib ic hi _ v (fun wr hw => ?_)
 have rs := stSet_any wr F tb (qS sl) (SF pc ws) X (h.below hw) (SF_ok pc ws hl) [] ⟨0, pc, 0, -1, none, 0, 0⟩ rfl ⟨by show (0 : Int) ≤ (pc : Int); omega, by show (pc : Int) ≤ 100000; omega⟩ 0 (by show 0 < 1; decide) rfl 0 rfl s (by show (s : Int) < (sl : Nat); omega) (by omega) (by show 0 + (2 + s) < ws.length; omega) v c0 c1 c2 (.pointer none) 13 s ib ic
 rw [Nat.zero_add] at rs
 exact rs
theorem giveSet14 {w : World} {F : Nat → Prop} {tb sl : Nat} {X : TB} {pc : Nat} {ws : List Int} (h : TaskAt w F tb (qS sl) (SF pc ws) X) (hl : ws.length = 64) (hs : sl ≤ 10) (hpc : pc ≤ 1000) (D : Nat → Prop) (hD : ∀ k, D k → ¬ F k ∧ k < w.heap.size) (code : List Ins) (c0 c1 c2 : Value) (hv : PrgVal w D (pS sl code) c0 c1 c2) (s : Nat) (hk : s < sl) (ib ic : Int) (hi : (code ++ [(⟨27, 0, 0, 0⟩ : Ins)])[pc]? = some ⟨14, s, ib, ic⟩) (v : Int) :
  Calls Tryz.prog 35 #[.agg #[c0, c1, c2], .pointer (some ⟨tb, 0, none⟩), .int .i64 v] w fun e w' => e = .returned (.bool true) ∧ TaskAt w' F tb (qS sl) (SF ((pc + 1 : Nat) : Int) (ws.set (2 + s) v)) X ∧ Fr F w w' := by
 obtain ⟨hl2, hi⟩ := List.getElem?_eq_some_iff.1 hi
 refine give_14 w F tb (qS sl) (SF pc ws) X h (by show 1 ≤ 1000; decide) rfl (by show 1 ≤ 10000; decide) [] ⟨0, pc, 0, -1, none, 0, 0⟩ rfl D hD (pS sl code) c0 c1 c2 hv 0 (by show 0 < 1; decide) rfl pc rfl hl2 s ib ic hi _ v (fun wr hw => ?_)
 have rs := stSet_any wr F tb (qS sl) (SF pc ws) X (h.below hw) (SF_ok pc ws hl) [] ⟨0, pc, 0, -1, none, 0, 0⟩ rfl ⟨by show (0 : Int) ≤ (pc : Int); omega, by show (pc : Int) ≤ 100000; omega⟩ 0 (by show 0 < 1; decide) rfl 0 rfl s (by show (s : Int) < (sl : Nat); omega) (by omega) (by show 0 + (2 + s) < ws.length; omega) v c0 c1 c2 (.pointer none) 14 s ib ic
 rw [Nat.zero_add] at rs
 exact rs
theorem giveSet16 {w : World} {F : Nat → Prop} {tb sl : Nat} {X : TB} {pc : Nat} {ws : List Int} (h : TaskAt w F tb (qS sl) (SF pc ws) X) (hl : ws.length = 64) (hs : sl ≤ 10) (hpc : pc ≤ 1000) (D : Nat → Prop) (hD : ∀ k, D k → ¬ F k ∧ k < w.heap.size) (code : List Ins) (c0 c1 c2 : Value) (hv : PrgVal w D (pS sl code) c0 c1 c2) (s : Nat) (hk : s < sl) (ib ic : Int) (hi : (code ++ [(⟨27, 0, 0, 0⟩ : Ins)])[pc]? = some ⟨16, s, ib, ic⟩) (v : Int) :
  Calls Tryz.prog 35 #[.agg #[c0, c1, c2], .pointer (some ⟨tb, 0, none⟩), .int .i64 v] w fun e w' => e = .returned (.bool true) ∧ TaskAt w' F tb (qS sl) (SF ((pc + 1 : Nat) : Int) (ws.set (2 + s) v)) X ∧ Fr F w w' := by
 obtain ⟨hl2, hi⟩ := List.getElem?_eq_some_iff.1 hi
 refine give_16 w F tb (qS sl) (SF pc ws) X h (by show 1 ≤ 1000; decide) rfl (by show 1 ≤ 10000; decide) [] ⟨0, pc, 0, -1, none, 0, 0⟩ rfl D hD (pS sl code) c0 c1 c2 hv 0 (by show 0 < 1; decide) rfl pc rfl hl2 s ib ic hi _ v (fun wr hw => ?_)
 have rs := stSet_any wr F tb (qS sl) (SF pc ws) X (h.below hw) (SF_ok pc ws hl) [] ⟨0, pc, 0, -1, none, 0, 0⟩ rfl ⟨by show (0 : Int) ≤ (pc : Int); omega, by show (pc : Int) ≤ 100000; omega⟩ 0 (by show 0 < 1; decide) rfl 0 rfl s (by show (s : Int) < (sl : Nat); omega) (by omega) (by show 0 + (2 + s) < ws.length; omega) v c0 c1 c2 (.pointer none) 16 s ib ic
 rw [Nat.zero_add] at rs
 exact rs
theorem giveOn15 {w : World} {F : Nat → Prop} {tb sl : Nat} {X : TB} {pc : Nat} {ws : List Int} (h : TaskAt w F tb (qS sl) (SF pc ws) X) (hpc : pc ≤ 1000) (D : Nat → Prop) (hD : ∀ k, D k → ¬ F k ∧ k < w.heap.size) (code : List Ins) (c0 c1 c2 : Value) (hv : PrgVal w D (pS sl code) c0 c1 c2) (ia ib ic : Int) (hi : (code ++ [(⟨27, 0, 0, 0⟩ : Ins)])[pc]? = some ⟨15, ia, ib, ic⟩) (v : Int) :
  Calls Tryz.prog 35 #[.agg #[c0, c1, c2], .pointer (some ⟨tb, 0, none⟩), .int .i64 v] w fun e w' => e = .returned (.bool true) ∧ TaskAt w' F tb (qS sl) (SF ((pc + 1 : Nat) : Int) ws) X ∧ Fr F w w' := by
 obtain ⟨hl2, hi⟩ := List.getElem?_eq_some_iff.1 hi
 exact give_15 w F tb (qS sl) (SF pc ws) X h (by show 1 ≤ 1000; decide) rfl (by show 1 ≤ 10000; decide) [] ⟨0, pc, 0, -1, none, 0, 0⟩ rfl D hD (pS sl code) c0 c1 c2 hv 0 (by show 0 < 1; decide) rfl pc rfl hl2 ia ib ic hi _ v (fun wr hw => on_any wr F tb (qS sl) (SF pc ws) X (h.below hw) (by show 1 ≤ 1000; decide) [] ⟨0, pc, 0, -1, none, 0, 0⟩ rfl ⟨by show (0 : Int) ≤ (pc : Int); omega, by show (pc : Int) ≤ 100000; omega⟩ c0 c1 c2 (.pointer none) 15 ia ib ic)
theorem giveOn17 {w : World} {F : Nat → Prop} {tb sl : Nat} {X : TB} {pc : Nat} {ws : List Int} (h : TaskAt w F tb (qS sl) (SF pc ws) X) (hpc : pc ≤ 1000) (D : Nat → Prop) (hD : ∀ k, D k → ¬ F k ∧ k < w.heap.size) (code : List Ins) (c0 c1 c2 : Value) (hv : PrgVal w D (pS sl code) c0 c1 c2) (ia ib ic : Int) (hi : (code ++ [(⟨27, 0, 0, 0⟩ : Ins)])[pc]? = some ⟨17, ia, ib, ic⟩) (v : Int) :
  Calls Tryz.prog 35 #[.agg #[c0, c1, c2], .pointer (some ⟨tb, 0, none⟩), .int .i64 v] w fun e w' => e = .returned (.bool true) ∧ TaskAt w' F tb (qS sl) (SF ((pc + 1 : Nat) : Int) ws) X ∧ Fr F w w' := by
 obtain ⟨hl2, hi⟩ := List.getElem?_eq_some_iff.1 hi
 exact give_17 w F tb (qS sl) (SF pc ws) X h (by show 1 ≤ 1000; decide) rfl (by show 1 ≤ 10000; decide) [] ⟨0, pc, 0, -1, none, 0, 0⟩ rfl D hD (pS sl code) c0 c1 c2 hv 0 (by show 0 < 1; decide) rfl pc rfl hl2 ia ib ic hi _ v (fun wr hw => on_any wr F tb (qS sl) (SF pc ws) X (h.below hw) (by show 1 ≤ 1000; decide) [] ⟨0, pc, 0, -1, none, 0, 0⟩ rfl ⟨by show (0 : Int) ≤ (pc : Int); omega, by show (pc : Int) ≤ 100000; omega⟩ c0 c1 c2 (.pointer none) 17 ia ib ic)
theorem giveNoS {w : World} {F : Nat → Prop} {tb sl : Nat} {X : TB} {pc : Nat} {ws : List Int} (h : TaskAt w F tb (qS sl) (SF pc ws) X) (D : Nat → Prop) (hD : ∀ k, D k → ¬ F k ∧ k < w.heap.size) (code : List Ins) (c0 c1 c2 : Value) (hv : PrgVal w D (pS sl code) c0 c1 c2) (hi : (code ++ [(⟨27, 0, 0, 0⟩ : Ins)])[pc]? = some ⟨27, 0, 0, 0⟩) (v : Int) :
  Calls Tryz.prog 35 #[.agg #[c0, c1, c2], .pointer (some ⟨tb, 0, none⟩), .int .i64 v] w fun e w' => e = .returned (.bool false) ∧ Below w.heap.size w w' := by
 obtain ⟨hl2, hi⟩ := List.getElem?_eq_some_iff.1 hi
 exact give_no27 w F tb (qS sl) (SF pc ws) X h (by show 1 ≤ 1000; decide) rfl (by show 1 ≤ 10000; decide) [] ⟨0, pc, 0, -1, none, 0, 0⟩ rfl D hD (pS sl code) c0 c1 c2 hv 0 (by show 0 < 1; decide) rfl pc rfl hl2 0 0 0 hi v
end Go.Proofs.YthkhgihjigmkoaaGreat.Tk
