import Derived.Test.YthkhgihjigmkoaaGreatRCc
import Derived.Test.YthkhgihjigmkoaaGreatRBr
import Derived.Test.YthkhgihjigmkoaaGreatRAa
import Derived.Test.YthkhgihjigmkoaaGreatRBz
import Derived.Test.YthkhgihjigmkoaaGreatRows
set_option linter.unusedVariables false
set_option linter.unusedSimpArgs false
namespace Go.Proofs.YthkhgihjigmkoaaGreat.Tk
open Go.ChangeShapes Go.WideShapes Go.ChangeAt Go.RowKit Go.Maps
theorem shB_w32 (b : Int) : shB (wrap32 b) = shB b := by unfold shB; rw [w32_w32]
theorem doV_w32 (op a b : Int) : doV op (wrap32 a) (wrap32 b) = doV op a b := by
 unfold doV
 rw [w32_add, w32_sub, w32_mul, w32_mul_l, w32_w32, w32_w32, shB_w32]
def sumW (x y v : Int) (d : Nat) : Nat → List Int
 | 0 => List.replicate 64 0
 | 1 => (List.replicate 64 0).set 2 x
 | 2 => ((List.replicate 64 0).set 2 x).set 3 y
 | 3 => (((List.replicate 64 0).set 2 x).set 3 y).set 4 77
 | _ => ((((List.replicate 64 0).set 2 x).set 3 y).set 4 77).set (2 + d) v
theorem sumW_len (x y v : Int) (d k : Nat) : (sumW x y v d k).length = 64 := by
 unfold sumW
 split <;> simp
theorem sumW_slot (x y v : Int) (d : Nat) (hd : d < 3) (j : Nat) (hj : j < 3) : ∃ u, (sumW x y v d 4)[2 + j]? = some u ∧ ([x, y, 77].set d v)[j]? = some u := by
 have hd2 : d = 0 ∨ d = 1 ∨ d = 2 := by omega
 have hj2 : j = 0 ∨ j = 1 ∨ j = 2 := by omega
 rcases hd2 with rfl | rfl | rfl <;> rcases hj2 with rfl | rfl | rfl <;> exact ⟨_, rfl, rfl⟩
theorem sumStep {w : World} {F : Nat → Prop} {tb : Nat} {X : TB} {x y op v : Int} {d : Nat} (hx : wrap32 x = x) (hy : wrap32 y = y) (ho : 3 ≤ op ∧ op ≤ 8) (hd : d < 3) (hv' : v = (doV op x y).1) (k : Nat) (hk : k < 4) (h : TaskAt w F tb (qS (3 : Nat)) (SF k (sumW x y v d k)) X) (D : Nat → Prop) (hD : ∀ k, D k → ¬ F k ∧ k < w.heap.size) (c0 c1 c2 : Value) (ma : Option Addr) (hv : PrgVal w D (pS (3 : Nat) (codeSum x y op d)) c0 c1 c2) :
  Calls Tryz.prog 30 #[.agg #[c0, c1, c2], .pointer ma, .pointer (some ⟨tb, 0, none⟩)] w (RunPost w F tb (qS (3 : Nat)) X (SF ((k + 1 : Nat) : Int) (sumW x y v d (k + 1))) (actV 0 0 0 0 0 false (.slice none 0 0))) := by
 have hk2 : k = 0 ∨ k = 1 ∨ k = 2 ∨ k = 3 := by omega
 rcases hk2 with rfl | rfl | rfl | rfl
 ·refine stepS h D hD (codeSum x y op d) c0 c1 c2 ma hv ⟨1, 0, x, 0⟩ rfl _ 0 0 0 0 0 false none 0 0 (fun wr hw => ?_)
  have := runSetS (h.below hw) (sumW_len _ _ _ _ _) (by omega) (by omega) 0 (by omega) c0 c1 c2 (.pointer ma) x 0
  rw [hx] at this
  exact this
 ·refine stepS h D hD (codeSum x y op d) c0 c1 c2 ma hv ⟨1, 1, y, 0⟩ rfl _ 0 0 0 0 0 false none 0 0 (fun wr hw => ?_)
  have := runSetS (h.below hw) (sumW_len _ _ _ _ _) (by omega) (by omega) 1 (by omega) c0 c1 c2 (.pointer ma) y 0
  rw [hy] at this
  exact this
 ·refine stepS h D hD (codeSum x y op d) c0 c1 c2 ma hv ⟨1, 2, 77, 0⟩ rfl _ 0 0 0 0 0 false none 0 0 (fun wr hw => ?_)
  have := runSetS (h.below hw) (sumW_len _ _ _ _ _) (by omega) (by omega) 2 (by omega) c0 c1 c2 (.pointer ma) 77 0
  rw [show wrap32 77 = 77 from by decide +kernel] at this
  exact this
 ·refine stepS h D hD (codeSum x y op d) c0 c1 c2 ma hv ⟨op, d, 0, 1⟩ rfl _ 0 0 0 0 0 false none 0 0 (fun wr hw => ?_)
  have := runDoS (h.below hw) (sumW_len _ _ _ _ _) (by omega) (by omega) op ho d 0 1 hd (by omega) (by omega) x y rfl rfl c0 c1 c2 (.pointer ma)
  rw [← hv'] at this
  exact this
end Go.Proofs.YthkhgihjigmkoaaGreat.Tk
namespace Go.Proofs.YthkhgihjigmkoaaGreat.mutatorSums
open Go.ChangeShapes Go.WideShapes Go.ChangeAt Go.RowKit Go.Maps Tk
set_option maxRecDepth 100000 in
set_option maxHeartbeats 6400000 in
theorem walk (w : World) (op : Int) (w0 : (Lit.int .i64 op).wf = true) (a : Int) (w1 : (Lit.int .i64 a).wf = true) (b : Int) (w2 : (Lit.int .i64 b).wf = true) (ti : Int) (w3 : (Lit.int .i64 ti).wf = true) :
  Calls Tryz.prog 4 #[.int .i64 op, .int .i64 a, .int .i64 b, .int .i64 ti] w fun e w' => e = .returned (.bool true) ∧ Below w.heap.size w w' := by
 have al := alive23
 clear w0 w1 w2 w3
 by_cases hout : op < 3 ∨ 8 < op
 case pos =>
  have AL := Lib.hid al; clear al
  by_cases c3 : op < 3
  ·skip
   go_enter Tryz.func4, Tryz.ntmps4
   go_wp2_with fail
   refine (AL.out _).mono ?_
   rintro e w1 ⟨rfl, hb⟩
   have HB := Lib.hid hb
   clear hb
   go_wp2_with fail
   go_ret
   exact ⟨rfl, HB.out⟩
  by_cases c4 : 8 < op
  ·skip
   go_enter Tryz.func4, Tryz.ntmps4
   go_wp2_with fail
   refine (AL.out _).mono ?_
   rintro e w1 ⟨rfl, hb⟩
   have HB := Lib.hid hb
   clear hb
   go_wp2_with fail
   go_ret
   exact ⟨rfl, HB.out⟩
  exact absurd hout (by omega)
 have c3 : ¬ op < 3 := by omega
 have c4 : ¬ 8 < op := by omega
 clear hout
 obtain ⟨d, hd3, hdm⟩ := slot_three ti
 obtain ⟨x, hx⟩ : ∃ x, x = wrap32 a := ⟨_, rfl⟩
 obtain ⟨y, hy⟩ : ∃ y, y = wrap32 b := ⟨_, rfl⟩
 have hx32 : wrap32 x = x := by rw [hx, w32_w32]
 have hy32 : wrap32 y = y := by rw [hy, w32_w32]
 have hxB : i64B x := by have := w32_bd a; unfold i64B; omega
 have hyB : i64B y := by have := w32_bd b; unfold i64B; omega
 obtain ⟨v, hv⟩ : ∃ v, v = (doV op x y).1 := ⟨_, rfl⟩
 have ra := fun w => rof_any a w
 have rb := fun w => rof_any b w
 have rd := fun w => rdo_any op a b w
 rw [← hx] at ra
 rw [← hy] at rb
 have hdo : (doV op a b).1 = v := by rw [hv, hx, hy, doV_w32]
 rw [hdo] at rd
 generalize (doV op a b).2 = vb at rd
 have hsB : PrgB (pS (3 : Nat) (codeSum x y op d)) ∧ PrgR (pS (3 : Nat) (codeSum x y op d)) := sum_B x y op d hxB hyB (by omega) (by omega)
 have hst' : TabOk (pS (3 : Nat) (codeSum x y op d)) tSum ∧ (progS (pS (3 : Nat) (codeSum x y op d))).1 = 0 := sum_tab x y op d (by omega) (by omega)
 have hst := fun wr F tb X (k : Nat) (hk : k < 4) (h : TaskAt wr F tb (qS (3 : Nat)) (SF k (sumW x y v d k)) X) D hD c0 c1 c2 ma hg => sumStep hx32 hy32 ⟨by omega, by omega⟩ hd3 hv k hk h D hD c0 c1 c2 ma hg
 have hsl := sumW_slot x y v d hd3
 have hln := sumW_len x y v d
 clear hx hy hx32 hy32 hxB hyB hv hdo
 have RA := Lib.hid ra; clear ra
 have RB := Lib.hid rb; clear rb
 have AL := Lib.hid al; clear al
 have RD := Lib.hid rd; clear rd
 have HSB := Lib.hid hsB; clear hsB
 have HST' := Lib.hid hst'; clear hst'
 have HST := Lib.hid hst; clear hst
 have HSL := Lib.hid hsl; clear hsl
 have HLN := Lib.hid hln; clear hln
 go_enter Tryz.func4, Tryz.ntmps4
 go_wp2_with fail
 refine (AL.out _).mono ?_
 rintro e w1 ⟨rfl, hb1⟩
 have HB1 := Lib.hid hb1
 clear hb1
 go_wp2_with fail
 refine (RA.out _).mono ?_
 rintro e w2 ⟨rfl, rfl⟩
 go_wp2_with fail
 refine (RB.out _).mono ?_
 rintro e w2 ⟨rfl, rfl⟩
 have hcd := CellsAt.new w1 #[.int .i64 1, .int .i64 0, .int .i64 x, .int .i64 0, .int .i64 1, .int .i64 1, .int .i64 y, .int .i64 0, .int .i64 1, .int .i64 2, .int .i64 77, .int .i64 0, .int .i64 op, .int .i64 d, .int .i64 0, .int .i64 1] 59 (0, 0)
 have hb2 := HB1.out.alloc HB1.out.size (.cells #[.int .i64 1, .int .i64 0, .int .i64 x, .int .i64 0, .int .i64 1, .int .i64 1, .int .i64 y, .int .i64 0, .int .i64 1, .int .i64 2, .int .i64 77, .int .i64 0, .int .i64 op, .int .i64 d, .int .i64 0, .int .i64 1] 59)
 have sg := single_any _ 3 (codeSum x y op d) w1.heap.size 0 4 hcd (by show 4 ≤ 1000; decide)
 clear hcd
 have SG := Lib.hid sg; clear sg
 have HB2 := Lib.hid hb2; clear hb2
 go_wp2_with fail
 refine SG.out.mono ?_
 rintro e w4 ⟨c0, c1, c2, rfl, hpv, hpg, hb4⟩
 obtain ⟨a0, n0, m0, a1, m1, a2, m2, rfl, rfl, rfl⟩ := hpv.three
 have hb4 := HB2.out.trans (hb4.mono HB2.out.size)
 have hba := (Below.refl w4.heap.size w4).alloc (Nat.le_refl _) (.cells #[.slice a0 n0 m0, .slice a1 1 m1, .slice a2 1 m2] 27)
 have hra := heap_new w4 (.cells #[.slice a0 n0 m0, .slice a1 1 m1, .slice a2 1 m2] 27)
 obtain ⟨W, hW⟩ : ∃ W, W = w4.alloc (.cells #[.slice a0 n0 m0, .slice a1 1 m1, .slice a2 1 m2] 27) := ⟨_, rfl⟩
 rw [← hW] at hba hra
 obtain ⟨pb, hpb⟩ : ∃ pb, pb = w4.heap.size := ⟨_, rfl⟩
 rw [← hpb] at hra
 have hW0 := hb4.trans (hba.mono hb4.size)
 obtain ⟨D, hDd⟩ : ∃ D : Nat → Prop, D = fun k => (w1.alloc (.cells #[.int .i64 1, .int .i64 0, .int .i64 x, .int .i64 0, .int .i64 1, .int .i64 1, .int .i64 y, .int .i64 0, .int .i64 1, .int .i64 2, .int .i64 77, .int .i64 0, .int .i64 op, .int .i64 d, .int .i64 0, .int .i64 1] 59)).heap.size ≤ k ∧ k < w4.heap.size := ⟨_, rfl⟩
 rw [← hDd] at hpv hpg
 have hD : ∀ k, D k → k < W.heap.size := fun k hk => by rw [hDd] at hk; exact Nat.lt_of_lt_of_le hk.2 hba.size
 have hpv := hpv.below hba
 have hpg := hpg.fr (Fr.of_below hba (fun _ => False)) (fun _ _ h => h)
 have bg := beginS W D hD 3 (by omega) (codeSum x y op d) _ _ _ hpv hpg HSB.out HST'.out.2 tSum HST'.out.1
 have hC : ∀ wx, Below W.heap.size W wx → wx.cell? ⟨pb, 0, none⟩ = some (.slice a0 n0 m0) ∧ wx.cell? ⟨pb, 1, none⟩ = some (.slice a1 1 m1) ∧ wx.cell? ⟨pb, 2, none⟩ = some (.slice a2 1 m2) ∧ PrgVal wx D (pS (3 : Nat) (codeSum x y op d)) (.slice a0 n0 m0) (.slice a1 1 m1) (.slice a2 1 m2) := fun wx hw => by
  have g1 := (Fr.of_below hw (fun _ => False)).heap hra (fun h => h)
  exact ⟨(row_cell g1 0).1, (row_cell g1 1).1, (row_cell g1 2).1, hpg.fr (Fr.of_below hw (fun _ => False)) (fun _ _ h => h)⟩
 obtain ⟨k0, k1, k2, _⟩ := hC W (Below.refl _ _)
 have HW := Lib.hid hW
 have HPB := Lib.hid hpb
 clear hW hpb hra hba hb4 hpv hpg hDd HSB HST' SG
 have BG := Lib.hid bg; clear bg
 have HC := Lib.hid hC; clear hC
 have HD := Lib.hid hD; clear hD
 have HW0 := Lib.hid hW0; clear hW0
 go_upto_region 5 with fail
 rw [← HW.out, ← HPB.out]
 go_wp2_with fail
 refine BG.out.mono ?_
 rintro e w6 ⟨mb, tb, F, X, rfl, hT, hF, _, hb6⟩
 have hT : TaskAt w6 F tb (qS (3 : Nat)) (SF ((0 : Nat) : Int) (sumW x y v d 0)) X := hT
 clear k0 k1 k2
 have HT := Lib.hid hT; clear hT
 have HF := Lib.hid hF; clear hF
 have HB6 := Lib.hid hb6; clear hb6
 go_upto_region 8 with fail
 go_wp2_with fail
 go_loopw [12] (fun i wr => ∃ k : Nat, k ≤ 4 ∧ i = .int .i64 k ∧ ∃ F X, TaskAt wr F tb (qS (3 : Nat)) (SF k (sumW x y v d k)) X ∧ (∀ q, F q → W.heap.size ≤ q) ∧ Below W.heap.size W wr) (fun i _ => 4 - (intOf i).toNat)
 case atStart => exact ⟨0, by omega, rfl, F, X, HT.out, HF.out, HB6.out⟩
 case round =>
  clear HT HF HB6
  obtain ⟨k, hk, rfl, F1, X1, hT1, hF1, hB1⟩ := hrel
  by_cases hlt : k < 4
  ·obtain ⟨k1, hk1⟩ : ∃ k1, k1 = k + 1 := ⟨_, rfl⟩
   have i1 : IntKind.i64.wrap ((k : Int) + 1) = (k1 : Int) := by rw [show ((k : Int) + 1) = (k1 : Int) from by omega]; exact IntWalk.i64_in _ (by omega)
   obtain ⟨q0, q1, q2, hg⟩ := HC.out wr hB1
   have st := HST.out wr F1 tb X1 k hlt hT1 D (fun k hk => ⟨fun h => by have := HD.out k hk; have := hF1 k h; omega, by have := HD.out k hk; have := hB1.size; omega⟩) _ _ _ (some ⟨mb, 0, none⟩) hg
   rw [← hk1] at st
   clear hT1 hg
   have ST := Lib.hid st; clear st
   have HF1 := Lib.hid hF1; clear hF1
   have HB1 := Lib.hid hB1; clear hB1
   have HK1 := Lib.hid hk1; clear hk1
   go_wp2_with fail
   refine ST.out.mono ?_
   rintro e w7 ⟨rfl, F2, X2, hT2, _, hF2, hf2⟩
   unfold actV
   have pc := pcS hT2
   have fe := act_kind w7 0 0 0 0 0 false (.slice none 0 0)
   have hb7 := HB1.out.trans (hf2.below HB1.out.size (fun q hq => HF1.out q hq))
   have hF3 : ∀ q, F2 q → W.heap.size ≤ q := fun q hq => (hF2 q hq).elim (HF1.out q) (fun h => by have := HB1.out.size; omega)
   clear q0 q1 q2 hF2 hf2 ST HF1 HB1
   have PC := Lib.hid pc; clear pc
   have HT2 := Lib.hid hT2; clear hT2
   have HB7 := Lib.hid hb7; clear hb7
   have HF3 := Lib.hid hF3; clear hF3
   go_wp2_with fail
   refine PC.out.mono ?_
   rintro e w8 ⟨rfl, m, rfl⟩
   have hT8 := HT2.out.below (below_drewN (Below.refl _ _) m)
   have hb8 := below_drewN HB7.out m
   have hle : k1 ≤ 4 := by have := HK1.out; omega
   have HT8 := Lib.hid hT8; clear hT8
   have HB8 := Lib.hid hb8; clear hb8
   go_wp2_with fail
   go_roundw
   case rel => exact ⟨k1, hle, by go_num, F2, X2, HT8.out, HF3.out, HB8.out⟩
   case measure => have := HK1.out; simp [intOf]; omega
  ·have hk' : k = 4 := by omega
   subst hk'
   have HT1 := Lib.hid hT1; clear hT1
   have HF1 := Lib.hid hF1; clear hF1
   have HB1 := Lib.hid hB1; clear hB1
   go_wp2_with fail
   refine (RA.out _).mono ?_
   rintro e w2 ⟨rfl, rfl⟩
   go_wp2_with fail
   refine (RB.out _).mono ?_
   rintro e w2 ⟨rfl, rfl⟩
   have hba := (Below.refl wr.heap.size wr).alloc (Nat.le_refl _) (.cells #[.int .i64 x, .int .i64 y, .int .i64 77] 3)
   have hra : (wr.alloc (.cells #[.int .i64 x, .int .i64 y, .int .i64 77] 3)).heap[wr.heap.size]? = some (intRow [x, y, 77] 3) := heap_new wr _
   obtain ⟨V, hV⟩ : ∃ V, V = wr.alloc (.cells #[.int .i64 x, .int .i64 y, .int .i64 77] 3) := ⟨_, rfl⟩
   rw [← hV] at hba hra
   obtain ⟨z, hz⟩ : ∃ z, z = wr.heap.size := ⟨_, rfl⟩
   rw [← hz] at hra
   obtain ⟨uD, huD⟩ : ∃ uD, ([x, y, 77] : List Int)[d]? = some uD := by
    have hd2 : d = 0 ∨ d = 1 ∨ d = 2 := by omega
    rcases hd2 with h | h | h <;> rw [h] <;> exact ⟨_, rfl⟩
   have cD : V.cell? ⟨z, d, none⟩ = some (.int .i64 uD) := by
    rw [(row_cell hra d).1]
    show ((([x, y, 77] : List Int).map (Value.int .i64)).toArray)[d]? = _
    rw [List.getElem?_toArray, List.getElem?_map, huD]
    rfl
   clear huD
   have fD : V.frozen? ⟨z, d, none⟩ = false := (row_cell hra d).2
   have hd0 : (0 : Int) ≤ (d : Int) := by omega
   have hdl : (d : Int) < 3 := by omega
   have HV := Lib.hid hV
   have HZ := Lib.hid hz
   clear hV hz
   have HBA := Lib.hid hba; clear hba
   have HRA := Lib.hid hra; clear hra
   go_upto_region 14 with fail
   rw [← HV.out, ← HZ.out]
   go_wp2_with fail
   refine (RD.out _).mono ?_
   rintro e w2 ⟨rfl, rfl⟩
   go_upto_region 16 with fail
   obtain ⟨U, hU⟩ : ∃ U, U = V.setCell ⟨z, d, none⟩ (.int .i64 v) := ⟨_, rfl⟩
   have hfU : Fr (fun k => k = z) V U := by rw [hU]; exact (Fr.refl (fun k => k = z) V).setCell (p := ⟨z, d, none⟩) (fun _ => rfl) _
   have hrU : U.heap[z]? = some (intRow (([x, y, 77] : List Int).set d v) 3) := by rw [hU]; exact intRow_set HRA.out d v
   have hzs := HZ.out
   have hT5 := (HT1.out.below HBA.out).fr hfU (fun k hk e => by have := HT1.out.flt k hk; have e : k = z := e; omega) (fun k hk e => by have := (HT1.out.out k hk).2; have e : k = z := e; omega)
   have hbU := (HB1.out.trans (HBA.out.mono HB1.out.size)).trans (hfU.below (Nat.le_trans HB1.out.size HBA.out.size) (fun k e => by have e : k = z := e; have := HB1.out.size; omega))
   have HU := Lib.hid hU
   have hS : ∀ wx, Below U.heap.size U wx → ∀ j, j < 3 → ∃ u, wx.cell? ⟨z, j, none⟩ = some (.int .i64 u) ∧ ∀ wy, Below U.heap.size U wy → Calls Tryz.prog 33 #[.pointer (some ⟨tb, 0, none⟩), .int .i64 j] wy fun e w' => e = .returned (.int .i64 u) ∧ Below wy.heap.size wy w' := fun wx hw j hj => by
    obtain ⟨u, h1, h2⟩ := HSL.out j hj
    refine ⟨u, ?_, fun wy hy => slotS (hT5.below hy) (HLN.out 4) (by omega) j hj u h1⟩
    rw [(row_cell ((Fr.of_below hw (fun _ => False)).heap hrU (fun h => h)) j).1]
    show (((([x, y, 77] : List Int).set d v).map (Value.int .i64)).toArray)[j]? = _
    rw [List.getElem?_toArray, List.getElem?_map, h2]
    rfl
   have hUU := Below.refl U.heap.size U
   clear hU hfU hrU hzs hT5 cD fD
   have HS := Lib.hid hS; clear hS
   have HBU := Lib.hid hbU; clear hbU
   have HUU := Lib.hid hUU; clear hUU
   rw [← HU.out]
   go_wp2_with fail
   go_loopw [16] (fun i wr => ∃ j : Nat, j ≤ 3 ∧ i = .int .i64 j ∧ Below U.heap.size U wr) (fun i _ => 3 - (intOf i).toNat)
   case atStart => exact ⟨0, by omega, rfl, HUU.out⟩
   case round =>
    obtain ⟨j, hj, rfl, hB3⟩ := hrel
    by_cases hj3 : j < 3
    ·obtain ⟨j1, hj1⟩ : ∃ j1, j1 = j + 1 := ⟨_, rfl⟩
     have i1 : IntKind.i64.wrap ((j : Int) + 1) = (j1 : Int) := by rw [show ((j : Int) + 1) = (j1 : Int) from by omega]; exact IntWalk.i64_in _ (by omega)
     obtain ⟨u, hc, sl⟩ := HS.out wr hB3 j hj3
     have HBD := Lib.hid (fun k => below_drewN hB3 k)
     have HSG := Lib.hid (fun k => below_cell (below_drewN (Below.refl wr.heap.size wr) k) hc)
     have hSd : wr.drew.cell? ⟨z, j, none⟩ = some (.int .i64 u) := hc
     have hle : j1 ≤ 3 := by omega
     clear hB3 hc
     have SL := Lib.hid sl; clear sl
     have HJ1 := Lib.hid hj1; clear hj1
     go_upto_region 19 with fail
     go_region_held3 (fun w' => w'.cell? ⟨z, j, none⟩ = some (.int .i64 u)) (first | with_reducible exact HSG.out _ | with_reducible exact hSd | with_reducible exact hS4 | go_keep) (
      (go_at_call 33
       refine (SL.out _ (HBD.out 1)).mono ?_
       rintro e w4 ⟨rfl, hb4⟩
       have hS4 := below_cell hb4 (HSG.out 1)
       have HB4 := Lib.hid ((HBD.out 1).trans (hb4.mono (HBD.out 1).size))
       clear hb4))
     all_goals
      go_wp2_with fail
      go_roundw
      case rel => exact ⟨j1, hle, by go_num, HB4.out⟩
      case measure => have := HJ1.out; simp [intOf]; omega
    ·have hj3' : j = 3 := by omega
     subst hj3'
     have hb7 := HBU.out.trans (hB3.mono HBU.out.size)
     clear hB3
     have HB7 := Lib.hid hb7; clear hb7
     go_wp2_with fail
     go_ret
     exact ⟨rfl, HW0.out.trans (HB7.out.mono HW0.out.size)⟩
theorem own : ownKnob Tryz.prog.godebug = none := by kernel_rfl
theorem laidOut : laidOutB Tryz.prog = true := by kernel_rfl
set_option maxRecDepth 100000 in
theorem lifted (os : Os) (started : os.Started) (H : Type) (enc : TypeId × Value → H) :
  ReturnsInHanded {} Tryz.checked os 4 .any (Rows.mutatorSumsSpec.pre6 enc Tryz.prog Tryz.f4 Rows.mutatorSumsRow.domain false) (Rows.mutatorSumsSpec.post enc Tryz.prog Tryz.f4 false true false false) := by
 refine returnsInHanded_of_change (C := Tryz.checked) own started (by kernel_rfl) Tryz.func4
  (ChangeSpec.witness6 (enc := enc) (C := Tryz.checked) false ⟨#[], #[.int .i64 0, .int .i64 0, .int .i64 0, .int .i64 0], []⟩ 8 (by kernel_rfl) (by kernel_rfl) (by kernel_rfl) (by kernel_rfl)) ?_
 intro W base args ds gs before hval0 hW hcnd _
 have hval : ∀ (j : Nat) t v, Tryz.f4.params[j]? = some t → args[j]? = some v → Value.okWide Tryz.prog W .any base t v := hval0
 have hW' := hW
 obtain ⟨p, q, hA0, hV, rfl, hfz, hnd⟩ := hW
 have hA : DataW.TrodAll enc Tryz.prog W 0 (fun _ => true) true Tryz.f4.params.toList args.toList ds p := hA0
 rw [Tryz.params4] at hA hval
 obtain ⟨v0, vs0, d0, ds0, p0, q0, hargs, rfl, rfl, h0, r0⟩ := trodAll_cons hA
 obtain ⟨v1, vs1, d1, ds1, p1, q1, rfl, rfl, rfl, h1, r1⟩ := trodAll_cons r0
 obtain ⟨v2, vs2, d2, ds2, p2, q2, rfl, rfl, rfl, h2, r2⟩ := trodAll_cons r1
 obtain ⟨v3, vs3, d3, ds3, p3, q3, rfl, rfl, rfl, h3, r3⟩ := trodAll_cons r2
 obtain ⟨rfl, rfl, rfl⟩ := trodAll_nil r3
 obtain rfl : args = #[v0, v1, v2, v3] := by cases args; simp_all
 obtain ⟨a0, rfl, rfl, rfl, w0⟩ := open_int Tryz.underlying3 (hval 0 3 v0 rfl rfl) h0
 obtain ⟨a1, rfl, rfl, rfl, w1⟩ := open_int Tryz.underlying3 (hval 1 3 v1 rfl rfl) h1
 obtain ⟨a2, rfl, rfl, rfl, w2⟩ := open_int Tryz.underlying3 (hval 2 3 v2 rfl rfl) h2
 obtain ⟨a3, rfl, rfl, rfl, w3⟩ := open_int Tryz.underlying3 (hval 3 3 v3 rfl rfl) h3
 clear hA0 hval0
 simp only [List.append_nil] at hW'
 refine (walk W a0 w0 a1 w1 a2 w2 a3 w3).mono fun e W' ⟨he, hb⟩ => ?_
 subst he
 exact ⟨_, rfl, law_post laidOut (by kernel_rfl) rfl Tryz.underlying4 hW' rfl (fun ds h => by match ds, h with | [_, _, _, _], _ => rfl) hb⟩
theorem over : Rows.mutatorSumsRow.holds Tryz.pinned (OpenSpec.ofChange Rows.mutatorSumsSpec) :=
 OpenClaim.holds_of_wide 4 Tryz.f4 rfl rfl rfl rfl rfl rfl rfl ⟨rfl, rfl, rfl, rfl, rfl⟩ rfl rfl rfl rfl rfl (by kernel_rfl) Tryz.func4 (by kernel_rfl)
  (of_decide_eq_true (by kernel_rfl)) (by unfold Func.isWrapper; first | (rw [if_pos (by decide +kernel)]; kernel_rfl) | (rw [if_neg (by decide +kernel)]; exact ⟨rfl, rfl⟩))
  (fun os started H enc _ => lifted os started H enc)
theorem proved : Rows.MutatorSumsSaid := over
#print axioms proved
end Go.Proofs.YthkhgihjigmkoaaGreat.mutatorSums
