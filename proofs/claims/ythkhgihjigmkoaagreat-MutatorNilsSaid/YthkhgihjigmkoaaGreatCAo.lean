import Derived.Test.YthkhgihjigmkoaaGreatCAj
import Derived.StillTailTactics
import Derived.Test.YthkhgihjigmkoaaGreatCAm
import Derived.WalkSmall
set_option linter.unusedVariables false
set_option linter.unusedSimpArgs false
namespace Go.Proofs.YthkhgihjigmkoaaGreat.Tk
open Go.ChangeShapes Go.WideShapes Go.ChangeAt Go.RowKit Go.Maps
def atN (p : TPrg) (f : TFun) (k : Nat) : Nat := 2 + f.slots.toNat + objsN p (f.objects.take k)
def spanK (p : TPrg) (f : TFun) (j k : Nat) : { x : Int × Int // i64B x.1 ∧ i64B x.2 } → Option (Int × Int) := fun q =>
 if q.1.1 = j ∧ 0 ≤ q.1.2 ∧ q.1.2 < k then some ((atN p f q.1.2.toNat : Int), (fieldsN p (f.objects.getD q.1.2.toNat 0) : Int)) else none
def spanF (p : TPrg) (f : TFun) (j : Nat) : { x : Int × Int // i64B x.1 ∧ i64B x.2 } → Option (Int × Int) := spanK p f j f.objects.length
theorem spanK_zero (p : TPrg) (f : TFun) (j : Nat) (a) : spanK p f j 0 a = none := by
 unfold spanK
 rw [if_neg (by omega)]
theorem spanK_next (p : TPrg) (f : TFun) (j k : Nat) (h : i64B (j : Int)) (hk : i64B (k : Int)) : (spanK p f j k ⟨((j : Int), (k : Int)), h, hk⟩) = none := by
 unfold spanK
 rw [if_neg (by simp)]
theorem spanK_step (p : TPrg) (f : TFun) (j k : Nat) (hlt : k < f.objects.length) (h : i64B (j : Int)) (hk : i64B (k : Int)) (a) : upd (spanK p f j k) ⟨((j : Int), (k : Int)), h, hk⟩ (some ((atN p f k : Int), (fieldsN p f.objects[k] : Int))) a = spanK p f j (k + 1) a := by
 obtain ⟨⟨x, y⟩, hx, hy⟩ := a
 unfold upd spanK
 by_cases e : x = j ∧ y = k
 ·obtain ⟨rfl, rfl⟩ := e
  rw [if_pos rfl, if_pos ⟨rfl, by simp; omega⟩]
  simp [hlt]
 ·rw [if_neg (fun he => e (by injection he with he; injection he with h1 h2; exact ⟨h1, h2⟩))]
  by_cases h1 : x = j ∧ 0 ≤ y ∧ y < k
  ·rw [if_pos h1, if_pos ⟨h1.1, h1.2.1, by have := h1.2.2; simp; omega⟩]
  ·rw [if_neg h1, if_neg (fun h2 => h1 ⟨h2.1, h2.2.1, by have h3 := h2.2.2; have h4 : ¬ y = k := fun h4 => e ⟨h2.1, h4⟩; simp at h3; simp; omega⟩)]
set_option maxRecDepth 100000 in
set_option maxHeartbeats 3200000 in
theorem spansM_any (w : World) (D : Nat → Prop) (hD : ∀ k, D k → k < w.heap.size) (p : TPrg) (c0 c1 c2 : Value) (j : Nat) (hj : j < p.funcs.length) (hv : PV w D p c0 c1 c2) (hp : PSmall p) :
  Calls Tryz.prog 79 #[.agg #[c0, c1, c2], .int .i64 j] w fun e w' => ∃ b, e = .returned (.tuple #[.map (some b), .int .i64 (wordsN p j)]) ∧ MapIs obK spanVal w' b p.funcs[j].objects.length (spanF p p.funcs[j] j) ∧ Below w.heap.size w w' := by
 obtain ⟨⟨a0, n0, m0, rfl⟩, ⟨a1, m1, rfl, hsh⟩, a2, m2, rfl, hfn⟩ := hv
 have hb0 := ((Below.refl w.heap.size w).alloc (Nat.le_refl _) (.cells #[.slice a0 n0 m0, .slice a1 p.shapes.length m1, .slice a2 p.funcs.length m2] 27))
 have hmk : MapIs obK spanVal ((w.alloc (.cells #[.slice a0 n0 m0, .slice a1 p.shapes.length m1, .slice a2 p.funcs.length m2] 27)).alloc (.map #[] 0)) (w.alloc (.cells #[.slice a0 n0 m0, .slice a1 p.shapes.length m1, .slice a2 p.funcs.length m2] 27)).heap.size 0 (fun _ => none) := MapIs.made obK _ _
 have hz1 : (w.alloc (.cells #[.slice a0 n0 m0, .slice a1 p.shapes.length m1, .slice a2 p.funcs.length m2] 27)).heap.size = w.heap.size + 1 := by simp
 rw [hz1] at hmk
 have hb1 := hb0.alloc (by simp) (.map #[] 0)
 have hmake : ∀ w, (Instr.makeMap 138 none).run Tryz.prog w = .ok (.map (some w.heap.size)) (w.alloc (.map #[] 0)) := fun w => run_makeMap _ w
 have ht : Tryz.prog.underlying 138 = some (.map obK.k 145) := Tryz.underlying138
 have hq : ∀ j u, #[Value.slice a0 n0 m0, .slice a1 p.shapes.length m1, .slice a2 p.funcs.length m2][j]? = some u → ((w.alloc (.cells #[.slice a0 n0 m0, .slice a1 p.shapes.length m1, .slice a2 p.funcs.length m2] 27)).alloc (.map #[] 0)).cell? ⟨w.heap.size, j, none⟩ = some u := fun j u h => by
  rw [cell_under _ _ (by simp), cell_new]; exact h
 have hsz : ((w.alloc (.cells #[.slice a0 n0 m0, .slice a1 p.shapes.length m1, .slice a2 p.funcs.length m2] 27)).alloc (.map #[] 0)).heap.size = w.heap.size + 2 := by simp
 obtain ⟨W, hW⟩ : ∃ W, W = (w.alloc (.cells #[.slice a0 n0 m0, .slice a1 p.shapes.length m1, .slice a2 p.funcs.length m2] 27)).alloc (.map #[] 0) := ⟨_, rfl⟩
 rw [← hW] at hmk hb1 hq hsz
 have k0 := hq 0 _ rfl
 have k1 := hq 1 _ rfl
 have k2 := hq 2 _ rfl
 have hfn := hfn.fr (Fr.of_below hb1 (fun _ => False)) (fun _ _ h => h)
 have hsh := hsh.fr (Fr.of_below hb1 (fun _ => False)) (fun _ _ h => h)
 have HW := Lib.hid hW
 clear hW hb0 hz1 hq
 rw [wordsN_at j hj]
 obtain ⟨bb, o, rfl, _, y0, y1, y2, y3, y4, g0, g1, g2, g3, g4, hfv⟩ := hfn j hj
 have hfp := hp.2.2.2 p.funcs[j] (List.getElem_mem hj)
 generalize p.funcs[j] = f at *
 obtain ⟨G, hG⟩ : ∃ G, G = spanK p f j := ⟨_, rfl⟩
 have hg0 := spanK_zero p f j
 have hgn := spanK_next p f j
 have hgs := spanK_step p f j
 have hgl : G f.objects.length = spanF p f j := by rw [hG]; rfl
 rw [← hG] at hg0 hgn hgs
 rw [← hgl]
 clear hG hgl
 obtain ⟨⟨e0, e1, rfl⟩, ⟨e2, rfl⟩, rfl, ⟨e3, e4, rfl, hobj⟩, e5, e6, e7, rfl⟩ := hfv
 have hj0 : ¬ (j : Int) < 0 := by omega
 have hj1 : ¬ (p.funcs.length : Int) ≤ (j : Int) := by omega
 have hj2 : (j : Int) < p.funcs.length := by omega
 have hjb : i64B (j : Int) := by unfold i64B; have := hp.2.1; omega
 obtain ⟨f0, f1, f2⟩ := hfp
 obtain ⟨A0, hA0⟩ : ∃ A0 : Nat, A0 = f.slots.toNat := ⟨_, rfl⟩
 obtain ⟨acc, hacc⟩ : ∃ acc : Nat → Nat, acc = fun k => 2 + A0 + objsN p (f.objects.take k) := ⟨_, rfl⟩
 have hat : atN p f = acc := by rw [hacc, hA0]; rfl
 rw [hat] at hgs
 clear hat
 have hfull : frameN p f = acc f.objects.length := by rw [hacc, hA0]; simp [frameN]
 have hac0 : acc 0 = 2 + A0 := by rw [hacc]; simp [objsN]
 have hacs : ∀ k (hk : k < f.objects.length), acc (k + 1) = acc k + fieldsN p f.objects[k] := fun k hk => by
  rw [hacc]
  simp only
  rw [objsN_snoc p _ k hk]
  omega
 have hacl : ∀ k, k ≤ f.objects.length → acc k ≤ 9100000 := fun k hk => by
  rw [hacc]
  simp only
  have h1 := objsN_le hp (f.objects.take k)
  have h2 : (f.objects.take k).length ≤ 3000 := by rw [List.length_take]; omega
  omega
 rw [hfull]
 have hfl := fun s => fieldsN_le hp s
 have hx1 := fun wr h => box1 W #[.slice e0 f.nargs e1, .int .i64 e2, .int .i64 f.slots, .slice e3 f.objects.length e4, .slice e5 e6 e7] 74 wr h
 have hx2 : (W.alloc (.cells #[.slice e0 f.nargs e1, .int .i64 e2, .int .i64 f.slots, .slice e3 f.objects.length e4, .slice e5 e6 e7] 74)).heap.size = W.heap.size + 1 := by simp
 have hmk := hmk.congr (g := G 0) (fun a _ => (hg0 a).symm)
 have hm0 := hmk.fr ((Fr.refl (fun _ => False) W).alloc (.cells #[.slice e0 f.nargs e1, .int .i64 e2, .int .i64 f.slots, .slice e3 f.objects.length e4, .slice e5 e6 e7] 74)) (fun h => h)
 have hbX := hb1.alloc hb1.size (.cells #[.slice e0 f.nargs e1, .int .i64 e2, .int .i64 f.slots, .slice e3 f.objects.length e4, .slice e5 e6 e7] 74)
 have hfX := (Fr.refl (fun _ => False) W).alloc (.cells #[.slice e0 f.nargs e1, .int .i64 e2, .int .i64 f.slots, .slice e3 f.objects.length e4, .slice e5 e6 e7] 74)
 obtain ⟨X, hX⟩ : ∃ X, X = W.alloc (.cells #[.slice e0 f.nargs e1, .int .i64 e2, .int .i64 f.slots, .slice e3 f.objects.length e4, .slice e5 e6 e7] 74) := ⟨_, rfl⟩
 rw [← hX] at hx1 hx2 hm0 hbX hfX
 have hxb := hx1 X (by rw [← hx2]; exact Below.refl _ _)
 have t2 := hxb.1 2 _ rfl
 have t3 := hxb.1 3 _ rfl
 have kk1 := hfX.cell k1 (fun h => h)
 have hobj := hobj.fr hfX (fun _ _ h => h)
 have hsh := hsh.fr hfX (fun _ _ h => h)
 have bg := World.block_lt g0
 dsimp only at bg
 have HX := Lib.hid hX
 have hlj : (p.shapes.length : Int) ≤ 3000 := by have := hp.1; omega
 have hzX : w.heap.size + 1 < X.heap.size := by omega
 clear hX hx1 hxb hfX hmk hb1 hacc hfull hp hj hg0
 generalize f.slots = sl at *
 have hac1 := hacl 0 (Nat.zero_le _)
 clear hsz hx2
 have HGN := Lib.hid hgn; clear hgn
 have HGS := Lib.hid hgs; clear hgs
 have HACS := Lib.hid hacs; clear hacs
 have HACL := Lib.hid hacl; clear hacl
 have HFL := Lib.hid hfl; clear hfl
 have HM0 := Lib.hid hm0; clear hm0
 have HBX := Lib.hid hbX; clear hbX
 have HOBJ := Lib.hid hobj; clear hobj
 have HSH := Lib.hid hsh; clear hsh
 have HAC0 := Lib.hid hac0; clear hac0
 have HZX := Lib.hid hzX; clear hzX
 have HD := Lib.hid hD; clear hD
 have HT := Lib.hid ht; clear ht
 have HJB := Lib.hid hjb; clear hjb
 by_cases hs : 0 ≤ sl
 ·have hA : sl = (A0 : Int) := by omega
  subst hA
  clear hA0
  have hac : (acc 0 : Int) = 2 + (A0 : Int) := by rw [HAC0.out]; omega
  have i0 : IntKind.i64.wrap (2 + (A0 : Int)) = (acc 0 : Int) := by rw [← hac]; exact IntWalk.i64_in _ (by omega)
  have HAC := Lib.hid hac; clear hac
  go_enter Tryz.func79, Tryz.ntmps79
  go_upto_region 2 with fail
  rw [← HW.out]
  go_upto_region 5 with fail
  rw [← HX.out]
  clear k0 k1 k2 g0 g1 g2 g3 g4 bg
  go_wp2_with fail
  clear t2 i0
  go_loopw [8, 35] (fun at_ i wr => ∃ k, k ≤ f.objects.length ∧ i = .int .i64 (k : Nat) ∧ at_ = .int .i64 (acc k) ∧ MapIs obK spanVal wr (w.heap.size + 1) k (G k) ∧ Fr (fun q => q = w.heap.size + 1) X wr) (fun _ i _ => f.objects.length - (intOf i).toNat)
  case atStart => exact ⟨0, Nat.zero_le _, rfl, by first | rfl | (rw [HAC.out]; rfl), HM0.out, Fr.refl _ _⟩
  case round =>
   obtain ⟨k, hk, rfl, rfl, hm, hf⟩ := hrel
   have hfx := hf.below (N := w.heap.size + 1) (Nat.le_of_lt HZX.out) (fun q hq => by omega)
   have hbr := HBX.out.trans (hfx.mono (by omega))
   have k1 := hf.cell kk1 (by show ¬ w.heap.size = w.heap.size + 1; omega)
   by_cases hlt : k < f.objects.length
   ·obtain ⟨b9, o9, rfl, hd9, hx⟩ := HOBJ.out k hlt
    have hx := hf.cell hx (by have := HD.out _ hd9; show ¬ b9 = _; omega)
    have hsu := HACS.out k hlt
    have hal := HACL.out k hk
    have hal2 := HACL.out (k + 1) hlt
    have hfls := HFL.out f.objects[k]
    have hkb : i64B (k : Int) := by unfold i64B; omega
    have HHN := Lib.hid hm
    have hgs := HGS.out k hlt HJB.out hkb
    clear hm
    cases hws : withinB f.objects[k] p.shapes.length
    ·have hfz : fieldsN p f.objects[k] = 0 := by unfold fieldsN; rw [hws]; rfl
     rw [hfz] at hsu hgs
     have HS := Lib.hid hgs; clear hgs
     generalize f.objects[k] = x at *
     clear hfz hfls
     by_cases hx0 : 0 ≤ x
     ·have hx1 : ¬ x < p.shapes.length := by simp [withinB] at hws; omega
      clear hws
      have i3 : IntKind.i64.wrap ((acc k : Int) + 0) = (acc (k + 1) : Int) := by rw [hsu]; exact IntWalk.i64_in _ (by omega)
      have HSU := Lib.hid hsu
      clear hsu
      have HF := Lib.hid hf; clear hf
      have HBR := Lib.hid hbr; clear hbr
      go_wp2_with (refine put_map rfl (.tmp 56) (.tmp 59) (.tmp 62) 138 145 rfl HHN.out HT.out (by unfold maxLen; omega) ⟨((j : Int), (k : Int)), HJB.out, hkb⟩ trivial ((acc k : Int), 0) rfl rfl rfl ?_; intro w1 hm1 ht1)
      rw [HGN.out k HJB.out hkb] at hm1
      have hm1 := hm1.congr (g := G (k + 1)) (fun a _ => HS.out a)
      have hf3 := HF.out.trans (turned_fr ht1) (fun _ _ h => h)
      clear ht1
      have HM1 := Lib.hid hm1; clear hm1
      have HF3 := Lib.hid hf3; clear hf3
      go_wp2_with fail
      go_roundw
      case rel => exact ⟨k + 1, by omega, by go_num, by first | rfl | (rw [HSU.out]; simp; done) | go_num, HM1.out, HF3.out⟩
      case measure => simp [intOf]; omega
     ·clear hws
      have i3 : IntKind.i64.wrap ((acc k : Int) + 0) = (acc (k + 1) : Int) := by rw [hsu]; exact IntWalk.i64_in _ (by omega)
      have HSU := Lib.hid hsu
      clear hsu
      have HF := Lib.hid hf; clear hf
      have HBR := Lib.hid hbr; clear hbr
      go_wp2_with (refine put_map rfl (.tmp 56) (.tmp 59) (.tmp 62) 138 145 rfl HHN.out HT.out (by unfold maxLen; omega) ⟨((j : Int), (k : Int)), HJB.out, hkb⟩ trivial ((acc k : Int), 0) rfl rfl rfl ?_; intro w1 hm1 ht1)
      rw [HGN.out k HJB.out hkb] at hm1
      have hm1 := hm1.congr (g := G (k + 1)) (fun a _ => HS.out a)
      have hf3 := HF.out.trans (turned_fr ht1) (fun _ _ h => h)
      clear ht1
      have HM1 := Lib.hid hm1; clear hm1
      have HF3 := Lib.hid hf3; clear hf3
      go_wp2_with fail
      go_roundw
      case rel => exact ⟨k + 1, by omega, by go_num, by first | rfl | (rw [HSU.out]; simp; done) | go_num, HM1.out, HF3.out⟩
      case measure => simp [intOf]; omega
    ·obtain ⟨y, hy, hyl⟩ := within_nat hws
     have hfz : fieldsN p f.objects[k] = p.shapes[y] := by unfold fieldsN; rw [if_pos hws, hy]; simp [hyl]
     rw [hfz] at hsu hfls hgs
     have HS := Lib.hid hgs; clear hgs
     rw [hy] at hx
     obtain ⟨b8, o8, rfl, hd8, a8, c8, hq⟩ := HSH.out y hyl
     have hq := hf.cell hq (by have := HD.out _ hd8; show ¬ b8 = _; omega)
     generalize p.shapes[y] = ny at *
     have hy0 : (0 : Int) ≤ (y : Int) := by omega
     have hy1 : (y : Int) < p.shapes.length := by omega
     clear hws hfz hy
     have i3 : IntKind.i64.wrap ((acc k : Int) + (ny : Int)) = (acc (k + 1) : Int) := by rw [hsu]; exact IntWalk.i64_in _ (by omega)
     have HSU := Lib.hid hsu
     clear hsu
     have HF := Lib.hid hf; clear hf
     have HBR := Lib.hid hbr; clear hbr
     go_wp2_with (refine put_map rfl (.tmp 56) (.tmp 59) (.tmp 62) 138 145 rfl HHN.out HT.out (by unfold maxLen; omega) ⟨((j : Int), (k : Int)), HJB.out, hkb⟩ trivial ((acc k : Int), (ny : Int)) rfl rfl rfl ?_; intro w1 hm1 ht1)
     rw [HGN.out k HJB.out hkb] at hm1
     have hm1 := hm1.congr (g := G (k + 1)) (fun a _ => HS.out a)
     have hf3 := HF.out.trans (turned_fr ht1) (fun _ _ h => h)
     clear ht1
     have HM1 := Lib.hid hm1; clear hm1
     have HF3 := Lib.hid hf3; clear hf3
     go_wp2_with fail
     go_roundw
     case rel => exact ⟨k + 1, by omega, by go_num, by first | rfl | (rw [HSU.out]; simp; done) | go_num, HM1.out, HF3.out⟩
     case measure => simp [intOf]; omega
   ·have hk' : k = f.objects.length := by omega
    subst hk'
    clear hfx hf
    have HBR := Lib.hid hbr; clear hbr
    have HM := Lib.hid hm; clear hm
    go_wp2_with fail
    go_ret2
    first | exact ⟨_, rfl, HM.out, HBR.out⟩ | exact ⟨_, ⟨rfl, HM.out⟩, HBR.out⟩
 ·have hA : A0 = 0 := by omega
  subst hA
  clear hA0
  have hac : (acc 0 : Int) = 2 + ((0 : Nat) : Int) := by rw [HAC0.out]; omega
  have i0 : IntKind.i64.wrap (2 + ((0 : Nat) : Int)) = (acc 0 : Int) := by rw [← hac]; exact IntWalk.i64_in _ (by omega)
  have HAC := Lib.hid hac; clear hac
  go_enter Tryz.func79, Tryz.ntmps79
  go_upto_region 2 with fail
  rw [← HW.out]
  go_upto_region 5 with fail
  rw [← HX.out]
  clear k0 k1 k2 g0 g1 g2 g3 g4 bg
  go_wp2_with fail
  clear t2 i0
  go_loopw [8, 35] (fun at_ i wr => ∃ k, k ≤ f.objects.length ∧ i = .int .i64 (k : Nat) ∧ at_ = .int .i64 (acc k) ∧ MapIs obK spanVal wr (w.heap.size + 1) k (G k) ∧ Fr (fun q => q = w.heap.size + 1) X wr) (fun _ i _ => f.objects.length - (intOf i).toNat)
  case atStart => exact ⟨0, Nat.zero_le _, rfl, by first | rfl | (rw [HAC.out]; rfl), HM0.out, Fr.refl _ _⟩
  case round =>
   obtain ⟨k, hk, rfl, rfl, hm, hf⟩ := hrel
   have hfx := hf.below (N := w.heap.size + 1) (Nat.le_of_lt HZX.out) (fun q hq => by omega)
   have hbr := HBX.out.trans (hfx.mono (by omega))
   have k1 := hf.cell kk1 (by show ¬ w.heap.size = w.heap.size + 1; omega)
   by_cases hlt : k < f.objects.length
   ·obtain ⟨b9, o9, rfl, hd9, hx⟩ := HOBJ.out k hlt
    have hx := hf.cell hx (by have := HD.out _ hd9; show ¬ b9 = _; omega)
    have hsu := HACS.out k hlt
    have hal := HACL.out k hk
    have hal2 := HACL.out (k + 1) hlt
    have hfls := HFL.out f.objects[k]
    have hkb : i64B (k : Int) := by unfold i64B; omega
    have HHN := Lib.hid hm
    have hgs := HGS.out k hlt HJB.out hkb
    clear hm
    cases hws : withinB f.objects[k] p.shapes.length
    ·have hfz : fieldsN p f.objects[k] = 0 := by unfold fieldsN; rw [hws]; rfl
     rw [hfz] at hsu hgs
     have HS := Lib.hid hgs; clear hgs
     generalize f.objects[k] = x at *
     clear hfz hfls
     by_cases hx0 : 0 ≤ x
     ·have hx1 : ¬ x < p.shapes.length := by simp [withinB] at hws; omega
      clear hws
      have i3 : IntKind.i64.wrap ((acc k : Int) + 0) = (acc (k + 1) : Int) := by rw [hsu]; exact IntWalk.i64_in _ (by omega)
      have HSU := Lib.hid hsu
      clear hsu
      have HF := Lib.hid hf; clear hf
      have HBR := Lib.hid hbr; clear hbr
      go_wp2_with (refine put_map rfl (.tmp 56) (.tmp 59) (.tmp 62) 138 145 rfl HHN.out HT.out (by unfold maxLen; omega) ⟨((j : Int), (k : Int)), HJB.out, hkb⟩ trivial ((acc k : Int), 0) rfl rfl rfl ?_; intro w1 hm1 ht1)
      rw [HGN.out k HJB.out hkb] at hm1
      have hm1 := hm1.congr (g := G (k + 1)) (fun a _ => HS.out a)
      have hf3 := HF.out.trans (turned_fr ht1) (fun _ _ h => h)
      clear ht1
      have HM1 := Lib.hid hm1; clear hm1
      have HF3 := Lib.hid hf3; clear hf3
      go_wp2_with fail
      go_roundw
      case rel => exact ⟨k + 1, by omega, by go_num, by first | rfl | (rw [HSU.out]; simp; done) | go_num, HM1.out, HF3.out⟩
      case measure => simp [intOf]; omega
     ·clear hws
      have i3 : IntKind.i64.wrap ((acc k : Int) + 0) = (acc (k + 1) : Int) := by rw [hsu]; exact IntWalk.i64_in _ (by omega)
      have HSU := Lib.hid hsu
      clear hsu
      have HF := Lib.hid hf; clear hf
      have HBR := Lib.hid hbr; clear hbr
      go_wp2_with (refine put_map rfl (.tmp 56) (.tmp 59) (.tmp 62) 138 145 rfl HHN.out HT.out (by unfold maxLen; omega) ⟨((j : Int), (k : Int)), HJB.out, hkb⟩ trivial ((acc k : Int), 0) rfl rfl rfl ?_; intro w1 hm1 ht1)
      rw [HGN.out k HJB.out hkb] at hm1
      have hm1 := hm1.congr (g := G (k + 1)) (fun a _ => HS.out a)
      have hf3 := HF.out.trans (turned_fr ht1) (fun _ _ h => h)
      clear ht1
      have HM1 := Lib.hid hm1; clear hm1
      have HF3 := Lib.hid hf3; clear hf3
      go_wp2_with fail
      go_roundw
      case rel => exact ⟨k + 1, by omega, by go_num, by first | rfl | (rw [HSU.out]; simp; done) | go_num, HM1.out, HF3.out⟩
      case measure => simp [intOf]; omega
    ·obtain ⟨y, hy, hyl⟩ := within_nat hws
     have hfz : fieldsN p f.objects[k] = p.shapes[y] := by unfold fieldsN; rw [if_pos hws, hy]; simp [hyl]
     rw [hfz] at hsu hfls hgs
     have HS := Lib.hid hgs; clear hgs
     rw [hy] at hx
     obtain ⟨b8, o8, rfl, hd8, a8, c8, hq⟩ := HSH.out y hyl
     have hq := hf.cell hq (by have := HD.out _ hd8; show ¬ b8 = _; omega)
     generalize p.shapes[y] = ny at *
     have hy0 : (0 : Int) ≤ (y : Int) := by omega
     have hy1 : (y : Int) < p.shapes.length := by omega
     clear hws hfz hy
     have i3 : IntKind.i64.wrap ((acc k : Int) + (ny : Int)) = (acc (k + 1) : Int) := by rw [hsu]; exact IntWalk.i64_in _ (by omega)
     have HSU := Lib.hid hsu
     clear hsu
     have HF := Lib.hid hf; clear hf
     have HBR := Lib.hid hbr; clear hbr
     go_wp2_with (refine put_map rfl (.tmp 56) (.tmp 59) (.tmp 62) 138 145 rfl HHN.out HT.out (by unfold maxLen; omega) ⟨((j : Int), (k : Int)), HJB.out, hkb⟩ trivial ((acc k : Int), (ny : Int)) rfl rfl rfl ?_; intro w1 hm1 ht1)
     rw [HGN.out k HJB.out hkb] at hm1
     have hm1 := hm1.congr (g := G (k + 1)) (fun a _ => HS.out a)
     have hf3 := HF.out.trans (turned_fr ht1) (fun _ _ h => h)
     clear ht1
     have HM1 := Lib.hid hm1; clear hm1
     have HF3 := Lib.hid hf3; clear hf3
     go_wp2_with fail
     go_roundw
     case rel => exact ⟨k + 1, by omega, by go_num, by first | rfl | (rw [HSU.out]; simp; done) | go_num, HM1.out, HF3.out⟩
     case measure => simp [intOf]; omega
   ·have hk' : k = f.objects.length := by omega
    subst hk'
    clear hfx hf
    have HBR := Lib.hid hbr; clear hbr
    have HM := Lib.hid hm; clear hm
    go_wp2_with fail
    go_ret2
    first | exact ⟨_, rfl, HM.out, HBR.out⟩ | exact ⟨_, ⟨rfl, HM.out⟩, HBR.out⟩
end Go.Proofs.YthkhgihjigmkoaaGreat.Tk
namespace Go.Proofs.YthkhgihjigmkoaaGreat.Tk
open Go.ChangeShapes Go.WideShapes Go.ChangeAt Go.RowKit Go.Maps
theorem atN_succ (p : TPrg) (f : TFun) (k : Nat) (hk : k < f.objects.length) : atN p f (k + 1) = atN p f k + fieldsN p f.objects[k] := by
 unfold atN
 rw [objsN_snoc p _ k hk]
 omega
theorem atN_le {p : TPrg} (h : PSmall p) (f : TFun) (hf : f ∈ p.funcs) (k : Nat) (hk : k ≤ f.objects.length) : atN p f k ≤ 9100000 := by
 have h1 := objsN_le h (f.objects.take k)
 have h2 : (f.objects.take k).length ≤ 3000 := by have := (h.2.2.2 f hf).2.2; rw [List.length_take]; omega
 have h3 := (h.2.2.2 f hf).2.1
 unfold atN
 omega
theorem lenMap {P : Program} {κ ν : Type} {K : KeyTy P κ} {val : ν → Value} {w : World} {b n : Nat} {f : κ → Option ν} {ops : Array Oper} {rest : List Oper} {o : Oper} {a : Act} {Q : Exit → Act → World → Prop} (hg : o.guard = none) (m : Operand) (t e : TypeId) (hop : o.op = Op.call { callee := Callee.builtin Builtin.len, args := #[m], argTypes := #[t] }) (h : MapIs K val w b n f) (ht : P.underlying t = some (.map K.k e))
  (hm : a.eval m = .map (some b)) (hK : wpList P ops Q rest (a.put o.dst (.int .i64 n)) w) : wpList P ops Q (o :: rest) a w := by
 obtain ⟨D, h1, h2, h3⟩ := h
 exact wpList_len_own w hg m t hop K.k e ht tokR b n D hm h1 (by rw [h2]; exact hK)
set_option maxRecDepth 100000 in
theorem zero_span (w : World) : (zeroValue 145).run Tryz.prog w = .ok (.agg #[.int .i64 0, .int .i64 0]) w := by kernel_rfl
set_option maxRecDepth 100000 in
set_option maxHeartbeats 3200000 in
theorem at_any (w : World) (D : Nat → Prop) (hD : ∀ k, D k → k < w.heap.size) (p : TPrg) (c0 c1 c2 : Value) (j : Nat) (hj : j < p.funcs.length) (hv : PV w D p c0 c1 c2) (hp : PSmall p) (off : Int) :
  Calls Tryz.prog 85 #[.agg #[c0, c1, c2], .int .i64 j, .int .i64 off] w fun e w' => ∃ a b r, e = .returned (.tuple #[.int .i64 a, .int .i64 b, .bool r]) ∧ ((r = true ∧ ∃ k : Nat, k < p.funcs[j].objects.length ∧ a = k ∧ (atN p p.funcs[j] k : Int) ≤ off ∧ off < atN p p.funcs[j] (k + 1) ∧ b = off - atN p p.funcs[j] k) ∨ (r = false ∧ a = 0 ∧ b = 0 ∧ ∀ k : Nat, k < p.funcs[j].objects.length → ¬ ((atN p p.funcs[j] k : Int) ≤ off ∧ off < atN p p.funcs[j] (k + 1)))) ∧ Below w.heap.size w w' := by
 have hv0 := hv
 obtain ⟨⟨a0, n0, m0, rfl⟩, ⟨a1, m1, rfl, hsh⟩, a2, m2, rfl, hfn⟩ := hv
 have hb0 := ((Below.refl w.heap.size w).alloc (Nat.le_refl _) (.cells #[.slice a0 n0 m0, .slice a1 p.shapes.length m1, .slice a2 p.funcs.length m2] 27))
 have hq := fun j => cell_new w #[.slice a0 n0 m0, .slice a1 p.shapes.length m1, .slice a2 p.funcs.length m2] 27 (0, 0) j
 obtain ⟨W, hW⟩ : ∃ W, W = (w.alloc (.cells #[.slice a0 n0 m0, .slice a1 p.shapes.length m1, .slice a2 p.funcs.length m2] 27)) := ⟨_, rfl⟩
 rw [← hW] at hb0 hq
 have k0 : W.cell? ⟨w.heap.size, 0, none⟩ = some (.slice a0 n0 m0) := hq 0
 have k1 : W.cell? ⟨w.heap.size, 1, none⟩ = some (.slice a1 p.shapes.length m1) := hq 1
 have k2 : W.cell? ⟨w.heap.size, 2, none⟩ = some (.slice a2 p.funcs.length m2) := hq 2
 have sp := spansM_any W D (fun k hk => Nat.lt_of_lt_of_le (hD k hk) hb0.size) p _ _ _ j hj (hv0.below hb0) hp
 have ht : Tryz.prog.underlying 138 = some (.map obK.k 145) := Tryz.underlying138
 have hjb : i64B (j : Int) := by unfold i64B; have := hp.2.1; omega
 have hlb := (hp.2.2.2 p.funcs[j] (List.getElem_mem hj)).2.2
 have hat := atN_le hp p.funcs[j] (List.getElem_mem hj)
 have hsu := atN_succ p p.funcs[j]
 have HW := Lib.hid hW
 clear hW hq hsh hfn hv0 hp
 generalize p.funcs[j] = f at *
 generalize wordsN p j = n at *
 have SP := Lib.hid sp; clear sp
 have HB0 := Lib.hid hb0; clear hb0
 have HT := Lib.hid ht; clear ht
 have HJB := Lib.hid hjb; clear hjb
 have HAT := Lib.hid hat; clear hat
 have HSU := Lib.hid hsu; clear hsu
 go_enter Tryz.func85, Tryz.ntmps85
 go_upto_region 1 with fail
 rw [← HW.out]
 go_wp2_with fail
 refine SP.out.mono ?_
 rintro e w1 ⟨b, rfl, hm, hb1⟩
 have HB1 := Lib.hid (HB0.out.trans (hb1.mono HB0.out.size))
 clear hb1 k0 k1 k2
 have HM := Lib.hid hm; clear hm
 go_upto_region 2 with fail
 go_wp2_with (refine lenMap rfl (.tmp 19) 138 145 rfl HM.out HT.out rfl ?_)
 have hr0 := Below.refl w1.heap.size w1
 have HR0 := Lib.hid hr0; clear hr0
 go_loopw [21] (fun i wr => ∃ k : Nat, k ≤ f.objects.length ∧ i = .int .i64 k ∧ Below w1.heap.size w1 wr ∧ ∀ k' : Nat, k' < k → ¬ ((atN p f k' : Int) ≤ off ∧ off < atN p f (k' + 1))) (fun i _ => f.objects.length - (intOf i).toNat)
 case atStart => exact ⟨0, Nat.zero_le _, rfl, HR0.out, fun k hk => absurd hk (Nat.not_lt_zero _)⟩
 case round =>
  obtain ⟨k, hk, rfl, hbr, hno⟩ := hrel
  by_cases hlt : k < f.objects.length
  ·have hkb : i64B (k : Int) := by unfold i64B; omega
   have hf : spanF p f j ⟨((j : Int), (k : Int)), HJB.out, hkb⟩ = some ((atN p f k : Int), (fieldsN p f.objects[k] : Int)) := by
    unfold spanF spanK
    rw [if_pos ⟨rfl, by simp, by simpa using hlt⟩]
    simp [hlt]
   have e1 := HSU.out k hlt
   have l1 := HAT.out k hk
   have l2 := HAT.out (k + 1) hlt
   obtain ⟨x, hx⟩ : ∃ x, x = atN p f k := ⟨_, rfl⟩
   obtain ⟨y, hy⟩ : ∃ y, y = fieldsN p f.objects[k] := ⟨_, rfl⟩
   obtain ⟨z, hz⟩ : ∃ z, z = atN p f (k + 1) := ⟨_, rfl⟩
   rw [← hx, ← hy] at hf
   rw [← hx, ← hy, ← hz] at e1
   rw [← hx] at l1
   rw [← hz] at l2
   have i1 : IntKind.i64.wrap ((k : Int) + 1) = ((k + 1 : Nat) : Int) := IntWalk.i64_in _ (by omega)
   have i2 : IntKind.i64.wrap ((x : Int) + (y : Int)) = (z : Int) := by rw [e1]; exact IntWalk.i64_in _ (by omega)
   have HMR := Lib.hid (HM.out.below hbr)
   have hb2 := HB1.out.trans (hbr.mono HB1.out.size)
   have HX := Lib.hid (show x = atN p f k from hx)
   have HZ := Lib.hid (show z = atN p f (k + 1) from hz)
   have HF := Lib.hid hf
   have HNO := Lib.hid hno
   have HBR := Lib.hid hbr
   have HB2 := Lib.hid hb2
   clear hx hy hz hf hno hbr hb2 e1
   go_upto_region 5 with fail
   go_wp2_with (refine look_some rfl (.tmp 24) (.tmp 27) 138 145 rfl HMR.out HT.out (zero_span _) ⟨((j : Int), (k : Int)), HJB.out, hkb⟩ trivial rfl rfl ((x : Int), (y : Int)) HF.out ?_; change wpList _ _ _ _ (Act.put _ _ (.agg #[.int .i64 (x : Int), .int .i64 (y : Int)])) _)
   ·have i3 : IntKind.i64.wrap (off - (x : Int)) = off - (x : Int) := IntWalk.i64_in _ (by omega)
    go_quiet (fail)
    go_wp2_with fail
    go_ret3
    exact ⟨_, _, _, rfl, .inl ⟨rfl, k, hlt, rfl, by rw [← HX.out]; assumption, by rw [← HZ.out]; assumption, by rw [← HX.out]⟩, below_drewN (HB2.out.alloc HB2.out.size _) _⟩
   all_goals
    go_roundw
    case rel => exact ⟨k + 1, hlt, by go_num, HBR.out.alloc HBR.out.size _, fun k' hk' => by
      rcases Nat.lt_succ_iff_lt_or_eq.1 hk' with h3 | h3
      ·exact HNO.out k' h3
      ·subst h3; rw [← HX.out, ← HZ.out]; omega⟩
    case measure => simp [intOf]; omega
  ·have hk' : k = f.objects.length := by omega
   subst hk'
   have HNO := Lib.hid hno
   have HB2 := Lib.hid (HB1.out.trans (hbr.mono HB1.out.size))
   clear hno hbr
   go_wp2_with fail
   go_ret3
   exact ⟨_, _, _, rfl, .inr ⟨rfl, rfl, rfl, HNO.out⟩, HB2.out⟩
end Go.Proofs.YthkhgihjigmkoaaGreat.Tk
namespace Go.Proofs.YthkhgihjigmkoaaGreat.Tk
open Go.ChangeShapes Go.WideShapes Go.ChangeAt Go.RowKit Go.Maps
theorem cell_new2 (w : World) (o : Obj) (cs : Array Value) (t : TypeId) (fz : Nat × Nat) (j : Nat) : ((w.alloc o).alloc (.cells cs t fz)).cell? ⟨w.heap.size + 1, j, none⟩ = cs[j]? := by
 have := cell_new (w.alloc o) cs t fz j
 rw [show (w.alloc o).heap.size = w.heap.size + 1 from by simp] at this
 exact this
set_option maxRecDepth 100000 in
theorem last_nil (w : World) (a : Option Addr) (n c : Nat) (a' : Option Addr) (c' : Nat) :
  Calls Tryz.prog 117 #[.agg #[.slice a n c, .slice a' 0 c']] w fun e w' => e = .returned (.tuple #[.agg #[.int .i64 0, .int .i64 0, .int .i64 0, .bool false, .bool false], .bool false]) ∧ Below w.heap.size w w' := by
 go_enter Tryz.func117, Tryz.ntmps117
 go_wp2_with fail
 refine bodyPost_ret ?_ rfl ⟨rfl, ((Below.refl w.heap.size w).alloc (Nat.le_refl _) _).alloc (by simp) _⟩
 simp [results, Tryz.results117, go_sem, cell_new2]
set_option maxRecDepth 100000 in
theorem last_some (w : World) (a : Option Addr) (n c : Nat) (B : Nat) (av : Value) (A : List Alarm) (x : Alarm) (h : Own alarmE w B av (A ++ [x])) (hl : A.length ≤ 100000) :
  Calls Tryz.prog 117 #[.agg #[.slice a n c, av]] w fun e w' => e = .returned (.tuple #[.agg #[.int .i64 x.code, .int .i64 x.ptr, .int .i64 x.run, .bool x.exit, .bool x.recovered], .bool true]) ∧ Below w.heap.size w w' := by
 obtain ⟨g, cc, rfl, _, _⟩ := own_pop h
 have c0 := (own_lastc h 0 _ rfl).1
 have c1 := (own_lastc h 1 _ rfl).1
 have c2 := (own_lastc h 2 _ rfl).1
 have c3 := (own_lastc h 3 _ rfl).1
 have c4 := (own_lastc h 4 _ rfl).1
 have hbx := (((Below.refl w.heap.size w).alloc (Nat.le_refl _) (.cells #[.slice a n c, .slice (some ⟨g, 0, none⟩) (A.length + 1) cc] 95)).alloc (by simp) (.cells #[.int .i64 0, .int .i64 0, .int .i64 0, .bool false, .bool false] 67))
 have hbz := (((Below.refl w.heap.size w).alloc (Nat.le_refl _) (.cells #[.slice a n c, .slice (some ⟨g, 0, none⟩) (A.length + 1) cc] 95)).alloc (by simp) (.cells #[.int .i64 x.code, .int .i64 x.ptr, .int .i64 x.run, .bool x.exit, .bool x.recovered] 67))
 have k0 := below_cell hbx c0
 have k1 := below_cell hbx c1
 have k2 := below_cell hbx c2
 have k3 := below_cell hbx c3
 have k4 := below_cell hbx c4
 change World.cell? _ ⟨g, A.length * 5, none⟩ = _ at k0
 change World.cell? _ ⟨g, A.length * 5 + 1, none⟩ = _ at k1
 change World.cell? _ ⟨g, A.length * 5 + 2, none⟩ = _ at k2
 change World.cell? _ ⟨g, A.length * 5 + 3, none⟩ = _ at k3
 change World.cell? _ ⟨g, A.length * 5 + 4, none⟩ = _ at k4
 have i1 : IntKind.i64.wrap (((A.length + 1 : Nat) : Int) - 1) = (A.length : Int) := by rw [show (((A.length + 1 : Nat) : Int) - 1) = (A.length : Int) from by omega]; exact IntWalk.i64_in _ (by omega)
 have n0 : (((A.length + 1 : Nat) : Int) == 0) = false := by rw [beq_eq_false_iff_ne]; omega
 have n1 : (A.length : Int) < ((A.length + 1 : Nat) : Int) := by omega
 generalize A.length + 1 = N at *
 have HB := Lib.hid hbz
 clear h c0 c1 c2 c3 c4 hbx hbz
 go_enter Tryz.func117, Tryz.ntmps117
 go_wp2_with fail
 refine bodyPost_ret ?_ rfl ⟨rfl, HB.out⟩
 simp [results, Tryz.results117, go_sem, cell_new2]
set_option maxRecDepth 100000 in
theorem stTop_nil (w : World) (a : Option Addr) (c : Nat) (a' : Option Addr) (n' c' : Nat) :
  Calls Tryz.prog 116 #[.agg #[.slice a 0 c, .slice a' n' c']] w fun e w' => e = .returned (.tuple #[.agg #[.bool false, .bool false, .int .i64 0], .bool false]) ∧ Below w.heap.size w w' := by
 go_enter Tryz.func116, Tryz.ntmps116
 go_wp2_with fail
 refine bodyPost_ret ?_ rfl ⟨rfl, ((Below.refl w.heap.size w).alloc (Nat.le_refl _) _).alloc (by simp) _⟩
 simp [results, Tryz.results116, go_sem, cell_new2]
set_option maxRecDepth 100000 in
theorem stTop_some (w : World) (B : Nat) (v : Value) (l : List Mark) (m : Mark) (h : Own markE w B v (l ++ [m])) (hl : l.length ≤ 100000) (a' : Option Addr) (n' c' : Nat) :
  Calls Tryz.prog 116 #[.agg #[v, .slice a' n' c']] w fun e w' => e = .returned (.tuple #[.agg #[.bool m.leaving, .bool m.deferred, .int .i64 m.thunks], .bool true]) ∧ Below w.heap.size w w' := by
 obtain ⟨g, c, rfl, _, _⟩ := own_pop h
 have c0 := (own_lastc h 0 _ rfl).1
 have c1 := (own_lastc h 1 _ rfl).1
 have c2 := (own_lastc h 2 _ rfl).1
 have hbx := (((Below.refl w.heap.size w).alloc (Nat.le_refl _) (.cells #[.slice (some ⟨g, 0, none⟩) (l.length + 1) c, .slice a' n' c'] 95)).alloc (by simp) (.cells #[.bool false, .bool false, .int .i64 0] 152))
 have hbz := (((Below.refl w.heap.size w).alloc (Nat.le_refl _) (.cells #[.slice (some ⟨g, 0, none⟩) (l.length + 1) c, .slice a' n' c'] 95)).alloc (by simp) (.cells #[.bool m.leaving, .bool m.deferred, .int .i64 m.thunks] 152))
 have k0 := below_cell hbx c0
 have k1 := below_cell hbx c1
 have k2 := below_cell hbx c2
 change World.cell? _ ⟨g, l.length * 3, none⟩ = _ at k0
 change World.cell? _ ⟨g, l.length * 3 + 1, none⟩ = _ at k1
 change World.cell? _ ⟨g, l.length * 3 + 2, none⟩ = _ at k2
 have i1 : IntKind.i64.wrap (((l.length + 1 : Nat) : Int) - 1) = (l.length : Int) := by rw [show (((l.length + 1 : Nat) : Int) - 1) = (l.length : Int) from by omega]; exact IntWalk.i64_in _ (by omega)
 have n0 : (((l.length + 1 : Nat) : Int) == 0) = false := by rw [beq_eq_false_iff_ne]; omega
 have n1 : (l.length : Int) < ((l.length + 1 : Nat) : Int) := by omega
 generalize l.length + 1 = N at *
 have HB := Lib.hid hbz
 clear h c0 c1 c2 hbx hbz
 go_enter Tryz.func116, Tryz.ntmps116
 go_wp2_with fail
 refine bodyPost_ret ?_ rfl ⟨rfl, HB.out⟩
 simp [results, Tryz.results116, go_sem, cell_new2]
end Go.Proofs.YthkhgihjigmkoaaGreat.Tk
