/- Walks: frames: what a function's frame has of a stack. -/
import Derived.Test.YtmanoclahcpaoaaTkD
namespace Go.Proofs.Ytmanoclahcpaoaa
open Go.ChangeShapes Go.WideShapes Go.ChangeAt Go.RowKit Go.Maps

def spanVal (x : Int × Int) : Value := .agg #[.int .i64 x.1, .int .i64 x.2]
set_option maxRecDepth 100000 in
set_option maxHeartbeats 3200000 in
theorem spans_any (w : World) (D : Nat → Prop) (hD : ∀ k, D k → k < w.heap.size) (p : TPrg) (c0 c1 c2 : Value) (fn : Int) (hv : PV w D p c0 c1 c2) (hp : PSmall p) :
    Calls Try.prog 43 #[.agg #[c0, c1, c2], .int .i64 fn] w fun e w' => ∃ b, e = .returned (.tuple #[.map (some b), .int .i64 (wordsN p fn)]) ∧ Below w.heap.size w w' := by
  obtain ⟨⟨a0, n0, m0, rfl⟩, ⟨a1, m1, rfl, hsh⟩, a2, m2, rfl, hfn⟩ := hv
  have hb0 := ((Below.refl w.heap.size w).alloc (Nat.le_refl _) (.cells #[.slice a0 n0 m0, .slice a1 p.shapes.length m1, .slice a2 p.funcs.length m2] 27))
  have hmk : MapIs obK spanVal ((w.alloc (.cells #[.slice a0 n0 m0, .slice a1 p.shapes.length m1, .slice a2 p.funcs.length m2] 27)).alloc (.map #[] 0)) (w.alloc (.cells #[.slice a0 n0 m0, .slice a1 p.shapes.length m1, .slice a2 p.funcs.length m2] 27)).heap.size 0 (fun _ => none) := MapIs.made obK _ _
  have hz1 : (w.alloc (.cells #[.slice a0 n0 m0, .slice a1 p.shapes.length m1, .slice a2 p.funcs.length m2] 27)).heap.size = w.heap.size + 1 := by simp
  rw [hz1] at hmk
  have hb1 := hb0.alloc (by simp) (.map #[] 0)
  have hmake : ∀ w, (Instr.makeMap 90 none).run Try.prog w = .ok (.map (some w.heap.size)) (w.alloc (.map #[] 0)) := fun w => run_makeMap _ w
  have ht : Try.prog.underlying 90 = some (.map obK.k 105) := Try.underlying90
  have hq : ∀ j u, #[Value.slice a0 n0 m0, .slice a1 p.shapes.length m1, .slice a2 p.funcs.length m2][j]? = some u → ((w.alloc (.cells #[.slice a0 n0 m0, .slice a1 p.shapes.length m1, .slice a2 p.funcs.length m2] 27)).alloc (.map #[] 0)).cell? ⟨w.heap.size, j, none⟩ = some u := fun j u h => by
    rw [cell_under _ _ (by simp), cell_new]; exact h
  have hsz : ((w.alloc (.cells #[.slice a0 n0 m0, .slice a1 p.shapes.length m1, .slice a2 p.funcs.length m2] 27)).alloc (.map #[] 0)).heap.size = w.heap.size + 2 := by simp
  obtain ⟨W, hW⟩ : ∃ W, W = (w.alloc (.cells #[.slice a0 n0 m0, .slice a1 p.shapes.length m1, .slice a2 p.funcs.length m2] 27)).alloc (.map #[] 0) := ⟨_, rfl⟩
  rw [← hW] at hmk hb1 hq hsz
  have k0 := hq 0 _ rfl
  have k1 := hq 1 _ rfl
  have k2 := hq 2 _ rfl
  have hfn := hfn.fr (Fr.of_below hb1 (fun _ => False)) (fun _ _ h => h)
  have hsh := hsh.fr (Fr.of_below hb1 (fun _ => False)) (fun _ _ h => h)
  have HW := Lib.hid hW
  clear hW hb0 hz1 hq
  cases hin : withinB fn p.funcs.length
  · rw [wordsN_out hin]
    clear hfn hsh hmk hp
    have HB1 := Lib.hid hb1; clear hb1
    by_cases h0 : fn < 0
    · clear hin
      go_enter Try.func43, Try.ntmps43
      go_upto_region 2 with fail
      rw [← HW.out]
      go_wp2_with fail
      go_ret2
      first | exact ⟨_, rfl, HB1.out⟩ | exact HB1.out | exact ⟨⟨_, rfl⟩, HB1.out⟩
    · have h1 : (p.funcs.length : Int) ≤ fn := by simp [withinB] at hin; omega
      clear hin
      go_enter Try.func43, Try.ntmps43
      go_upto_region 2 with fail
      rw [← HW.out]
      go_wp2_with fail
      go_ret2
      first | exact ⟨_, rfl, HB1.out⟩ | exact HB1.out | exact ⟨⟨_, rfl⟩, HB1.out⟩
  obtain ⟨j, rfl, hj⟩ := within_nat hin
  rw [wordsN_at j hj]
  obtain ⟨bb, o, rfl, _, y0, y1, y2, y3, y4, g0, g1, g2, g3, g4, hfv⟩ := hfn j hj
  have hfp := hp.2.2.2 p.funcs[j] (List.getElem_mem hj)
  generalize p.funcs[j] = f at *
  obtain ⟨⟨e0, e1, rfl⟩, ⟨e2, rfl⟩, rfl, ⟨e3, e4, rfl, hobj⟩, e5, e6, e7, rfl⟩ := hfv
  have hj0 : ¬ (j : Int) < 0 := by omega
  have hj1 : ¬ (p.funcs.length : Int) ≤ (j : Int) := by omega
  have hj2 : (j : Int) < p.funcs.length := by omega
  have hjb : i64B (j : Int) := by unfold i64B; have := hp.2.1; omega
  obtain ⟨f0, f1, f2⟩ := hfp
  obtain ⟨A0, hA0⟩ : ∃ A0 : Nat, A0 = f.slots.toNat := ⟨_, rfl⟩
  obtain ⟨acc, hacc⟩ : ∃ acc : Nat → Nat, acc = fun k => 2 + A0 + objsN p (f.objects.take k) := ⟨_, rfl⟩
  have hfull : frameN p f = acc f.objects.length := by rw [hacc, hA0]; simp [frameN]
  have hac0 : acc 0 = 2 + A0 := by rw [hacc]; simp [objsN]
  have hacs : ∀ k (hk : k < f.objects.length), acc (k + 1) = acc k + fieldsN p f.objects[k] := fun k hk => by
    rw [hacc]
    simp only
    rw [objsN_snoc p _ k hk]
    omega
  have hacl : ∀ k, k ≤ f.objects.length → acc k ≤ 9100000 := fun k hk => by
    rw [hacc]
    simp only
    have h1 := objsN_le hp (f.objects.take k)
    have h2 : (f.objects.take k).length ≤ 3000 := by rw [List.length_take]; omega
    omega
  rw [hfull]
  have hfl := fun s => fieldsN_le hp s
  have hx1 := fun wr h => box1 W #[.slice e0 f.nargs e1, .int .i64 e2, .int .i64 f.slots, .slice e3 f.objects.length e4, .slice e5 e6 e7] 45 wr h
  have hx2 : (W.alloc (.cells #[.slice e0 f.nargs e1, .int .i64 e2, .int .i64 f.slots, .slice e3 f.objects.length e4, .slice e5 e6 e7] 45)).heap.size = W.heap.size + 1 := by simp
  have hm0 := hmk.fr ((Fr.refl (fun _ => False) W).alloc (.cells #[.slice e0 f.nargs e1, .int .i64 e2, .int .i64 f.slots, .slice e3 f.objects.length e4, .slice e5 e6 e7] 45)) (fun h => h)
  have hbX := hb1.alloc hb1.size (.cells #[.slice e0 f.nargs e1, .int .i64 e2, .int .i64 f.slots, .slice e3 f.objects.length e4, .slice e5 e6 e7] 45)
  have hfX := (Fr.refl (fun _ => False) W).alloc (.cells #[.slice e0 f.nargs e1, .int .i64 e2, .int .i64 f.slots, .slice e3 f.objects.length e4, .slice e5 e6 e7] 45)
  obtain ⟨X, hX⟩ : ∃ X, X = W.alloc (.cells #[.slice e0 f.nargs e1, .int .i64 e2, .int .i64 f.slots, .slice e3 f.objects.length e4, .slice e5 e6 e7] 45) := ⟨_, rfl⟩
  rw [← hX] at hx1 hx2 hm0 hbX hfX
  have hxb := hx1 X (by rw [← hx2]; exact Below.refl _ _)
  have t2 := hxb.1 2 _ rfl
  have t3 := hxb.1 3 _ rfl
  have kk1 := hfX.cell k1 (fun h => h)
  have hobj := hobj.fr hfX (fun _ _ h => h)
  have hsh := hsh.fr hfX (fun _ _ h => h)
  have bg := World.block_lt g0
  dsimp only at bg
  have HX := Lib.hid hX
  have hlj : (p.shapes.length : Int) ≤ 3000 := by have := hp.1; omega
  have hzX : w.heap.size + 1 < X.heap.size := by omega
  clear hX hx1 hxb hfX hmk hb1 hin hacc hfull hp hj
  generalize f.slots = sl at *
  have hac1 := hacl 0 (Nat.zero_le _)
  clear hsz hx2
  have HACS := Lib.hid hacs; clear hacs
  have HACL := Lib.hid hacl; clear hacl
  have HFL := Lib.hid hfl; clear hfl
  have HM0 := Lib.hid hm0; clear hm0
  have HBX := Lib.hid hbX; clear hbX
  have HOBJ := Lib.hid hobj; clear hobj
  have HSH := Lib.hid hsh; clear hsh
  have HAC0 := Lib.hid hac0; clear hac0
  have HZX := Lib.hid hzX; clear hzX
  have HD := Lib.hid hD; clear hD
  have HT := Lib.hid ht; clear ht
  have HJB := Lib.hid hjb; clear hjb
  by_cases hs : 0 ≤ sl
  · have hA : sl = (A0 : Int) := by omega
    subst hA
    clear hA0
    have hac : (acc 0 : Int) = 2 + (A0 : Int) := by rw [HAC0.out]; omega
    have i0 : IntKind.i64.wrap (2 + (A0 : Int)) = (acc 0 : Int) := by rw [← hac]; exact IntWalk.i64_in _ (by omega)
    have HAC := Lib.hid hac; clear hac
    go_enter Try.func43, Try.ntmps43
    go_upto_region 2 with fail
    rw [← HW.out]
    go_upto_region 5 with fail
    rw [← HX.out]
    clear k0 k1 k2 g0 g1 g2 g3 g4 bg
    go_wp2_with fail
    clear t2 i0
    go_loopw [8, 35] (fun at_ i wr => ∃ k m g, k ≤ f.objects.length ∧ i = .int .i64 (k : Nat) ∧ at_ = .int .i64 (acc k) ∧ MapIs obK spanVal wr (w.heap.size + 1) m g ∧ m ≤ k ∧ Fr (fun q => q = w.heap.size + 1) X wr) (fun _ i _ => f.objects.length - (intOf i).toNat)
    case atStart => exact ⟨0, 0, _, Nat.zero_le _, rfl, by first | rfl | (rw [HAC.out]; rfl), HM0.out, Nat.le_refl _, Fr.refl _ _⟩
    case round =>
      obtain ⟨k, m, g, hk, rfl, rfl, hm, hmk, hf⟩ := hrel
      have hfx := hf.below (N := w.heap.size + 1) (Nat.le_of_lt HZX.out) (fun q hq => by omega)
      have hbr := HBX.out.trans (hfx.mono (by omega))
      have k1 := hf.cell kk1 (by show ¬ w.heap.size = w.heap.size + 1; omega)
      by_cases hlt : k < f.objects.length
      · obtain ⟨b9, o9, rfl, hd9, hx⟩ := HOBJ.out k hlt
        have hx := hf.cell hx (by have := HD.out _ hd9; show ¬ b9 = _; omega)
        have hsu := HACS.out k hlt
        have hal := HACL.out k hk
        have hal2 := HACL.out (k + 1) hlt
        have hfls := HFL.out f.objects[k]
        have hkb : i64B (k : Int) := by unfold i64B; omega
        have HHN := Lib.hid hm
        have HMK := Lib.hid (show m < 100000 by omega)
        clear hm
        cases hws : withinB f.objects[k] p.shapes.length
        · have hfz : fieldsN p f.objects[k] = 0 := by unfold fieldsN; rw [hws]; rfl
          rw [hfz] at hsu
          generalize f.objects[k] = x at *
          clear hfz hfls
          by_cases hx0 : 0 ≤ x
          · have hx1 : ¬ x < p.shapes.length := by simp [withinB] at hws; omega
            clear hws
            have i3 : IntKind.i64.wrap ((acc k : Int) + 0) = (acc (k + 1) : Int) := by rw [hsu]; exact IntWalk.i64_in _ (by omega)
            have hn3 : (if (g ⟨((j : Int), (k : Int)), HJB.out, hkb⟩).isSome then m else m + 1) ≤ k + 1 := by split <;> omega
            have HSU := Lib.hid hsu
            clear hsu
            have HF := Lib.hid hf; clear hf
            have HN3 := Lib.hid hn3; clear hn3
            have HBR := Lib.hid hbr; clear hbr
            go_wp2_with (refine put_map rfl (.tmp 56) (.tmp 59) (.tmp 62) 90 105 rfl HHN.out HT.out (by have := HMK.out; unfold maxLen; omega) ⟨((j : Int), (k : Int)), HJB.out, hkb⟩ trivial ((acc k : Int), 0) rfl rfl rfl ?_; intro w1 hm1 ht1)
            have hf3 := HF.out.trans (turned_fr ht1) (fun _ _ h => h)
            clear ht1
            have HM1 := Lib.hid hm1; clear hm1
            have HF3 := Lib.hid hf3; clear hf3
            go_wp2_with fail
            go_roundw
            case rel => exact ⟨k + 1, _, _, by omega, by go_num, by first | rfl | (rw [HSU.out]; simp; done) | go_num, HM1.out, HN3.out, HF3.out⟩
            case measure => simp [intOf]; omega
          · clear hws
            have i3 : IntKind.i64.wrap ((acc k : Int) + 0) = (acc (k + 1) : Int) := by rw [hsu]; exact IntWalk.i64_in _ (by omega)
            have hn3 : (if (g ⟨((j : Int), (k : Int)), HJB.out, hkb⟩).isSome then m else m + 1) ≤ k + 1 := by split <;> omega
            have HSU := Lib.hid hsu
            clear hsu
            have HF := Lib.hid hf; clear hf
            have HN3 := Lib.hid hn3; clear hn3
            have HBR := Lib.hid hbr; clear hbr
            go_wp2_with (refine put_map rfl (.tmp 56) (.tmp 59) (.tmp 62) 90 105 rfl HHN.out HT.out (by have := HMK.out; unfold maxLen; omega) ⟨((j : Int), (k : Int)), HJB.out, hkb⟩ trivial ((acc k : Int), 0) rfl rfl rfl ?_; intro w1 hm1 ht1)
            have hf3 := HF.out.trans (turned_fr ht1) (fun _ _ h => h)
            clear ht1
            have HM1 := Lib.hid hm1; clear hm1
            have HF3 := Lib.hid hf3; clear hf3
            go_wp2_with fail
            go_roundw
            case rel => exact ⟨k + 1, _, _, by omega, by go_num, by first | rfl | (rw [HSU.out]; simp; done) | go_num, HM1.out, HN3.out, HF3.out⟩
            case measure => simp [intOf]; omega
        · obtain ⟨y, hy, hyl⟩ := within_nat hws
          have hfz : fieldsN p f.objects[k] = p.shapes[y] := by unfold fieldsN; rw [if_pos hws, hy]; simp [hyl]
          rw [hfz] at hsu hfls
          rw [hy] at hx
          obtain ⟨b8, o8, rfl, hd8, a8, c8, hq⟩ := HSH.out y hyl
          have hq := hf.cell hq (by have := HD.out _ hd8; show ¬ b8 = _; omega)
          generalize p.shapes[y] = ny at *
          have hy0 : (0 : Int) ≤ (y : Int) := by omega
          have hy1 : (y : Int) < p.shapes.length := by omega
          clear hws hfz hy
          have i3 : IntKind.i64.wrap ((acc k : Int) + (ny : Int)) = (acc (k + 1) : Int) := by rw [hsu]; exact IntWalk.i64_in _ (by omega)
          have hn3 : (if (g ⟨((j : Int), (k : Int)), HJB.out, hkb⟩).isSome then m else m + 1) ≤ k + 1 := by split <;> omega
          have HSU := Lib.hid hsu
          clear hsu
          have HF := Lib.hid hf; clear hf
          have HN3 := Lib.hid hn3; clear hn3
          have HBR := Lib.hid hbr; clear hbr
          go_wp2_with (refine put_map rfl (.tmp 56) (.tmp 59) (.tmp 62) 90 105 rfl HHN.out HT.out (by have := HMK.out; unfold maxLen; omega) ⟨((j : Int), (k : Int)), HJB.out, hkb⟩ trivial ((acc k : Int), (ny : Int)) rfl rfl rfl ?_; intro w1 hm1 ht1)
          have hf3 := HF.out.trans (turned_fr ht1) (fun _ _ h => h)
          clear ht1
          have HM1 := Lib.hid hm1; clear hm1
          have HF3 := Lib.hid hf3; clear hf3
          go_wp2_with fail
          go_roundw
          case rel => exact ⟨k + 1, _, _, by omega, by go_num, by first | rfl | (rw [HSU.out]; simp; done) | go_num, HM1.out, HN3.out, HF3.out⟩
          case measure => simp [intOf]; omega
      · have hk' : k = f.objects.length := by omega
        subst hk'
        clear hfx hm hf
        have HBR := Lib.hid hbr; clear hbr
        go_wp2_with fail
        go_ret2
        first | exact ⟨_, rfl, HBR.out⟩ | exact HBR.out | exact ⟨⟨_, rfl⟩, HBR.out⟩
  · have hA : A0 = 0 := by omega
    subst hA
    clear hA0
    have hac : (acc 0 : Int) = 2 + ((0 : Nat) : Int) := by rw [HAC0.out]; omega
    have i0 : IntKind.i64.wrap (2 + ((0 : Nat) : Int)) = (acc 0 : Int) := by rw [← hac]; exact IntWalk.i64_in _ (by omega)
    have HAC := Lib.hid hac; clear hac
    go_enter Try.func43, Try.ntmps43
    go_upto_region 2 with fail
    rw [← HW.out]
    go_upto_region 5 with fail
    rw [← HX.out]
    clear k0 k1 k2 g0 g1 g2 g3 g4 bg
    go_wp2_with fail
    clear t2 i0
    go_loopw [8, 35] (fun at_ i wr => ∃ k m g, k ≤ f.objects.length ∧ i = .int .i64 (k : Nat) ∧ at_ = .int .i64 (acc k) ∧ MapIs obK spanVal wr (w.heap.size + 1) m g ∧ m ≤ k ∧ Fr (fun q => q = w.heap.size + 1) X wr) (fun _ i _ => f.objects.length - (intOf i).toNat)
    case atStart => exact ⟨0, 0, _, Nat.zero_le _, rfl, by first | rfl | (rw [HAC.out]; rfl), HM0.out, Nat.le_refl _, Fr.refl _ _⟩
    case round =>
      obtain ⟨k, m, g, hk, rfl, rfl, hm, hmk, hf⟩ := hrel
      have hfx := hf.below (N := w.heap.size + 1) (Nat.le_of_lt HZX.out) (fun q hq => by omega)
      have hbr := HBX.out.trans (hfx.mono (by omega))
      have k1 := hf.cell kk1 (by show ¬ w.heap.size = w.heap.size + 1; omega)
      by_cases hlt : k < f.objects.length
      · obtain ⟨b9, o9, rfl, hd9, hx⟩ := HOBJ.out k hlt
        have hx := hf.cell hx (by have := HD.out _ hd9; show ¬ b9 = _; omega)
        have hsu := HACS.out k hlt
        have hal := HACL.out k hk
        have hal2 := HACL.out (k + 1) hlt
        have hfls := HFL.out f.objects[k]
        have hkb : i64B (k : Int) := by unfold i64B; omega
        have HHN := Lib.hid hm
        have HMK := Lib.hid (show m < 100000 by omega)
        clear hm
        cases hws : withinB f.objects[k] p.shapes.length
        · have hfz : fieldsN p f.objects[k] = 0 := by unfold fieldsN; rw [hws]; rfl
          rw [hfz] at hsu
          generalize f.objects[k] = x at *
          clear hfz hfls
          by_cases hx0 : 0 ≤ x
          · have hx1 : ¬ x < p.shapes.length := by simp [withinB] at hws; omega
            clear hws
            have i3 : IntKind.i64.wrap ((acc k : Int) + 0) = (acc (k + 1) : Int) := by rw [hsu]; exact IntWalk.i64_in _ (by omega)
            have hn3 : (if (g ⟨((j : Int), (k : Int)), HJB.out, hkb⟩).isSome then m else m + 1) ≤ k + 1 := by split <;> omega
            have HSU := Lib.hid hsu
            clear hsu
            have HF := Lib.hid hf; clear hf
            have HN3 := Lib.hid hn3; clear hn3
            have HBR := Lib.hid hbr; clear hbr
            go_wp2_with (refine put_map rfl (.tmp 56) (.tmp 59) (.tmp 62) 90 105 rfl HHN.out HT.out (by have := HMK.out; unfold maxLen; omega) ⟨((j : Int), (k : Int)), HJB.out, hkb⟩ trivial ((acc k : Int), 0) rfl rfl rfl ?_; intro w1 hm1 ht1)
            have hf3 := HF.out.trans (turned_fr ht1) (fun _ _ h => h)
            clear ht1
            have HM1 := Lib.hid hm1; clear hm1
            have HF3 := Lib.hid hf3; clear hf3
            go_wp2_with fail
            go_roundw
            case rel => exact ⟨k + 1, _, _, by omega, by go_num, by first | rfl | (rw [HSU.out]; simp; done) | go_num, HM1.out, HN3.out, HF3.out⟩
            case measure => simp [intOf]; omega
          · clear hws
            have i3 : IntKind.i64.wrap ((acc k : Int) + 0) = (acc (k + 1) : Int) := by rw [hsu]; exact IntWalk.i64_in _ (by omega)
            have hn3 : (if (g ⟨((j : Int), (k : Int)), HJB.out, hkb⟩).isSome then m else m + 1) ≤ k + 1 := by split <;> omega
            have HSU := Lib.hid hsu
            clear hsu
            have HF := Lib.hid hf; clear hf
            have HN3 := Lib.hid hn3; clear hn3
            have HBR := Lib.hid hbr; clear hbr
            go_wp2_with (refine put_map rfl (.tmp 56) (.tmp 59) (.tmp 62) 90 105 rfl HHN.out HT.out (by have := HMK.out; unfold maxLen; omega) ⟨((j : Int), (k : Int)), HJB.out, hkb⟩ trivial ((acc k : Int), 0) rfl rfl rfl ?_; intro w1 hm1 ht1)
            have hf3 := HF.out.trans (turned_fr ht1) (fun _ _ h => h)
            clear ht1
            have HM1 := Lib.hid hm1; clear hm1
            have HF3 := Lib.hid hf3; clear hf3
            go_wp2_with fail
            go_roundw
            case rel => exact ⟨k + 1, _, _, by omega, by go_num, by first | rfl | (rw [HSU.out]; simp; done) | go_num, HM1.out, HN3.out, HF3.out⟩
            case measure => simp [intOf]; omega
        · obtain ⟨y, hy, hyl⟩ := within_nat hws
          have hfz : fieldsN p f.objects[k] = p.shapes[y] := by unfold fieldsN; rw [if_pos hws, hy]; simp [hyl]
          rw [hfz] at hsu hfls
          rw [hy] at hx
          obtain ⟨b8, o8, rfl, hd8, a8, c8, hq⟩ := HSH.out y hyl
          have hq := hf.cell hq (by have := HD.out _ hd8; show ¬ b8 = _; omega)
          generalize p.shapes[y] = ny at *
          have hy0 : (0 : Int) ≤ (y : Int) := by omega
          have hy1 : (y : Int) < p.shapes.length := by omega
          clear hws hfz hy
          have i3 : IntKind.i64.wrap ((acc k : Int) + (ny : Int)) = (acc (k + 1) : Int) := by rw [hsu]; exact IntWalk.i64_in _ (by omega)
          have hn3 : (if (g ⟨((j : Int), (k : Int)), HJB.out, hkb⟩).isSome then m else m + 1) ≤ k + 1 := by split <;> omega
          have HSU := Lib.hid hsu
          clear hsu
          have HF := Lib.hid hf; clear hf
          have HN3 := Lib.hid hn3; clear hn3
          have HBR := Lib.hid hbr; clear hbr
          go_wp2_with (refine put_map rfl (.tmp 56) (.tmp 59) (.tmp 62) 90 105 rfl HHN.out HT.out (by have := HMK.out; unfold maxLen; omega) ⟨((j : Int), (k : Int)), HJB.out, hkb⟩ trivial ((acc k : Int), (ny : Int)) rfl rfl rfl ?_; intro w1 hm1 ht1)
          have hf3 := HF.out.trans (turned_fr ht1) (fun _ _ h => h)
          clear ht1
          have HM1 := Lib.hid hm1; clear hm1
          have HF3 := Lib.hid hf3; clear hf3
          go_wp2_with fail
          go_roundw
          case rel => exact ⟨k + 1, _, _, by omega, by go_num, by first | rfl | (rw [HSU.out]; simp; done) | go_num, HM1.out, HN3.out, HF3.out⟩
          case measure => simp [intOf]; omega
      · have hk' : k = f.objects.length := by omega
        subst hk'
        clear hfx hm hf
        have HBR := Lib.hid hbr; clear hbr
        go_wp2_with fail
        go_ret2
        first | exact ⟨_, rfl, HBR.out⟩ | exact HBR.out | exact ⟨⟨_, rfl⟩, HBR.out⟩
set_option maxRecDepth 100000 in
theorem words_any (w : World) (D : Nat → Prop) (hD : ∀ k, D k → k < w.heap.size) (p : TPrg) (c0 c1 c2 : Value) (fn : Int) (hv : PV w D p c0 c1 c2) (hp : PSmall p) :
    Calls Try.prog 23 #[.agg #[c0, c1, c2], .int .i64 fn] w fun e w' => e = .returned (.int .i64 (wordsN p fn)) ∧ Below w.heap.size w w' := by
  have hv0 := hv
  obtain ⟨⟨a0, n0, m0, rfl⟩, ⟨a1, m1, rfl, hsh⟩, a2, m2, rfl, hfn⟩ := hv
  have hb0 := ((Below.refl w.heap.size w).alloc (Nat.le_refl _) (.cells #[.slice a0 n0 m0, .slice a1 p.shapes.length m1, .slice a2 p.funcs.length m2] 27))
  have hq := fun j => cell_new w #[.slice a0 n0 m0, .slice a1 p.shapes.length m1, .slice a2 p.funcs.length m2] 27 (0, 0) j
  obtain ⟨W, hW⟩ : ∃ W, W = (w.alloc (.cells #[.slice a0 n0 m0, .slice a1 p.shapes.length m1, .slice a2 p.funcs.length m2] 27)) := ⟨_, rfl⟩
  rw [← hW] at hb0 hq
  have k0 : W.cell? ⟨w.heap.size, 0, none⟩ = some (.slice a0 n0 m0) := hq 0
  have k1 : W.cell? ⟨w.heap.size, 1, none⟩ = some (.slice a1 p.shapes.length m1) := hq 1
  have k2 : W.cell? ⟨w.heap.size, 2, none⟩ = some (.slice a2 p.funcs.length m2) := hq 2
  have sp := spans_any W D (fun k hk => Nat.lt_of_lt_of_le (hD k hk) hb0.size) p _ _ _ fn (hv0.below hb0) hp
  generalize wordsN p fn = n at *
  have HW := Lib.hid hW
  clear hW hq hsh hfn hv0 hp
  have SP := Lib.hid sp; clear sp
  have HB0 := Lib.hid hb0; clear hb0
  go_enter Try.func23, Try.ntmps23
  go_upto_region 1 with fail
  rw [← HW.out]
  go_wp2_with fail
  refine SP.out.mono ?_
  rintro e w1 ⟨b, rfl, hb1⟩
  have HB1 := Lib.hid (HB0.out.trans (hb1.mono HB0.out.size))
  clear hb1
  go_wp2_with fail
  go_ret
  exact ⟨rfl, HB1.out⟩
set_option maxRecDepth 100000 in
theorem slotF_any (w : World) (fn k : Int) (hk : -1 ≤ k) (hk2 : k ≤ 1000000) :
    Calls Try.prog 47 #[.int .i64 fn, .int .i64 k] w fun e w' => e = .returned (.int .i64 (2 + k)) ∧ w = w' := by
  have i0 : IntKind.i64.wrap (2 + k) = 2 + k := IntWalk.i64_in _ (by omega)
  go_enter Try.func47, Try.ntmps47
  go_wp2_with fail
  go_ret
  exact ⟨rfl, rfl⟩
end Go.Proofs.Ytmanoclahcpaoaa
