/- Walk: check.code: the instructions by their places. -/
import Derived.Test.YtjcjhfnjamphlaaJAl
import Derived.Test.YtjcjhfnjamphlaaJAe
import Derived.BigRegion
set_option linter.unusedVariables false
set_option linter.unusedSimpArgs false
namespace Go.Proofs.Ytjcjhfnjamphlaa
open Go.ChangeShapes Go.WideShapes Go.ChangeAt Go.RowKit Go.Maps
abbrev Pl := { x : Int × Int // i64B x.1 ∧ i64B x.2 }
/-- the first k instructions of C, by their places in function fn -/
def cF (fn : Int) (C : List Ins) (k : Nat) (x : Pl) : Option Ins := if x.1.1 = fn ∧ 0 ≤ x.1.2 ∧ x.1.2 < k then C[x.1.2.toNat]? else none
def codeOf (p : Prg) (fn : Int) : List Ins := if withinB fn p.funcs.length = true then ((p.funcs[fn.toNat]?).map Fun.code).getD [] else []
theorem cF_zero (fn : Int) (C : List Ins) (x : Pl) : (none : Option Ins) = cF fn C 0 x := by
  unfold cF
  rw [if_neg (by omega)]
theorem cF_succ (fn : Int) (C : List Ins) (k : Nat) (hk : k < C.length) (h : i64B fn ∧ i64B (k : Int)) (x : Pl) : upd (cF fn C k) ⟨(fn, (k : Int)), h⟩ (some C[k]) x = cF fn C (k + 1) x := by
  unfold upd
  by_cases he : x = ⟨(fn, (k : Int)), h⟩
  · rw [if_pos he, he]
    unfold cF
    rw [if_pos ⟨rfl, by simp, by show (k : Int) < ((k + 1 : Nat) : Int); omega⟩]
    simp [hk]
  · rw [if_neg he]
    unfold cF
    by_cases h2 : x.1.1 = fn ∧ 0 ≤ x.1.2 ∧ x.1.2 < k
    · rw [if_pos h2, if_pos ⟨h2.1, h2.2.1, by omega⟩]
    · rw [if_neg h2, if_neg]
      rintro ⟨h3, h4, h5⟩
      by_cases h6 : x.1.2 = k
      · apply he
        obtain ⟨⟨x1, x2⟩, hx⟩ := x
        simp at h3 h6
        subst h3 h6
        rfl
      · exact h2 ⟨h3, h4, by omega⟩
def insVal (i : Ins) : Value := .agg #[.int .i64 i.op, .int .i64 i.a, .int .i64 i.b, .int .i64 i.c]
def CodeMap (w : World) (b m : Nat) (f : Pl → Option Ins) : Prop := MapIs plK insVal w b m f
def CodePost (p : Prg) (fn : Int) (w : World) (e : Ending) (w' : World) : Prop :=
  ∃ b m, e = .returned (.map (some b)) ∧ CodeMap w' b m (cF fn (codeOf p fn) (codeOf p fn).length) ∧ w.heap.size ≤ b ∧ Below w.heap.size w w'
set_option maxRecDepth 100000 in
set_option maxHeartbeats 1600000 in
theorem code_any (w : World) (D : Nat → Prop) (p : Prg) (c0 c1 c2 : Value) (fn : Int) (hD : ∀ k, D k → k < w.heap.size) (hv : PrgVal w D p c0 c1 c2) (hfn : i64B fn) (hln : (codeOf p fn).length ≤ 3000) :
    Calls Try.prog 40 #[.agg #[c0, c1, c2], .int .i64 fn] w (CodePost p fn w) := by
  obtain ⟨⟨a0, m0, rfl, _⟩, ⟨a1, m1, rfl, _⟩, a2, m2, rfl, hfs⟩ := hv
  have hb0 := ((Below.refl w.heap.size w).alloc (Nat.le_refl _) (.cells #[.slice a0 p.globals.length m0, .slice a1 p.shapes.length m1, .slice a2 p.funcs.length m2] 26))
  have hmk : CodeMap ((w.alloc (.cells #[.slice a0 p.globals.length m0, .slice a1 p.shapes.length m1, .slice a2 p.funcs.length m2] 26)).alloc (.map #[] 0)) (w.alloc (.cells #[.slice a0 p.globals.length m0, .slice a1 p.shapes.length m1, .slice a2 p.funcs.length m2] 26)).heap.size 0 (fun _ => none) := MapIs.made plK _ _
  have hz1 : (w.alloc (.cells #[.slice a0 p.globals.length m0, .slice a1 p.shapes.length m1, .slice a2 p.funcs.length m2] 26)).heap.size = w.heap.size + 1 := by simp
  rw [hz1] at hmk
  have hb1 := hb0.alloc (by simp) (.map #[] 0)
  have hmake : ∀ w, (Instr.makeMap 83 none).run Try.prog w = .ok (.map (some w.heap.size)) (w.alloc (.map #[] 0)) := fun w => run_makeMap _ w
  have ht : Try.prog.underlying 83 = some (.map plK.k 47) := Try.underlying83
  have q2 : ((w.alloc (.cells #[.slice a0 p.globals.length m0, .slice a1 p.shapes.length m1, .slice a2 p.funcs.length m2] 26)).alloc (.map #[] 0)).cell? ⟨w.heap.size, 2, none⟩ = some (.slice a2 p.funcs.length m2) := by
    rw [cell_under _ _ (by simp), cell_new]; rfl
  obtain ⟨W, hW⟩ : ∃ W, W = (w.alloc (.cells #[.slice a0 p.globals.length m0, .slice a1 p.shapes.length m1, .slice a2 p.funcs.length m2] 26)).alloc (.map #[] 0) := ⟨_, rfl⟩
  rw [← hW] at hmk hb1 q2
  have hfs := hfs.fr (Fr.of_below hb1 (fun _ => False)) (fun _ _ h => h)
  have hm0 : CodeMap W (w.heap.size + 1) 0 (cF fn (codeOf p fn) 0) := hmk.congr (fun a _ => cF_zero fn (codeOf p fn) a)
  have HW := Lib.hid hW
  clear hW hb0 hz1 hmk
  by_cases hin : withinB fn p.funcs.length = true
  case neg =>
    have hc : codeOf p fn = [] := by unfold codeOf; rw [if_neg hin]
    have hP : CodePost p fn w (.returned (.map (some (w.heap.size + 1)))) W := by
      refine ⟨_, 0, rfl, ?_, by omega, hb1⟩
      rw [hc] at hm0 ⊢
      exact hm0
    clear hm0 hc hfs hb1
    have HP := Lib.hid hP; clear hP
    by_cases h0 : 0 ≤ fn
    · have h1 : ¬ fn < p.funcs.length := fun h => hin (by simp [withinB]; omega)
      clear hin
      go_enter Try.func40, Try.ntmps40
      go_upto_region 2 with fail
      rw [← HW.out]
      go_wp2_with fail
      go_ret
      exact HP.out
    · clear hin
      go_enter Try.func40, Try.ntmps40
      go_upto_region 2 with fail
      rw [← HW.out]
      go_wp2_with fail
      go_ret
      exact HP.out
  obtain ⟨j, rfl, hj⟩ : ∃ j : Nat, fn = j ∧ j < p.funcs.length := by
    simp [withinB] at hin
    exact ⟨fn.toNat, by omega, by omega⟩
  have hc : codeOf p (j : Int) = p.funcs[j].code := by unfold codeOf; rw [if_pos hin]; simp [hj]
  obtain ⟨b, o, rfl, _, y0, y1, y2, y3, y4, g0, g1, g2, g3, g4, hfv⟩ := hfs j hj
  obtain ⟨_, _, _, _, e0, e1, rfl, hsc⟩ := hfv
  rw [hc] at hln hm0
  unfold CodePost
  rw [hc]
  clear hc hfs hin g0 g1 g2 g3
  generalize p.funcs[j].code = C at *
  have hj1 : (j : Int) < p.funcs.length := by omega
  have HM0 := Lib.hid hm0; clear hm0
  have HSC := Lib.hid hsc; clear hsc
  have HT := Lib.hid ht; clear ht
  have HB1 := Lib.hid hb1; clear hb1
  have HD := Lib.hid hD; clear hD
  go_enter Try.func40, Try.ntmps40
  go_upto_region 2 with fail
  rw [← HW.out]
  go_wp2_with fail
  go_loopw [25] (fun i wr => ∃ k m : Nat, k ≤ C.length ∧ i = .int .i64 k ∧ CodeMap wr (w.heap.size + 1) m (cF j C k) ∧ m ≤ k ∧ Fr (fun q => q = w.heap.size + 1) W wr) (fun i _ => C.length - (intOf i).toNat)
  case atStart => exact ⟨0, 0, Nat.zero_le _, rfl, HM0.out, Nat.le_refl _, Fr.refl _ _⟩
  case round =>
    obtain ⟨k, m, hk, rfl, hm, hmk, hf⟩ := hrel
    by_cases hlt : k < C.length
    · obtain ⟨b', o', rfl, _, x0, x1, x2, x3⟩ := (HSC.out.fr hf (fun q hq e => by have := HD.out q hq; omega)) k hlt
      have hcs := fun h => cF_succ j C k hlt h
      have hk64 : i64B (k : Int) := ⟨by omega, by omega⟩
      generalize C[k] = x at *
      have hbs := (Below.refl wr.heap.size wr).alloc (Nat.le_refl _) (.cells #[.int .i64 x.op, .int .i64 x.a, .int .i64 x.b, .int .i64 x.c] 47)
      have hly := heap_new wr (.cells #[.int .i64 x.op, .int .i64 x.a, .int .i64 x.b, .int .i64 x.c] 47)
      have hmS := hm.below hbs
      obtain ⟨y, hy⟩ : ∃ y, y = wr.heap.size := ⟨_, rfl⟩
      obtain ⟨wS, hwS⟩ : ∃ wS, wS = wr.alloc (.cells #[.int .i64 x.op, .int .i64 x.a, .int .i64 x.b, .int .i64 x.c] 47) := ⟨_, rfl⟩
      rw [← hwS] at hbs hmS
      rw [← hwS, ← hy] at hly
      have z0 := (row_cell hly 0).1
      have z1 := (row_cell hly 1).1
      have z2 := (row_cell hly 2).1
      have z3 := (row_cell hly 3).1
      have z0 : wS.cell? ⟨y, 0, none⟩ = some (.int .i64 x.op) := z0
      have z1 : wS.cell? ⟨y, 1, none⟩ = some (.int .i64 x.a) := z1
      have z2 : wS.cell? ⟨y, 2, none⟩ = some (.int .i64 x.b) := z2
      have z3 : wS.cell? ⟨y, 3, none⟩ = some (.int .i64 x.c) := z3
      have hfS := hf.trans (Fr.of_below hbs (fun q => q = w.heap.size + 1)) (fun _ _ h => h)
      have HWS := Lib.hid hwS
      have HY := Lib.hid hy
      clear hwS hy hly hm hf hbs
      have HMS := Lib.hid hmS; clear hmS
      have HFS := Lib.hid hfS; clear hfS
      have HCS := Lib.hid hcs; clear hcs
      go_upto_region 6 with fail
      rw [← HWS.out, ← HY.out]
      clear x0 x1 x2 x3
      go_wp2_with (refine put_map rfl (.tmp 30) (.tmp 33) (.tmp 34) 83 47 rfl HMS.out HT.out (by unfold maxLen; omega) ⟨((j : Int), (k : Int)), hfn, hk64⟩ trivial x rfl rfl rfl ?_; intro w1 hm1 ht1)
      have hm3 : CodeMap w1 (w.heap.size + 1) _ (cF j C (k + 1)) := hm1.congr (fun a _ => HCS.out ⟨hfn, hk64⟩ a)
      have hn3 : (if (cF j C k ⟨((j : Int), (k : Int)), hfn, hk64⟩).isSome then m else m + 1) ≤ k + 1 := by split <;> omega
      have hf3 := HFS.out.trans (turned_fr ht1) (fun _ _ h => h)
      clear hm1 ht1
      have HM3 := Lib.hid hm3; clear hm3
      have HN3 := Lib.hid hn3; clear hn3
      have HF3 := Lib.hid hf3; clear hf3
      go_wp2_with fail
      go_roundw
      case rel => exact ⟨k + 1, _, by omega, by go_num, HM3.out, HN3.out, HF3.out⟩
      case measure => simp [intOf]; omega
    · have hk' : k = C.length := by omega
      subst hk'
      have hbf : Below w.heap.size w wr := HB1.out.trans (hf.below HB1.out.size (fun q hq => by omega))
      have HM := Lib.hid hm; clear hm
      have HBF := Lib.hid hbf; clear hbf
      clear hf
      go_wp2_with fail
      go_ret
      exact ⟨_, _, rfl, HM.out, by omega, HBF.out⟩
end Go.Proofs.Ytjcjhfnjamphlaa
