/- Walks: what a task needs; where a slot lies. -/
import Derived.Test.YtmanoclahcpaoaaTkF
namespace Go.Proofs.Ytmanoclahcpaoaa
open Go.ChangeShapes Go.WideShapes Go.ChangeAt Go.RowKit Go.Maps

/-- all frames are of functions that there are -/
def TkIn (p : TPrg) (T : Tk) : Prop := ∀ q ∈ T.parts, withinB q.fn p.funcs.length = true
set_option maxRecDepth 100000 in
set_option maxHeartbeats 1600000 in
theorem need_any (w : World) (F : Nat → Prop) (tb : Nat) (p : TPrg) (T : Tk) (X : TB) (h : TaskAt w F tb p T X) (hp : PSmall p) (ht : TkOk T) (fn : Int) :
    Calls Try.prog 10 #[.pointer (some ⟨tb, 0, none⟩), .int .i64 fn] w fun e w' => e = .returned (.int .i64 (usedN p T + wordsN p fn)) ∧ Below w.heap.size w w' := by
  have us : ∀ W : BelowW w, Calls Try.prog 13 _ W.val _ := fun V => used_any V.val F tb p T X (h.below V.2) hp ht
  have wd : ∀ W : BelowW w, Calls Try.prog 23 _ W.val _ := fun V => words_any V.val X.D (fun k hk => Nat.lt_of_lt_of_le (h.out k hk).2 V.2.size) p X.c0 X.c1 X.c2 fn (h.prg.below V.2) hp
  obtain ⟨q0, q1, q2, _⟩ := h.cells
  obtain ⟨⟨a0, n0, m0, e0⟩, ⟨a1, m1, e1, _⟩, a2, m2, e2, _⟩ := h.prg
  rw [e0, e1, e2] at wd
  rw [e0] at q0
  rw [e1] at q1
  rw [e2] at q2
  have b1 := usedN_le hp ht
  have b2 := wordsN_le hp fn
  have i1 : IntKind.i64.wrap (usedN p T + wordsN p fn) = usedN p T + wordsN p fn := IntWalk.i64_in _ (by omega)
  generalize usedN p T = un at *
  generalize wordsN p fn = wn at *
  have Q0 := fun W : BelowW w => W.cell q0
  have Q1 := fun W : BelowW w => W.cell q1
  have Q2 := fun W : BelowW w => W.cell q2
  clear q0 q1 q2 e0 e1 e2 h hp ht b1 b2
  have US := Lib.hid us; clear us
  have WD := Lib.hid wd; clear wd
  go_enter Try.func10, Try.ntmps10
  go_upto_region 3 with fail
  refine wp_region_below (by kernel_rfl) (by kernel_rfl) ?_
  repeat (go_big_quiet_step (first | (go_at_call 23; exact Calls.below_of (WD.out _)) | (go_at_call 13; exact Calls.below_of (US.out _))))
  refine wpQuiet_nil ?_
  rintro _ ⟨WL, rfl⟩
  have HL := Lib.hid WL.2
  go_wp2_with fail
  go_ret
  exact ⟨rfl, HL.out⟩
def fitsB (p : TPrg) (T : Tk) (fn : Int) (na : Nat) : Bool := withinB fn p.funcs.length && ((p.funcs[fn.toNat]?).map TFun.nargs).getD 0 == na && decide (usedN p T + wordsN p fn ≤ T.words.length)
theorem fitsB_at {p : TPrg} {T : Tk} {j na : Nat} (hj : j < p.funcs.length) : fitsB p T j na = ((p.funcs[j].nargs == na) && decide (usedN p T + wordsN p j ≤ T.words.length)) := by
  unfold fitsB
  rw [show withinB (j : Int) p.funcs.length = true from by simp [withinB]; omega]
  simp [hj]
set_option maxRecDepth 100000 in
set_option maxHeartbeats 1600000 in
theorem fits_any (w : World) (F : Nat → Prop) (tb : Nat) (p : TPrg) (T : Tk) (X : TB) (h : TaskAt w F tb p T X) (hp : PSmall p) (ht : TkOk T) (fn : Int) (a : Option Addr) (na c : Nat) (hna : na ≤ 3000) :
    Calls Try.prog 27 #[.pointer (some ⟨tb, 0, none⟩), .int .i64 fn, .slice a na c] w fun e w' => e = .returned (.bool (fitsB p T fn na)) ∧ Below w.heap.size w w' := by
  have nd := need_any w F tb p T X h hp ht fn
  have cp := fun wr (hw : Below w.heap.size w wr) => cap_any wr F tb p T X (h.below hw)
  obtain ⟨q0, q1, q2, _⟩ := h.cells
  obtain ⟨⟨a0, n0, m0, e0⟩, ⟨a1, m1, e1, _⟩, a2, m2, e2, hfn⟩ := h.prg
  rw [e0] at q0
  rw [e1] at q1
  rw [e2] at q2
  cases hin : withinB fn p.funcs.length
  · have hv : fitsB p T fn na = false := by unfold fitsB; rw [hin]; simp
    rw [hv]
    clear hv hfn h hp ht
    have ND := Lib.hid nd; clear nd
    have CP := Lib.hid cp; clear cp
    by_cases h0 : 0 ≤ fn
    · have h1 : ¬ fn < p.funcs.length := by simp [withinB] at hin; omega
      clear hin
      go_enter Try.func27, Try.ntmps27
      go_wp2_with fail
      go_ret
      exact ⟨rfl, Below.refl _ _⟩
    · clear hin
      go_enter Try.func27, Try.ntmps27
      go_wp2_with fail
      go_ret
      exact ⟨rfl, Below.refl _ _⟩
  · obtain ⟨j, rfl, hj⟩ := within_nat hin
    rw [fitsB_at hj]
    obtain ⟨bb, o, rfl, _, y0, y1, y2, y3, y4, g0, g1, g2, g3, g4, hfv⟩ := hfn j hj
    obtain ⟨⟨e3, e4, rfl⟩, _⟩ := hfv
    have hfp := (hp.2.2.2 p.funcs[j] (List.getElem_mem hj)).1
    generalize p.funcs[j] = f at *
    generalize f.nargs = nf at *
    have hj0 : (0 : Int) ≤ (j : Int) := by omega
    have hj1 : (j : Int) < p.funcs.length := by omega
    clear g1 g2 g3 g4 hin h hp ht e0 e1 e2 hfn
    by_cases hnn : nf = na
    · subst hnn
      have hq : ((nf : Int) == (nf : Int)) = true := by simp
      rw [show (nf == nf) = true from by simp, Bool.true_and]
      generalize usedN p T + (wordsN p (j : Int) : Int) = nn at *
      generalize T.words.length = cl at *
      by_cases hle : nn ≤ (cl : Int)
      · rw [decide_eq_true hle]
        have ND := Lib.hid nd; clear nd
        have CP := Lib.hid cp; clear cp
        go_enter Try.func27, Try.ntmps27
        go_wp2_with fail
        refine ND.out.mono ?_
        rintro e w1 ⟨rfl, hb1⟩
        have HB1 := Lib.hid hb1
        clear hb1
        go_wp2_with fail
        refine (CP.out _ HB1.out).mono ?_
        rintro e w2 ⟨rfl, rfl⟩
        go_wp2_with fail
        go_ret
        first | exact ⟨rfl, HB1.out⟩ | exact ⟨congrArg (fun b => Ending.returned (Value.bool b)) (decide_eq_true (by omega)), HB1.out⟩
      · rw [decide_eq_false hle]
        have ND := Lib.hid nd; clear nd
        have CP := Lib.hid cp; clear cp
        go_enter Try.func27, Try.ntmps27
        go_wp2_with fail
        refine ND.out.mono ?_
        rintro e w1 ⟨rfl, hb1⟩
        have HB1 := Lib.hid hb1
        clear hb1
        go_wp2_with fail
        refine (CP.out _ HB1.out).mono ?_
        rintro e w2 ⟨rfl, rfl⟩
        go_wp2_with fail
        go_ret
        first | exact ⟨rfl, HB1.out⟩ | exact ⟨congrArg (fun b => Ending.returned (Value.bool b)) (decide_eq_false (by omega)), HB1.out⟩
    · have hq : ((na : Int) == (nf : Int)) = false := by rw [beq_eq_false_iff_ne]; omega
      rw [show (nf == na) = false from by simpa using hnn, Bool.false_and]
      clear hnn
      have ND := Lib.hid nd; clear nd
      have CP := Lib.hid cp; clear cp
      go_enter Try.func27, Try.ntmps27
      go_wp2_with fail
      go_ret
      exact ⟨rfl, Below.refl _ _⟩
end Go.Proofs.Ytmanoclahcpaoaa
