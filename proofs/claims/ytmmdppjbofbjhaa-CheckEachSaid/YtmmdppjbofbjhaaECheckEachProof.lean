/- A program has no error just if its shapes, its globals, and each of its functions have none, instruction by instruction. No condition: for every input. -/
import Derived.Test.YtmmdppjbofbjhaaEAs
namespace Go.Proofs.Ytmmdppjbofbjhaa.checkEach
open Go.ChangeShapes Go.WideShapes Go.ChangeAt Go.RowKit

def okA (p : Prg) : Bool := (shapesErr p.shapes == 0) && decide (p.globals.length ≤ 16) && decide (1 ≤ p.funcs.length) && decide (p.funcs.length ≤ 16)
def okG (p : Prg) (k : Nat) : Bool := okA p && (p.globals.take k).all (fieldB · p.shapes.length)
def okF (p : Prg) (k : Nat) : Bool := okG p p.globals.length && (List.range k).all fun i => (funcS p i).1 == 0
def okZ (p : Prg) : Bool := if 0 < p.funcs.length then okF p p.funcs.length && ((p.funcs[0]?).getD fun0).args.length == 0 && ((p.funcs[0]?).getD fun0).result == 0 else okF p p.funcs.length
theorem okG_zero (p : Prg) : okG p 0 = okA p := by unfold okG; simp
theorem okG_succ (p : Prg) (k : Nat) (hk : k < p.globals.length) : okG p (k + 1) = (okG p k && fieldB p.globals[k] p.shapes.length) := by
  unfold okG
  rw [take_snoc _ k hk, List.all_append]
  simp [Bool.and_assoc]
theorem okF_zero (p : Prg) : okF p 0 = okG p p.globals.length := by unfold okF; simp
theorem okF_succ (p : Prg) (k : Nat) : okF p (k + 1) = (okF p k && ((funcS p k).1 == 0)) := by
  unfold okF
  rw [List.range_succ, List.all_append]
  simp [Bool.and_assoc]
theorem okZ_is (p : Prg) : okZ p = decide ((progS p).1 = 0) := by
  have h1 : okF p p.funcs.length = true ↔ (okA p = true ∧ p.globals.all (fieldB · p.shapes.length) = true) ∧ ∀ i, i < p.funcs.length → (funcS p i).1 = 0 := by
    unfold okF okG
    simp [List.take_length]
  have h2 : wholeS p = 0 ↔ (okA p = true ∧ p.globals.all (fieldB · p.shapes.length) = true) ∧ ((p.funcs[0]?).getD fun0).args.length = 0 ∧ ((p.funcs[0]?).getD fun0).result = 0 := by
    unfold wholeS okA
    generalize shapesErr p.shapes = se
    generalize p.globals.all (fieldB · p.shapes.length) = ga
    generalize (p.funcs[0]?).getD fun0 = f
    by_cases a1 : se = 0
    · rw [if_neg (by simpa using a1)]
      by_cases a2 : 16 < p.globals.length ∨ p.funcs.length < 1 ∨ 16 < p.funcs.length
      · rw [if_pos a2]
        simp
        omega
      · rw [if_neg a2]
        cases ga
        · simp
        · simp only [Bool.true_eq_false, if_false]
          by_cases a3 : 0 < f.args.length ∨ f.result ≠ 0
          · rw [if_pos a3]
            simp
            intro _ _ _ _ h
            rcases a3 with a3 | a3
            · simp [h] at a3
            · exact a3
          · rw [if_neg a3]
            simp
            simp at a3
            refine ⟨⟨⟨⟨a1, ?_⟩, ?_⟩, ?_⟩, a3⟩ <;> omega
    · rw [if_pos a1]
      simp [a1]
  rw [Bool.eq_iff_iff, decide_eq_true_eq, progS_zero, h2]
  unfold okZ
  by_cases hn : 0 < p.funcs.length
  · rw [if_pos hn, Bool.and_eq_true, Bool.and_eq_true, h1]
    simp only [beq_iff_eq]
    constructor
    · rintro ⟨⟨⟨a, b⟩, c⟩, d⟩; exact ⟨⟨a, c, d⟩, b⟩
    · rintro ⟨⟨a, c, d⟩, b⟩; exact ⟨⟨⟨a, b⟩, c⟩, d⟩
  · rw [if_neg hn, h1]
    constructor
    · rintro ⟨⟨a, _⟩, _⟩
      unfold okA at a
      simp at a
      exact absurd hn (by omega)
    · rintro ⟨⟨⟨a, _⟩, _⟩, _⟩
      unfold okA at a
      simp at a
      exact absurd hn (by omega)
set_option maxRecDepth 100000 in
set_option maxHeartbeats 3200000 in
theorem walk (w : World) (v : Value) (hv : ∃ (pr : Prg) (c0 c1 c2 : Value), v = .agg #[c0, c1, c2] ∧ PrgVal w (fun k => k < w.heap.size) pr c0 c1 c2 ∧ PrgB pr) :
    Calls Try.prog 16 #[v] w fun e w' => e = .returned (.bool true) ∧ Below w.heap.size w w' := by
  obtain ⟨p, c0, c1, c2, rfl, hp, hpb⟩ := hv
  have hPP : ∀ wr, Below w.heap.size w wr → PrgVal wr (fun k => k < w.heap.size) p c0 c1 c2 := fun wr hb => hp.fr (Fr.of_below hb (fun _ => False)) (fun _ _ h => h)
  obtain ⟨⟨a0, m0, rfl, hg⟩, ⟨a1, m1, rfl, hsh⟩, a2, m2, rfl, hfn⟩ := hp
  have hbx := fun wr h => box1 w #[.slice a0 p.globals.length m0, .slice a1 p.shapes.length m1, .slice a2 p.funcs.length m2] 71 wr h
  have hz0 : (w.alloc (.cells #[.slice a0 p.globals.length m0, .slice a1 p.shapes.length m1, .slice a2 p.funcs.length m2] 71)).heap.size = w.heap.size + 1 := by simp
  obtain ⟨W, hW⟩ : ∃ W, W = (w.alloc (.cells #[.slice a0 p.globals.length m0, .slice a1 p.shapes.length m1, .slice a2 p.funcs.length m2] 71)) := ⟨_, rfl⟩
  rw [← hW] at hbx hz0
  have hs : ∀ wr, Below W.heap.size W wr → wr.cell? ⟨w.heap.size, 0, none⟩ = some (.slice a0 p.globals.length m0) ∧ wr.cell? ⟨w.heap.size, 1, none⟩ = some (.slice a1 p.shapes.length m1) ∧ wr.cell? ⟨w.heap.size, 2, none⟩ = some (.slice a2 p.funcs.length m2) := fun wr h => by
    rw [hz0] at h
    have hb := hbx wr h
    exact ⟨hb.1 0 _ rfl, hb.1 1 _ rfl, hb.1 2 _ rfl⟩
  have hbw : ∀ wr, Below W.heap.size W wr → Below w.heap.size w wr := fun wr h => by rw [hz0] at h; exact (hbx wr h).2.1
  have hw0 := Below.refl W.heap.size W
  have al := alive11
  have sm := small_any W _ p _ _ _ (hPP W (hbw W hw0))
  obtain ⟨k0, k1, k2⟩ := hs W hw0
  have HW := Lib.hid hW
  clear hW hbx hz0
  by_cases hsm : bulk p ≤ 3000
  case neg =>
    rw [decide_eq_false hsm] at sm
    clear hPP hg hsh hfn hs hpb hsm
    have AL := Lib.hid al; clear al
    have SM := Lib.hid sm; clear sm
    have HBW := Lib.hid hbw; clear hbw
    have HW0 := Lib.hid hw0; clear hw0
    go_enter Try.func16, Try.ntmps16
    go_upto_region 1 with fail
    rw [← HW.out]
    go_wp2_with fail
    refine SM.out.mono ?_
    rintro e w1 ⟨rfl, hb1⟩
    have HB1 := Lib.hid hb1; clear hb1 k0 k1 k2
    go_wp2_with fail
    refine (AL.out _).mono ?_
    rintro e w2 ⟨rfl, hb2⟩
    have HB2 := Lib.hid (HBW.out _ (HB1.out.trans (hb2.mono HB1.out.size))); clear hb2
    go_wp2_with fail
    go_ret
    exact ⟨rfl, HB2.out⟩
  rw [decide_eq_true hsm] at sm
  have hpr := prgR_of hsm
  obtain ⟨q0, q1, q2, q3, q4⟩ := hpr
  have hg : ∀ wr, Below W.heap.size W wr → IntSl wr (fun k => k < w.heap.size) a0 p.globals := fun wr h => hg.fr (Fr.of_below (hbw wr h) (fun _ => False)) (fun _ _ h => h)
  have hfn : ∀ wr, Below W.heap.size W wr → FnSl wr (fun k => k < w.heap.size) a2 p.funcs := fun wr h => hfn.fr (Fr.of_below (hbw wr h) (fun _ => False)) (fun _ _ h => h)
  have rs := fun wr (h : Below W.heap.size W wr) => rshapes_any wr (fun k => k < w.heap.size) a1 p.shapes m1 (hsh.fr (Fr.of_below (hbw wr h) (fun _ => False)) (fun _ _ h => h)) q1 q3
  have rf := fun (wr : World) (x : Int) => rfield_any wr x p.shapes.length (by omega)
  have pg := fun wr (h : Below W.heap.size W wr) => progC_any wr (fun k => k < w.heap.size) (fun k hk => Nat.lt_of_lt_of_le hk (hbw wr h).size) p _ _ _ (hPP wr (hbw wr h)) hpb (prgR_of hsm)
  have fu := fun wr (h : Below W.heap.size W wr) (k : Nat) => funcC_any wr (fun k => k < w.heap.size) (fun k hk => Nat.lt_of_lt_of_le hk (hbw wr h).size) p _ _ _ (hPP wr (hbw wr h)) hpb (prgR_of hsm) k
  have ins := fun wr (h : Below W.heap.size W wr) (k j : Nat) (hk : k ≤ 3000) (hj : j ≤ 3000) => instrC_any wr (fun k => k < w.heap.size) p _ _ _ k j (fun k hk => Nat.lt_of_lt_of_le hk (hbw wr h).size) (hPP wr (hbw wr h)) (by unfold i64B; omega) (by unfold i64B; omega) (codeOf_len (prgR_of hsm) _) (calleeG_len (prgR_of hsm)) (slots_lt hpb)
  have fin := okZ_is p
  unfold ProgPost at pg
  generalize progS p = ps at *
  obtain ⟨pe, px, py⟩ := ps
  dsimp only at pg fin
  clear hPP hsh hpb q3 hsm
  have AL := Lib.hid al; clear al
  have SM := Lib.hid sm; clear sm
  have HBW := Lib.hid hbw; clear hbw
  have HW0 := Lib.hid hw0; clear hw0
  have HS := Lib.hid hs; clear hs
  have HG := Lib.hid hg; clear hg
  have HFN := Lib.hid hfn; clear hfn
  have RS := Lib.hid rs; clear rs
  have RF := Lib.hid rf; clear rf
  have PG := Lib.hid pg; clear pg
  have FU := Lib.hid fu; clear fu
  have INS := Lib.hid ins; clear ins
  have FIN := Lib.hid fin; clear fin
  go_enter Try.func16, Try.ntmps16
  go_upto_region 1 with fail
  rw [← HW.out]
  go_wp2_with fail
  refine SM.out.mono ?_
  rintro e w1 ⟨rfl, hb1⟩
  have HB1 := Lib.hid hb1; clear hb1 k0 k1 k2
  go_wp2_with fail
  refine (AL.out _).mono ?_
  rintro e w2 ⟨rfl, hb2⟩
  have hb2 := HB1.out.trans (hb2.mono HB1.out.size)
  obtain ⟨k0, k1, k2⟩ := HS.out w2 hb2
  have HB2 := Lib.hid hb2; clear hb2
  go_wp2_with fail
  refine (PG.out w2 HB2.out).mono ?_
  rintro e w3 ⟨rfl, hb3⟩
  have hb3 := HB2.out.trans (hb3.mono HB2.out.size)
  have hb4 := hb3.alloc hb3.size (.cells #[.int .i64 px, .int .i64 py] 88)
  clear k0 k1 k2 hb3
  go_upto_region 4 with fail
  obtain ⟨Y, hY⟩ : ∃ Y, Y = w3.alloc (.cells #[.int .i64 px, .int .i64 py] 88) := ⟨_, rfl⟩
  rw [← hY] at hb4 ⊢
  clear hY
  obtain ⟨k0, k1, k2⟩ := HS.out Y hb4
  have hokA : okA p = ((shapesErr p.shapes == 0) && decide (p.globals.length ≤ 16) && decide (1 ≤ p.funcs.length) && decide (p.funcs.length ≤ 16)) := rfl
  have rs := RS.out Y hb4
  have HB4 := Lib.hid hb4; clear hb4
  go_cut [5] (fun s wx => s = .bool (okA p) ∧ wx = Y)
  case first =>
    generalize shapesErr p.shapes = se at *
    by_cases hse : se = 0
    case neg =>
      have hs1 : (se == 0) = false := by simpa using hse
      rw [hs1] at hokA
      have he0 : okA p = false := by rw [hokA]; rfl
      clear hokA hse
      have RS := Lib.hid rs; clear rs
      have HE0 := Lib.hid he0; clear he0
      go_wp2_with fail
      refine RS.out.mono ?_
      rintro e w' ⟨rfl, rfl⟩
      go_wp2_with fail
      go_meet
      case rel => exact ⟨by rw [HE0.out] <;> (try simp) <;> (try omega), by first | rfl | trivial⟩
    subst hse
    generalize hgl : p.globals.length = gl at *
    generalize hfl : p.funcs.length = fl at *
    by_cases c1 : gl ≤ 16
    case neg =>
      have he0 : okA p = false := by rw [hokA]; simp [c1]
      have c1' : ¬ (gl : Int) ≤ 16 := by omega
      clear hokA
      have RS := Lib.hid rs; clear rs
      have HE0 := Lib.hid he0; clear he0
      go_wp2_with fail
      refine RS.out.mono ?_
      rintro e w' ⟨rfl, rfl⟩
      go_wp2_with fail
      go_meet
      case rel => exact ⟨by rw [HE0.out] <;> (try simp) <;> (try omega), by first | rfl | trivial⟩
    by_cases c2 : 1 ≤ fl
    case neg =>
      have he0 : okA p = false := by rw [hokA]; simp [c2]
      have c1' : (gl : Int) ≤ 16 := by omega
      have c2' : ¬ (1 : Int) ≤ (fl : Int) := by omega
      clear hokA
      have RS := Lib.hid rs; clear rs
      have HE0 := Lib.hid he0; clear he0
      go_wp2_with fail
      refine RS.out.mono ?_
      rintro e w' ⟨rfl, rfl⟩
      go_wp2_with fail
      go_meet
      case rel => exact ⟨by rw [HE0.out] <;> (try simp) <;> (try omega), by first | rfl | trivial⟩
    have c1' : (gl : Int) ≤ 16 := by omega
    have c2' : (1 : Int) ≤ (fl : Int) := by omega
    by_cases c3 : fl ≤ 16
    case neg =>
      have he0 : okA p = false := by rw [hokA]; simp [c3]
      have c3' : ¬ (fl : Int) ≤ 16 := by omega
      clear hokA
      have RS := Lib.hid rs; clear rs
      have HE0 := Lib.hid he0; clear he0
      go_wp2_with fail
      refine RS.out.mono ?_
      rintro e w' ⟨rfl, rfl⟩
      go_wp2_with fail
      go_meet
      case rel => exact ⟨by rw [HE0.out] <;> (try simp) <;> (try omega), by first | rfl | trivial⟩
    have he0 : okA p = true := by rw [hokA]; simp [c1, c2, c3]
    have c3' : (fl : Int) ≤ 16 := by omega
    clear hokA
    have RS := Lib.hid rs; clear rs
    have HE0 := Lib.hid he0; clear he0
    go_wp2_with fail
    refine RS.out.mono ?_
    rintro e w' ⟨rfl, rfl⟩
    go_wp2_with fail
    go_meet
    case rel => exact ⟨by rw [HE0.out] <;> (try simp) <;> (try omega), by first | rfl | trivial⟩
  case rest =>
    obtain ⟨rfl, rfl⟩ := hcut
    clear rs hokA
    have hz0 := okG_zero p
    rw [← hz0]
    have HZ0 := Lib.hid hz0; clear hz0
    go_wp2_with fail
    clear k0 k1 k2
    go_loopw [5, 6] (fun o i wr => ∃ k : Nat, k ≤ p.globals.length ∧ o = .bool (okG p k) ∧ i = .int .i64 k ∧ Below W.heap.size W wr) (fun _ i _ => p.globals.length - (intOf i).toNat)
    case atStart => exact ⟨0, Nat.zero_le _, rfl, rfl, HB4.out⟩
    case round =>
      obtain ⟨k, hk, rfl, rfl, hR⟩ := hrel
      obtain ⟨k0, k1, k2⟩ := HS.out wr hR
      by_cases hlt : k < p.globals.length
      · obtain ⟨b', o', rfl, _, hx⟩ := HG.out wr hR k hlt
        have hsu := okG_succ p k hlt
        generalize p.globals[k] = x at *
        cases hb : okG p k
        · rw [hb, Bool.false_and] at hsu
          clear hb hx
          have HSU := Lib.hid hsu; clear hsu
          have HR := Lib.hid hR; clear hR
          go_upto_region 8 with fail
          go_quiet (fail)
          go_wp2_with fail
          go_roundw
          case rel => exact ⟨k + 1, by omega, by rw [HSU.out], by go_num, below_drewN HR.out _⟩
          case measure => simp [intOf]; omega
        · rw [hb, Bool.true_and] at hsu
          have rf := fun w => RF.out w x
          generalize fieldB x p.shapes.length = fb at *
          clear hb
          have HSU := Lib.hid hsu; clear hsu
          have HR := Lib.hid hR; clear hR
          have RF := Lib.hid rf; clear rf
          go_upto_region 8 with fail
          go_quiet ((go_at_call 68; exact Calls.quiet_of_same ((RF.out _).mono fun _ _ ⟨a, b⟩ => ⟨a, b.symm⟩)))
          go_wp2_with fail
          go_roundw
          case rel => exact ⟨k + 1, by omega, by rw [HSU.out], by go_num, below_drewN HR.out _⟩
          case measure => simp [intOf]; omega
      · have hk' : k = p.globals.length := by omega
        subst hk'
        have hz1 := okF_zero p
        rw [← hz1]
        have HZ1 := Lib.hid hz1; clear hz1
        have HR := Lib.hid hR; clear hR
        go_wp2_with fail
        clear k0 k1 k2
        go_loopw [5, 7] (fun o i wr => ∃ k : Nat, k ≤ p.funcs.length ∧ o = .bool (okF p k) ∧ i = .int .i64 k ∧ Below W.heap.size W wr) (fun _ i _ => p.funcs.length - (intOf i).toNat)
        case atStart => exact ⟨0, Nat.zero_le _, rfl, rfl, HR.out⟩
        case round =>
          obtain ⟨k, hk, rfl, rfl, hR2⟩ := hrel
          generalize wr = wo at *
          obtain ⟨k0, k1, k2⟩ := HS.out wo hR2
          by_cases hlt : k < p.funcs.length
          · obtain ⟨bb, o, rfl, _, y0, y1, y2, y3, y4, g0, g1, g2, g3, g4, hfv⟩ := HFN.out W HW0.out k hlt
            obtain ⟨rfl, rfl, _, _, e4, e5, rfl, _⟩ := hfv
            have hcd : ∀ wz, Below W.heap.size W wz → wz.cell? ⟨bb, o + k * 5 + 4, none⟩ = some (.slice e4 p.funcs[k].code.length e5) := fun wz h => below_cell h g4
            have hcl := (q4 p.funcs[k] (List.getElem_mem hlt)).2.2
            have hsu := okF_succ p k
            have fu := FU.out wo hR2 k
            have hfz : (funcS p k).1 = 0 → ∀ j, j < p.funcs[k].code.length → instrE p k j = 0 := fun h => by rw [funcS_at k hlt] at h; exact funF_zero h
            unfold FuncPost at fu
            generalize placeS p k = pl at *
            obtain ⟨pl1, pl2⟩ := pl
            generalize funcS p k = fs at *
            obtain ⟨fe, fm⟩ := fs
            generalize p.funcs[k].code.length = cl at *
            dsimp only at fu hsu hfz
            clear g0 g1 g2 g3 g4
            have FU := Lib.hid fu; clear fu
            have HFZ := Lib.hid hfz; clear hfz
            have HCD := Lib.hid hcd; clear hcd
            have HR2 := Lib.hid hR2; clear hR2
            have HSU := Lib.hid hsu; clear hsu
            go_wp2_with fail
            refine FU.out.mono ?_
            rintro e w9 ⟨rfl, hb9⟩
            have hR9 := HR2.out.trans (hb9.mono HR2.out.size)
            have hR10 := hR9.alloc hR9.size (.cells #[.int .i64 pl1, .int .i64 pl2] 88)
            clear hb9 hR9
            have HR10 := Lib.hid hR10; clear hR10
            have hsu := HSU.out
            clear HSU
            by_cases hfe : fe = 0
            · subst hfe
              cases hb : okF p k
              · have hsu : okF p (k + 1) = false := by rw [hsu, hb]; rfl
                clear hb
                have HSU := Lib.hid hsu; clear hsu
                go_wp2_with fail
                go_loopw [10] (fun i wr => ∃ j : Nat, j ≤ cl ∧ i = .int .i64 j ∧ Below W.heap.size W wr) (fun i _ => cl - (intOf i).toNat)
                case atStart => exact ⟨0, Nat.zero_le _, rfl, HR10.out⟩
                case round =>
                  obtain ⟨j, hj, rfl, hR3⟩ := hrel
                  clear k0 k1 k2
                  obtain ⟨k0, k1, k2⟩ := HS.out wr hR3
                  have g4 := HCD.out wr hR3
                  by_cases hlj : j < cl
                  · have inq := INS.out wr hR3 k j (by omega) (by omega)
                    rw [HFZ.out (by trivial) j hlj] at inq
                    have INQ := Lib.hid inq; clear inq
                    have HR3 := Lib.hid hR3; clear hR3
                    go_wp2_with fail
                    refine INQ.out.mono ?_
                    rintro e w11 ⟨rfl, hb11⟩
                    have hR4 := HR3.out.trans (hb11.mono HR3.out.size)
                    clear hb11
                    have HR4 := Lib.hid hR4; clear hR4
                    go_wp2_with fail
                    go_roundw
                    case rel => exact ⟨j + 1, by omega, by go_num, HR4.out⟩
                    case measure => simp [intOf]; omega
                  · have hj' : j = cl := by omega
                    subst hj'
                    have HR3 := Lib.hid hR3; clear hR3
                    go_wp2_with fail
                    go_roundw
                    case rel => exact ⟨k + 1, by omega, by rw [HSU.out], by go_num, HR3.out⟩
                    case measure => simp [intOf]; omega
              · have hsu : okF p (k + 1) = true := by rw [hsu, hb]; rfl
                clear hb
                have HSU := Lib.hid hsu; clear hsu
                go_wp2_with fail
                go_loopw [10] (fun i wr => ∃ j : Nat, j ≤ cl ∧ i = .int .i64 j ∧ Below W.heap.size W wr) (fun i _ => cl - (intOf i).toNat)
                case atStart => exact ⟨0, Nat.zero_le _, rfl, HR10.out⟩
                case round =>
                  obtain ⟨j, hj, rfl, hR3⟩ := hrel
                  clear k0 k1 k2
                  obtain ⟨k0, k1, k2⟩ := HS.out wr hR3
                  have g4 := HCD.out wr hR3
                  by_cases hlj : j < cl
                  · have inq := INS.out wr hR3 k j (by omega) (by omega)
                    rw [HFZ.out (by trivial) j hlj] at inq
                    have INQ := Lib.hid inq; clear inq
                    have HR3 := Lib.hid hR3; clear hR3
                    go_wp2_with fail
                    refine INQ.out.mono ?_
                    rintro e w11 ⟨rfl, hb11⟩
                    have hR4 := HR3.out.trans (hb11.mono HR3.out.size)
                    clear hb11
                    have HR4 := Lib.hid hR4; clear hR4
                    go_wp2_with fail
                    go_roundw
                    case rel => exact ⟨j + 1, by omega, by go_num, HR4.out⟩
                    case measure => simp [intOf]; omega
                  · have hj' : j = cl := by omega
                    subst hj'
                    have HR3 := Lib.hid hR3; clear hR3
                    go_wp2_with fail
                    go_roundw
                    case rel => exact ⟨k + 1, by omega, by rw [HSU.out], by go_num, HR3.out⟩
                    case measure => simp [intOf]; omega
            · have hf1 : (fe == 0) = false := by simpa using hfe
              clear hfe
              cases hb : okF p k
              · have hsu : okF p (k + 1) = false := by rw [hsu, hb]; rfl
                clear hb
                have HSU := Lib.hid hsu; clear hsu
                go_wp2_with fail
                go_loopw [10] (fun i wr => i = .int .i64 0 ∧ Below W.heap.size W wr) (fun _ _ => 0)
                case atStart => exact ⟨rfl, HR10.out⟩
                case round =>
                  obtain ⟨rfl, hR3⟩ := hrel
                  clear k0 k1 k2
                  obtain ⟨k0, k1, k2⟩ := HS.out wr hR3
                  have g4 := HCD.out wr hR3
                  by_cases hlj : cl = 0
                  · subst hlj
                    have HR3 := Lib.hid hR3; clear hR3
                    go_wp2_with fail
                    go_roundw
                    case rel => exact ⟨k + 1, by omega, by rw [HSU.out], by go_num, HR3.out⟩
                    case measure => simp [intOf]; omega
                  · have hlk : 0 < cl := by omega
                    have hll : (0 : Int) < (cl : Int) := by omega
                    have HR3 := Lib.hid hR3; clear hR3
                    go_wp2_with fail
                    go_roundw
                    case rel => exact ⟨k + 1, by omega, by rw [HSU.out], by go_num, HR3.out⟩
                    case measure => simp [intOf]; omega
              · have hsu : okF p (k + 1) = false := by rw [hsu, hb, hf1]; rfl
                clear hb
                have HSU := Lib.hid hsu; clear hsu
                go_wp2_with fail
                go_loopw [10] (fun i wr => i = .int .i64 0 ∧ Below W.heap.size W wr) (fun _ _ => 0)
                case atStart => exact ⟨rfl, HR10.out⟩
                case round =>
                  obtain ⟨rfl, hR3⟩ := hrel
                  clear k0 k1 k2
                  obtain ⟨k0, k1, k2⟩ := HS.out wr hR3
                  have g4 := HCD.out wr hR3
                  by_cases hlj : cl = 0
                  · subst hlj
                    have HR3 := Lib.hid hR3; clear hR3
                    go_wp2_with fail
                    go_roundw
                    case rel => exact ⟨k + 1, by omega, by rw [HSU.out], by go_num, HR3.out⟩
                    case measure => simp [intOf]; omega
                  · have hlk : 0 < cl := by omega
                    have hll : (0 : Int) < (cl : Int) := by omega
                    have HR3 := Lib.hid hR3; clear hR3
                    go_wp2_with fail
                    go_roundw
                    case rel => exact ⟨k + 1, by omega, by rw [HSU.out], by go_num, HR3.out⟩
                    case measure => simp [intOf]; omega
          · have hk' : k = p.funcs.length := by omega
            subst hk'
            have fin := FIN.out
            have hbf := HBW.out wo hR2
            have hf0 := HFN.out wo hR2 0
            unfold okZ at fin
            clear hlt hk FIN
            by_cases hn : 0 < p.funcs.length
            · obtain ⟨b2, o2, rfl, _, y0, y1, y2, y3, y4, g0, g1, g2, g3, g4, hfv⟩ := hf0 hn
              obtain ⟨rfl, rfl, ⟨e0, e1, rfl, _⟩, _⟩ := hfv
              rw [if_pos hn, show (p.funcs[0]?).getD fun0 = p.funcs[0] from by simp [hn]] at fin
              generalize p.funcs[0] = f at *
              simp only [Nat.zero_mul, Nat.add_zero] at g0 g1 g2 g3 g4
              clear g2 g3 g4 hf0
              generalize okF p p.funcs.length = ob at *
              generalize p.funcs.length = fl at *
              have hn1 : (0 : Int) < (fl : Int) := by omega
              generalize f.args.length = la at *
              generalize f.result = fr at *
              have HBF := Lib.hid hbf
              clear hbf hR2
              cases ob
              · have hpe : (pe == 0) = false := by
                  simp at fin
                  simpa using fin
                clear fin
                go_upto_region 20 with fail
                go_wp2_with fail
                go_ret
                exact ⟨rfl, HBF.out⟩
              · by_cases hla : la = 0
                · subst hla
                  by_cases hfr : fr = 0
                  · subst hfr
                    have hpe : pe = 0 := by simpa using fin
                    subst hpe
                    clear fin
                    go_upto_region 20 with fail
                    go_wp2_with fail
                    go_ret
                    exact ⟨rfl, HBF.out⟩
                  · have hf1 : (fr == 0) = false := by simpa using hfr
                    have hpe : (pe == 0) = false := by
                      rw [hf1] at fin
                      simp at fin
                      simpa using fin
                    clear fin hfr
                    go_upto_region 20 with fail
                    go_wp2_with fail
                    go_ret
                    exact ⟨rfl, HBF.out⟩
                · have hf1 : ((la : Int) == 0) = false := by simpa using hla
                  have hf2 : (la == 0) = false := by simpa using hla
                  have hpe : (pe == 0) = false := by
                    rw [hf2] at fin
                    simp at fin
                    simpa using fin
                  clear fin
                  go_upto_region 20 with fail
                  go_wp2_with fail
                  go_ret
                  exact ⟨rfl, HBF.out⟩
            · rw [if_neg hn] at fin
              have HBF := Lib.hid hbf
              clear hbf hR2 hf0
              generalize okF p p.funcs.length = ob at *
              generalize p.funcs.length = fl at *
              have hn0 : fl = 0 := by omega
              subst hn0
              by_cases hpe : pe = 0
              · subst hpe
                simp at fin
                subst fin
                go_wp2_with fail
                go_ret
                exact ⟨rfl, HBF.out⟩
              · have hp1 : (pe == 0) = false := by simpa using hpe
                simp [hpe] at fin
                subst fin
                go_wp2_with fail
                go_ret
                exact ⟨rfl, HBF.out⟩
theorem own : ownKnob Try.prog.godebug = none := by kernel_rfl
theorem laidOut : laidOutB Try.prog = true := by kernel_rfl
set_option maxRecDepth 100000 in
theorem lifted (os : Os) (started : os.Started) (H : Type) (enc : TypeId × Value → H) :
    ReturnsInHanded {} Try.checked os 16 .any (Rows.checkEachSpec.pre6 enc Try.prog Try.f16 Rows.checkEachRow.domain false) (Rows.checkEachSpec.post enc Try.prog Try.f16 false true false false) := by
  refine returnsInHanded_of_change (C := Try.checked) own started (by kernel_rfl) Try.func16
    (ChangeSpec.witness6 (enc := enc) (C := Try.checked) false ⟨#[], #[.agg #[.slice none 0 0, .slice none 0 0, .slice none 0 0]], []⟩ 8 (by kernel_rfl) (by kernel_rfl) (by kernel_rfl) (by kernel_rfl)) ?_
  intro W base args ds gs before hval0 hW hcnd _
  have hval : ∀ (j : Nat) t v, Try.f16.params[j]? = some t → args[j]? = some v → Value.okWide Try.prog W .any base t v := hval0
  have hW' := hW
  obtain ⟨p, q, hA0, hV, rfl, hfz, hnd⟩ := hW
  have hA : DataW.TrodAll enc Try.prog W 0 (fun _ => true) true Try.f16.params.toList args.toList ds p := hA0
  rw [Try.params16] at hA hval
  obtain ⟨v0, vs0, d0, ds0, p0, q0, hargs, rfl, rfl, h0, r0⟩ := trodAll_cons hA
  obtain ⟨rfl, rfl, rfl⟩ := trodAll_nil r0
  obtain rfl : args = #[v0] := by cases args; simp_all
  have w0 := open_programB (hval 0 71 v0 rfl rfl) h0
  clear hA0 hval0
  simp only [List.append_nil] at hW'
  refine (walk W v0 w0).mono fun e W' ⟨he, hb⟩ => ?_
  subst he
  exact ⟨_, rfl, law_post laidOut (by kernel_rfl) rfl Try.underlying4 hW' rfl (fun ds h => by match ds, h with | [_], _ => rfl) hb⟩
theorem over : Rows.checkEachRow.holds Try.pinned (OpenSpec.ofChange Rows.checkEachSpec) :=
  OpenClaim.holds_of_wide 16 Try.f16 rfl rfl rfl rfl rfl rfl rfl ⟨rfl, rfl, rfl, rfl, rfl⟩ rfl rfl rfl rfl rfl (by kernel_rfl) Try.func16 (by kernel_rfl)
    (of_decide_eq_true (by kernel_rfl)) (by unfold Func.isWrapper; first | (rw [if_pos (by decide +kernel)]; kernel_rfl) | (rw [if_neg (by decide +kernel)]; exact ⟨rfl, rfl⟩))
    (fun os started H enc _ => lifted os started H enc)
theorem proved : Rows.CheckEachSaid := over
#print axioms proved
end Go.Proofs.Ytmmdppjbofbjhaa.checkEach
