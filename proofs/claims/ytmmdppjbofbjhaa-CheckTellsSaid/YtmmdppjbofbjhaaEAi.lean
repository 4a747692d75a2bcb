/- Walk: besomref1.Same. Walk: the first call of chapter 10's statements. What comes in: a program. The bytes of a program: what is laid is read again. Nothing of the program's text stands here. -/
import Derived.Test.YtmmdppjbofbjhaaEAh
import Derived.Test.YtmmdppjbofbjhaaEAg
import Derived.BigRegion
import Derived.Deep.DeepCutAuto
import Derived.Test.YtmmdppjbofbjhaaEAf
import Derived.Lib.SmallJoins
namespace Go.Proofs.Ytmmdppjbofbjhaa
open Go.ChangeShapes Go.WideShapes Go.ChangeAt Go.RowKit

/-- two instructions, compared -/
theorem ins_eq_run (x y : Ins) (w : World) : (Op.equalIn 10000 58 (.agg #[.int .i64 x.op, .int .i64 x.a, .int .i64 x.b, .int .i64 x.c]) (.agg #[.int .i64 y.op, .int .i64 y.a, .int .i64 y.b, .int .i64 y.c])).run Try.prog w = .ok (decide (x = y)) w := by
  obtain ⟨x0, x1, x2, x3⟩ := x
  obtain ⟨y0, y1, y2, y3⟩ := y
  by_cases h0 : x0 = y0
  · by_cases h1 : x1 = y1
    · by_cases h2 : x2 = y2
      · by_cases h3 : x3 = y3
        · subst h0 h1 h2 h3; go_simp
        · subst h0 h1 h2
          have : (x3 == y3) = false := by simpa using h3
          go_simp
      · subst h0 h1
        have : (x2 == y2) = false := by simpa using h2
        go_simp
    · subst h0
      have : (x1 == y1) = false := by simpa using h1
      go_simp
  · have : (x0 == y0) = false := by simpa using h0
    go_simp
set_option maxRecDepth 100000 in
set_option maxHeartbeats 3200000 in
theorem rsame_any (w : World) (D D' : Nat → Prop) (p q : Prg) (c0 c1 c2 d0 d1 d2 : Value) (hp : PrgVal w D p c0 c1 c2) (hq : PrgVal w D' q d0 d1 d2) (hnp : PrgOk p) (hnq : PrgOk q) :
    Calls Try.prog 62 #[.agg #[c0, c1, c2], .agg #[d0, d1, d2]] w fun e w' => e = .returned (.bool (decide (p = q))) ∧ Below w.heap.size w w' := by
  have hpq := prg_eq p q
  rw [hpq]
  clear hpq
  obtain ⟨⟨a0, m0, rfl, hs0⟩, ⟨a1, m1, rfl, hs1⟩, a2, m2, rfl, hs2⟩ := hp
  obtain ⟨⟨b0, n0, rfl, ht0⟩, ⟨b1, n1, rfl, ht1⟩, b2, n2, rfl, ht2⟩ := hq
  have hsh : ∀ x ∈ p.shapes, x.length ≤ 1000000 := fun x hx => by have := sum_mem shBulk p.shapes x hx; unfold PrgOk bulk at hnp; unfold shBulk at *; omega
  have hsh' : ∀ x ∈ q.shapes, x.length ≤ 1000000 := fun x hx => by have := sum_mem shBulk q.shapes x hx; unfold PrgOk bulk at hnq; unfold shBulk at *; omega
  have hfn : ∀ x ∈ p.funcs, fnBulk x ≤ 1000000 := fun x hx => by have := sum_mem fnBulk p.funcs x hx; unfold PrgOk bulk at hnp; omega
  have hfn' : ∀ x ∈ q.funcs, fnBulk x ≤ 1000000 := fun x hx => by have := sum_mem fnBulk q.funcs x hx; unfold PrgOk bulk at hnq; omega
  unfold PrgOk bulk at hnp hnq
  have i0 : ∀ wr, Below w.heap.size w wr → Calls Try.prog 123 #[.slice a0 p.globals.length m0, .slice b0 q.globals.length n0] wr fun e w' => e = .returned (.bool (decide (p.globals = q.globals))) ∧ Below wr.heap.size wr w' := fun wr hb =>
    Calls.drawn (rints_any wr D D' a0 b0 _ _ m0 n0 (hs0.fr (Fr.of_below hb (fun _ => False)) (fun _ _ h => h)) (ht0.fr (Fr.of_below hb (fun _ => False)) (fun _ _ h => h)) (by omega) (by omega))
  have hbx := box2 w #[.slice a0 p.globals.length m0, .slice a1 p.shapes.length m1, .slice a2 p.funcs.length m2] #[.slice b0 q.globals.length n0, .slice b1 q.shapes.length n1, .slice b2 q.funcs.length n2] 71 71
  have hB0 : Below w.heap.size w ((w.alloc (.cells #[.slice a0 p.globals.length m0, .slice a1 p.shapes.length m1, .slice a2 p.funcs.length m2] 71)).alloc (.cells #[.slice b0 q.globals.length n0, .slice b1 q.shapes.length n1, .slice b2 q.funcs.length n2] 71)) := ((Below.refl _ _).alloc (Nat.le_refl _) _).alloc (by simp) _
  obtain ⟨W0, hW0⟩ : ∃ W0, W0 = (w.alloc (.cells #[.slice a0 p.globals.length m0, .slice a1 p.shapes.length m1, .slice a2 p.funcs.length m2] 71)).alloc (.cells #[.slice b0 q.globals.length n0, .slice b1 q.shapes.length n1, .slice b2 q.funcs.length n2] 71) := ⟨_, rfl⟩
  rw [← hW0] at hbx hB0
  have hz0 : W0.heap.size = w.heap.size + 2 := by rw [hW0]; simp
  have hlp : p.shapes.length ≤ 1000000 ∧ p.funcs.length ≤ 1000000 := by omega
  have hlq : q.shapes.length ≤ 1000000 ∧ q.funcs.length ≤ 1000000 := by omega
  obtain ⟨hlp1, hlp2⟩ := hlp
  obtain ⟨hlq1, hlq2⟩ := hlq
  clear hnp hnq hs0 ht0
  generalize hu0 : decide (p.globals = q.globals) = u0 at *
  generalize hu1 : decide (p.shapes = q.shapes) = u1 at *
  generalize hu2 : decide (p.funcs = q.funcs) = u2 at *
  clear hu0
  have HU1 := Lib.hid hu1; clear hu1
  have HU2 := Lib.hid hu2; clear hu2
  have HSH := Lib.hid hsh; clear hsh
  have HSH' := Lib.hid hsh'; clear hsh'
  have HFN := Lib.hid hfn; clear hfn
  have HFN' := Lib.hid hfn'; clear hfn'
  have I0 := Lib.hid i0; clear i0
  have HBX := Lib.hid hbx; clear hbx
  have HB0 := Lib.hid hB0; clear hB0
  have HW0 := Lib.hid hW0; clear hW0
  have HZ0 := Lib.hid hz0; clear hz0
  have HS1 := Lib.hid hs1; clear hs1
  have HS2 := Lib.hid hs2; clear hs2
  have HT1 := Lib.hid ht1; clear ht1
  have HT2 := Lib.hid ht2; clear ht2
  go_enter Try.func62, Try.ntmps62
  go_wp2_with fail
  rw [← HW0.out]
  refine (I0.out _ HB0.out).mono ?_
  rintro e w1 ⟨rfl, hb1⟩
  rw [HZ0.out] at hb1
  have hx := HBX.out w1 hb1
  obtain ⟨hx1, hx2, hbw, hsz⟩ := hx
  have q1 := hx1 1 _ rfl
  have q2 := hx1 2 _ rfl
  have r1 := hx2 1 _ rfl
  have r2 := hx2 2 _ rfl
  clear hx1 hx2
  have HBW := Lib.hid hbw; clear hbw
  have HB1 := Lib.hid hb1; clear hb1
  cases u0
  · go_wp2_with fail
    go_ret
    exact ⟨rfl, HBW.out⟩
  by_cases hl1 : p.shapes.length = q.shapes.length
  case neg =>
    have h1 : ((p.shapes.length : Int) != (q.shapes.length : Int)) = true := by rw [bne_iff_ne]; omega
    have h2 : decide (p.shapes = q.shapes) = false := by simp; intro h; rw [h] at hl1; exact hl1 rfl
    rw [HU1.out] at h2
    subst h2
    clear hl1
    go_wp2_with fail
    go_ret
    exact ⟨rfl, HBW.out⟩
  by_cases hl2 : p.funcs.length = q.funcs.length
  case neg =>
    have h1 : ((p.shapes.length : Int) != (q.shapes.length : Int)) = false := by rw [bne_eq_false_iff_eq]; omega
    have h3 : ((p.funcs.length : Int) != (q.funcs.length : Int)) = true := by rw [bne_iff_ne]; omega
    have h2 : decide (p.funcs = q.funcs) = false := by simp; intro h; rw [h] at hl2; exact hl2 rfl
    rw [HU2.out] at h2
    subst h2
    clear hl1 hl2
    go_wp2_with fail
    go_ret
    exact ⟨by cases u1 <;> rfl, HBW.out⟩
  have h1 : ((p.shapes.length : Int) != (q.shapes.length : Int)) = false := by rw [bne_eq_false_iff_eq]; omega
  have h3 : ((p.funcs.length : Int) != (q.funcs.length : Int)) = false := by rw [bne_eq_false_iff_eq]; omega
  have HL1 := Lib.hid hl1
  have HL2 := Lib.hid hl2
  clear hl1 hl2
  go_wp2_with fail
  clear h1 h3 q1 q2 r1 r2
  go_loopw [5] (fun i wr => ∃ k : Nat, k ≤ p.shapes.length ∧ i = .int .i64 k ∧ p.shapes.take k = q.shapes.take k ∧ Below (w.heap.size + 2) W0 wr) (fun i _ => p.shapes.length - (intOf i).toNat)
  case atStart => exact ⟨0, Nat.zero_le _, rfl, rfl, HB1.out⟩
  case round =>
    obtain ⟨k, hk, rfl, ht, hB⟩ := hrel
    obtain ⟨hx1, hx2, hbw, hsz2⟩ := HBX.out wr hB
    have q1 := hx1 1 _ rfl
    have q2 := hx1 2 _ rfl
    have r1 := hx2 1 _ rfl
    have r2 := hx2 2 _ rfl
    clear hx1 hx2 HBW
    have HBW := Lib.hid hbw; clear hbw
    by_cases hlt : k < p.shapes.length
    · have hlt2 : k < q.shapes.length := by have := HL1.out; omega
      obtain ⟨b, o, rfl, _, x1, x2, hx, hxs⟩ := HS1.out k hlt
      obtain ⟨b', o', rfl, _, y1, y2, hy, hys⟩ := HT1.out k hlt2
      have hx := below_cell HBW.out hx
      have hy := below_cell HBW.out hy
      have hst := list_eq_step p.shapes q.shapes k hlt hlt2 ht
      have ri := fun n => rints_any (wr.drewN n) D D' x1 y1 p.shapes[k] q.shapes[k] x2 y2 (hxs.fr ((Fr.of_below HBW.out (fun _ => False)).drewN n) (fun _ _ h => h)) (hys.fr ((Fr.of_below HBW.out (fun _ => False)).drewN n) (fun _ _ h => h)) (HSH.out _ (List.getElem_mem hlt)) (HSH'.out _ (List.getElem_mem hlt2))
      clear hxs hys ht
      have HST := Lib.hid hst; clear hst
      have RI := Lib.hid ri; clear ri
      have HB := Lib.hid hB; clear hB
      cases hd : decide (p.shapes[k] = q.shapes[k])
      · have hno := HST.out.2 hd
        rw [HU1.out] at hno
        rw [hd] at RI
        subst hno
        clear hd
        go_wp2_with fail
        go_quiet ((go_at_call 123; exact Calls.quiet_of (RI.out _)))
        go_wp2_with fail
        go_ret
        exact ⟨rfl, below_drewN HBW.out _⟩
      · have hyes := HST.out.1 hd
        rw [hd] at RI
        have HYES := Lib.hid hyes; clear hyes
        clear hd
        go_wp2_with fail
        go_quiet ((go_at_call 123; exact Calls.quiet_of (RI.out _)))
        go_wp2_with fail
        go_roundw
        case rel => exact ⟨k + 1, by omega, by go_num, HYES.out, below_drewN HB.out _⟩
        case measure => simp [intOf]; omega
    · have hd : decide (p.shapes = q.shapes) = true := by
        have h := HL1.out
        have hk2 : k = p.shapes.length := by omega
        rw [hk2, List.take_length, List.take_of_length_le (by omega)] at ht
        simpa using ht
      rw [HU1.out] at hd
      subst hd
      have HB := Lib.hid hB; clear hB
      clear ht
      go_wp2_with fail
      clear q1 q2 r1 r2
      go_loopw [6] (fun i wr => ∃ k : Nat, k ≤ p.funcs.length ∧ i = .int .i64 k ∧ p.funcs.take k = q.funcs.take k ∧ Below (w.heap.size + 2) W0 wr) (fun i _ => p.funcs.length - (intOf i).toNat)
      case atStart => exact ⟨0, Nat.zero_le _, rfl, rfl, HB.out⟩
      case round =>
        obtain ⟨j, hj, rfl, ht, hB2⟩ := hrel
        clear HBW
        obtain ⟨hx1, hx2, hbw, hsz3⟩ := HBX.out wr hB2
        have q2 := hx1 2 _ rfl
        have r2 := hx2 2 _ rfl
        clear hx1 hx2
        have HBW := Lib.hid hbw; clear hbw
        by_cases hlt2 : j < p.funcs.length
        · have hlt3 : j < q.funcs.length := by have := HL2.out; omega
          obtain ⟨b, o, rfl, _, x0, x1, x2, x3, x4, p0, p1, p2, p3, p4, ⟨e1, e2, ⟨s0, s1, e3, hxs0⟩, ⟨s2, s3, e4, hxs3⟩, s4, s5, e5, hxs4⟩⟩ := HS2.out j hlt2
          obtain ⟨b', o', rfl, _, y0, y1, y2, y3, y4, t0, t1, t2, t3, t4, ⟨g1, g2, ⟨y5, y6, g3, hys0⟩, ⟨y7, y8, g4, hys3⟩, y9, y10, g5, hys4⟩⟩ := HT2.out j hlt3
          subst e1 e2 e3 e4 e5 g1 g2 g3 g4 g5
          have p0 := below_cell HBW.out p0
          have p1 := below_cell HBW.out p1
          have p2 := below_cell HBW.out p2
          have p3 := below_cell HBW.out p3
          have p4 := below_cell HBW.out p4
          have t0 := below_cell HBW.out t0
          have t1 := below_cell HBW.out t1
          have t2 := below_cell HBW.out t2
          have t3 := below_cell HBW.out t3
          have t4 := below_cell HBW.out t4
          have hst := list_eq_step p.funcs q.funcs j hlt2 hlt3 ht
          have hfe := fun_eq p.funcs[j] q.funcs[j]
          rw [hfe, HU2.out] at hst
          have hb1 := HFN.out _ (List.getElem_mem hlt2)
          have hb2 := HFN'.out _ (List.getElem_mem hlt3)
          unfold fnBulk at hb1 hb2
          have call0 := fun W (hb : Below wr.heap.size wr W) => rints_any W D D' s0 y5 p.funcs[j].args q.funcs[j].args s1 y6 (hxs0.fr ((Fr.of_below HBW.out (fun _ => False)).trans (Fr.of_below hb (fun _ => False)) (fun _ _ h => h)) (fun _ _ h => h)) (hys0.fr ((Fr.of_below HBW.out (fun _ => False)).trans (Fr.of_below hb (fun _ => False)) (fun _ _ h => h)) (fun _ _ h => h)) (by omega) (by omega)
          have call3 := fun W (hb : Below wr.heap.size wr W) => rints_any W D D' s2 y7 p.funcs[j].objects q.funcs[j].objects s3 y8 (hxs3.fr ((Fr.of_below HBW.out (fun _ => False)).trans (Fr.of_below hb (fun _ => False)) (fun _ _ h => h)) (fun _ _ h => h)) (hys3.fr ((Fr.of_below HBW.out (fun _ => False)).trans (Fr.of_below hb (fun _ => False)) (fun _ _ h => h)) (fun _ _ h => h)) (by omega) (by omega)
          have code1 := fun W (hb : Below wr.heap.size wr W) => hxs4.fr ((Fr.of_below HBW.out (fun _ => False)).trans (Fr.of_below hb (fun _ => False)) (fun _ _ h => h)) (fun _ _ h => h)
          have code2 := fun W (hb : Below wr.heap.size wr W) => hys4.fr ((Fr.of_below HBW.out (fun _ => False)).trans (Fr.of_below hb (fun _ => False)) (fun _ _ h => h)) (fun _ _ h => h)
          clear ht hfe hxs0 hxs3 hxs4 hys0 hys3 hys4
          generalize hv0 : decide (p.funcs[j].args = q.funcs[j].args) = v0 at *
          generalize hv3 : decide (p.funcs[j].objects = q.funcs[j].objects) = v3 at *
          generalize hv4 : decide (p.funcs[j].code = q.funcs[j].code) = v4 at *
          generalize p.funcs[j].result = r1 at *
          generalize q.funcs[j].result = r2 at *
          generalize p.funcs[j].slots = l1 at *
          generalize q.funcs[j].slots = l2 at *
          generalize p.funcs[j].args = ar1 at *
          generalize q.funcs[j].args = ar2 at *
          generalize p.funcs[j].objects = ob1 at *
          generalize q.funcs[j].objects = ob2 at *
          generalize p.funcs[j].code = cd1 at *
          generalize q.funcs[j].code = cd2 at *
          have hcl1 : cd1.length ≤ 1000000 := by omega
          have hcl2 : cd2.length ≤ 1000000 := by omega
          clear hb1 hb2 hv0 hv3
          have HST := Lib.hid hst; clear hst
          have HB2 := Lib.hid hB2; clear hB2
          have HV4 := Lib.hid hv4; clear hv4
          have CALL0 := Lib.hid call0; clear call0
          have CALL3 := Lib.hid call3; clear call3
          have CODE1 := Lib.hid code1; clear code1
          have CODE2 := Lib.hid code2; clear code2
          have z0 : w.heap.size < wr.heap.size := by omega
          have z1 : w.heap.size + 1 < wr.heap.size := by omega
          have z2 := World.block_lt p0
          have z3 := World.block_lt t0
          dsimp only at z2 z3
          go_upto_region 11 with fail
          go_cut [7, 8] (fun s7 s8 wx => ∃ F G : Nat, s7 = .pointer (some ⟨F, 0, none⟩) ∧ s8 = .pointer (some ⟨G, 0, none⟩) ∧ (wx.cell? ⟨F, 0, none⟩ = some (.slice s0 ar1.length s1) ∧ wx.cell? ⟨F, 1, none⟩ = some (.int .i64 r1) ∧ wx.cell? ⟨F, 2, none⟩ = some (.int .i64 l1) ∧ wx.cell? ⟨F, 3, none⟩ = some (.slice s2 ob1.length s3) ∧ wx.cell? ⟨F, 4, none⟩ = some (.slice s4 cd1.length s5)) ∧ (wx.cell? ⟨G, 0, none⟩ = some (.slice y5 ar2.length y6) ∧ wx.cell? ⟨G, 1, none⟩ = some (.int .i64 r2) ∧ wx.cell? ⟨G, 2, none⟩ = some (.int .i64 l2) ∧ wx.cell? ⟨G, 3, none⟩ = some (.slice y7 ob2.length y8) ∧ wx.cell? ⟨G, 4, none⟩ = some (.slice y9 cd2.length y10)) ∧ Below wr.heap.size wr wx)
          case first =>
            go_region
            all_goals
              go_wp2_with fail
              go_meet
              case rel =>
                have h1 := new2 wr #[.slice s0 ar1.length s1, .int .i64 r1, .int .i64 l1, .slice s2 ob1.length s3, .slice s4 cd1.length s5] #[.slice y5 ar2.length y6, .int .i64 r2, .int .i64 l2, .slice y7 ob2.length y8, .slice y9 cd2.length y10] 86 86
                have h2 := new2 wr #[.slice y5 ar2.length y6, .int .i64 r2, .int .i64 l2, .slice y7 ob2.length y8, .slice y9 cd2.length y10] #[.slice s0 ar1.length s1, .int .i64 r1, .int .i64 l1, .slice s2 ob1.length s3, .slice s4 cd1.length s5] 86 86
                first
                | exact ⟨_, _, rfl, rfl, ⟨h1.1 0 _ rfl, h1.1 1 _ rfl, h1.1 2 _ rfl, h1.1 3 _ rfl, h1.1 4 _ rfl⟩, ⟨h1.2.1 0 _ rfl, h1.2.1 1 _ rfl, h1.2.1 2 _ rfl, h1.2.1 3 _ rfl, h1.2.1 4 _ rfl⟩, h1.2.2⟩
                | exact ⟨_, _, rfl, rfl, ⟨h2.2.1 0 _ rfl, h2.2.1 1 _ rfl, h2.2.1 2 _ rfl, h2.2.1 3 _ rfl, h2.2.1 4 _ rfl⟩, ⟨h2.1 0 _ rfl, h2.1 1 _ rfl, h2.1 2 _ rfl, h2.1 3 _ rfl, h2.1 4 _ rfl⟩, h2.2.2⟩
          case rest =>
            obtain ⟨F, G, rfl, rfl, ⟨f0, f1, f2, f3, f4⟩, ⟨g0, g1, g2, g3, g4⟩, hbl⟩ := hcut
            have HBL := Lib.hid hbl; clear hbl
            clear p0 p1 p2 p3 p4 t0 t1 t2 t3 t4 z0 z1 z2 z3
            go_wp2_with fail
            refine (CALL0.out _ HBL.out).mono ?_
            rintro e w1 ⟨rfl, n1, rfl⟩
            cases v0
            · skip
              have hno := HST.out.2 (by simp [*])
              subst hno
              go_wp2_with fail
              go_ret
              exact ⟨rfl, by first | exact below_drewN (HBW.out.trans (HBL.out.mono HBW.out.size)) _ | exact below_drewN (below_drewN (HBW.out.trans (HBL.out.mono HBW.out.size)) _) _⟩
            by_cases h1 : r1 = r2
            case neg =>
              have h1' : (r1 == r2) = false := by simpa using h1
              have h1'' : (r1 != r2) = true := by simpa using h1
              have hno := HST.out.2 (by simp [*])
              subst hno
              go_wp2_with fail
              go_ret
              exact ⟨rfl, by first | exact below_drewN (HBW.out.trans (HBL.out.mono HBW.out.size)) _ | exact below_drewN (below_drewN (HBW.out.trans (HBL.out.mono HBW.out.size)) _) _⟩
            subst h1
            by_cases h2 : l1 = l2
            case neg =>
              have h2' : (l1 == l2) = false := by simpa using h2
              have h2'' : (l1 != l2) = true := by simpa using h2
              have hno := HST.out.2 (by simp [*])
              subst hno
              go_wp2_with fail
              go_ret
              exact ⟨rfl, by first | exact below_drewN (HBW.out.trans (HBL.out.mono HBW.out.size)) _ | exact below_drewN (below_drewN (HBW.out.trans (HBL.out.mono HBW.out.size)) _) _⟩
            subst h2
            go_wp2_with fail
            refine (CALL3.out _ (below_drewN HBL.out _)).mono ?_
            rintro e w1 ⟨rfl, n2, rfl⟩
            cases v3
            · skip
              have hno := HST.out.2 (by simp [*])
              subst hno
              go_wp2_with fail
              go_ret
              exact ⟨rfl, by first | exact below_drewN (HBW.out.trans (HBL.out.mono HBW.out.size)) _ | exact below_drewN (below_drewN (HBW.out.trans (HBL.out.mono HBW.out.size)) _) _⟩
            by_cases h3 : cd1.length = cd2.length
            case neg =>
              have h3' : ((cd1.length : Int) != (cd2.length : Int)) = true := by rw [bne_iff_ne]; omega
              have h4 : v4 = false := by rw [← HV4.out]; simp; intro h; rw [h] at h3; exact h3 rfl
              subst h4
              clear h3
              have hno := HST.out.2 (by simp [*])
              subst hno
              go_wp2_with fail
              go_ret
              exact ⟨rfl, by first | exact below_drewN (HBW.out.trans (HBL.out.mono HBW.out.size)) _ | exact below_drewN (below_drewN (HBW.out.trans (HBL.out.mono HBW.out.size)) _) _⟩
            have h3' : ((cd1.length : Int) != (cd2.length : Int)) = false := by rw [bne_eq_false_iff_eq]; omega
            have H3 := Lib.hid h3; clear h3
            go_wp2_with fail
            clear h3'
            go_loopw [9] (fun i wx => ∃ m : Nat, m ≤ cd1.length ∧ i = .int .i64 m ∧ cd1.take m = cd2.take m ∧ wx.cell? ⟨F, 4, none⟩ = some (.slice s4 cd1.length s5) ∧ wx.cell? ⟨G, 4, none⟩ = some (.slice y9 cd2.length y10) ∧ Below wr.heap.size wr wx) (fun i _ => cd1.length - (intOf i).toNat)
            case atStart => exact ⟨0, Nat.zero_le _, rfl, rfl, f4, g4, by first | exact below_drewN HBL.out _ | exact below_drewN (below_drewN HBL.out _) _⟩
            case round =>
              obtain ⟨m, hm, rfl, ht, c1, c2, hBx⟩ := hrel
              by_cases hlt : m < cd1.length
              · have hlt2 : m < cd2.length := by have := H3.out; omega
                obtain ⟨b1, o1, rfl, _, e0, e1, e2, e3⟩ := CODE1.out _ hBx m hlt
                obtain ⟨b2, o2, rfl, _, g0, g1, g2, g3⟩ := CODE2.out _ hBx m hlt2
                have hs := list_eq_step cd1 cd2 m hlt hlt2 ht
                rw [HV4.out] at hs
                clear ht
                generalize cd1[m] = x at *
                generalize cd2[m] = y at *
                by_cases hxy : x = y
                · subst hxy
                  have hs2 := hs.1 (by simp)
                  clear hs
                  have HS2 := Lib.hid hs2; clear hs2
                  have HBX := Lib.hid hBx; clear hBx
                  go_wp2_with fail
                  go_quiet (fail)
                  go_wp2_with fail
                  go_roundw
                  case rel => exact ⟨m + 1, by omega, by go_num, HS2.out, c1, c2, below_drewN HBX.out _⟩
                  case measure => simp [intOf]; omega
                · have h4 := hs.2 (by simpa using hxy)
                  subst h4
                  clear hs
                  have hno := HST.out.2 (by simp)
                  subst hno
                  have HBX := Lib.hid hBx; clear hBx
                  have he := ins_eq_run x y
                  rw [show decide (x = y) = false from by simpa using hxy] at he
                  clear hxy
                  go_wp2_with fail
                  go_quiet (fail)
                  go_wp2_with fail
                  go_ret
                  exact ⟨rfl, HBW.out.trans ((below_drewN HBX.out _).mono HBW.out.size)⟩
              · have h4 : v4 = true := by
                  rw [← HV4.out]
                  have h := H3.out
                  have hk2 : m = cd1.length := by omega
                  rw [hk2, List.take_length, List.take_of_length_le (by omega)] at ht
                  simpa using ht
                subst h4
                have hyes := HST.out.1 (by simp)
                have HYES := Lib.hid hyes; clear hyes
                have HBX := Lib.hid hBx; clear hBx
                clear ht
                go_wp2_with fail
                go_roundw
                case rel => exact ⟨j + 1, by omega, by go_num, HYES.out, HB2.out.trans (HBX.out.mono (by have := HB2.out.size; omega))⟩
                case measure => simp [intOf]; omega
        · have hd : decide (p.funcs = q.funcs) = true := by
            have h := HL2.out
            have hk2 : j = p.funcs.length := by omega
            rw [hk2, List.take_length, List.take_of_length_le (by omega)] at ht
            simpa using ht
          rw [HU2.out] at hd
          subst hd
          clear ht hB2
          go_wp2_with fail
          go_ret
          exact ⟨rfl, HBW.out⟩
end Go.Proofs.Ytmmdppjbofbjhaa
namespace Go.Proofs.Ytmmdppjbofbjhaa
open Go.ChangeShapes Go.WideShapes Go.ChangeAt Go.RowKit

def pr0 : Prg := ⟨[], [], [⟨[], 0, 0, [], [⟨27, 0, 0, 0⟩]⟩]⟩
def by0 : ByteArray := ⟨#[0, 0, 1, 0, 0, 0, 0, 1, 27, 0, 0, 0, 0, 0, 0]⟩
theorem lay0 : layPRes pr0 = .tuple #[.string by0, .int .i64 0] := by
  have h1 : (wProg pr0).2 = false := by decide +kernel
  have h2 : bytesS (wProg pr0).1 = by0 := by decide +kernel
  unfold layPRes
  rw [h1, h2]
  rfl
theorem read0 : readPOk by0 = true ∧ (rProg by0).1 = pr0 := ⟨by decide +kernel, by decide +kernel⟩
/-- the three blocks of that program -/
def wA (w : World) : World := ((w.alloc (.cells #[.int .i64 27, .int .i64 0, .int .i64 0, .int .i64 0] 58)).alloc (.cells #[.slice none 0 0, .int .i64 0, .int .i64 0, .slice none 0 0, .slice (some ⟨w.heap.size, 0, none⟩) 1 1] 86)).alloc (.cells #[.slice none 0 0, .slice none 0 0, .slice (some ⟨w.heap.size + 1, 0, none⟩) 1 1] 71)
theorem wA_size (w : World) : (wA w).heap.size = w.heap.size + 3 := by simp [wA]
theorem wA_below (w : World) : Below w.heap.size w (wA w) := (((Below.refl _ _).alloc (Nat.le_refl _) _).alloc (by simp) _).alloc (by simp; omega) _
theorem wA_cells (w : World) : (∀ j u, (#[Value.int .i64 27, .int .i64 0, .int .i64 0, .int .i64 0])[j]? = some u → (wA w).cell? ⟨w.heap.size, j, none⟩ = some u) ∧ (∀ j u, (#[Value.slice none 0 0, .int .i64 0, .int .i64 0, .slice none 0 0, .slice (some ⟨w.heap.size, 0, none⟩) 1 1])[j]? = some u → (wA w).cell? ⟨w.heap.size + 1, j, none⟩ = some u) := by
  refine ⟨fun j u h => ?_, fun j u h => ?_⟩
  · unfold wA
    rw [cell_under _ _ (by simp; omega), cell_under _ _ (by simp), cell_new]; exact h
  · unfold wA
    rw [cell_under _ _ (by simp)]
    rw [show w.heap.size + 1 = (w.alloc (.cells #[.int .i64 27, .int .i64 0, .int .i64 0, .int .i64 0] 58)).heap.size from by simp, cell_new]; exact h
theorem wA_prg (w : World) : PrgVal (wA w) (fun k => k < w.heap.size + 2) pr0 (.slice none 0 0) (.slice none 0 0) (.slice (some ⟨w.heap.size + 1, 0, none⟩) 1 1) := by
  obtain ⟨h1, h2⟩ := wA_cells w
  refine ⟨⟨none, 0, rfl, fun j hj => by cases hj⟩, ⟨none, 0, rfl, fun j hj => by cases hj⟩, _, 1, rfl, fun j hj => ?_⟩
  have hj0 : j = 0 := by have : j < 1 := hj; omega
  subst hj0
  refine ⟨w.heap.size + 1, 0, rfl, by show w.heap.size + 1 < w.heap.size + 2; omega, _, _, _, _, _, h2 0 _ rfl, h2 1 _ rfl, h2 2 _ rfl, h2 3 _ rfl, h2 4 _ rfl, rfl, rfl, ⟨none, 0, rfl, fun j hj => by cases hj⟩, ⟨none, 0, rfl, fun j hj => by cases hj⟩, _, 1, rfl, fun i hi => ?_⟩
  have hi0 : i = 0 := by have : i < 1 := hi; omega
  subst hi0
  exact ⟨w.heap.size, 0, rfl, by show w.heap.size < w.heap.size + 2; omega, h1 0 _ rfl, h1 1 _ rfl, h1 2 _ rfl, h1 3 _ rfl⟩
set_option maxRecDepth 100000 in
set_option maxHeartbeats 3200000 in
theorem alive10 (w : World) :
    Calls Try.prog 57 #[] w fun e w' => e = .returned (.bool true) ∧ Below w.heap.size w w' := by
  have ly := layP_any (wA w) _ pr0 _ _ _ (wA_prg w) (fun k hk => by rw [wA_size]; have : k < w.heap.size + 2 := hk; omega) (by decide)
  rw [lay0] at ly
  have rd := fun w => readP_any by0 w (by decide)
  unfold ReadPPost at rd
  have hrp : readP by0 = pr0 := by unfold readP; rw [if_pos read0.1, read0.2]
  rw [read0.1, hrp] at rd
  have hB := wA_below w
  have hsz := wA_size w
  have hpr := wA_prg w
  have hloc : (wA w).cell? ⟨w.heap.size + 2, 0, none⟩ = some (.slice none 0 0) ∧ (wA w).cell? ⟨w.heap.size + 2, 1, none⟩ = some (.slice none 0 0) ∧ (wA w).cell? ⟨w.heap.size + 2, 2, none⟩ = some (.slice (some ⟨w.heap.size + 1, 0, none⟩) 1 1) := by
    unfold wA
    rw [show w.heap.size + 2 = ((w.alloc (.cells #[.int .i64 27, .int .i64 0, .int .i64 0, .int .i64 0] 58)).alloc (.cells #[.slice none 0 0, .int .i64 0, .int .i64 0, .slice none 0 0, .slice (some ⟨w.heap.size, 0, none⟩) 1 1] 86)).heap.size from by simp]
    exact ⟨cell_new _ _ _ _ 0, cell_new _ _ _ _ 1, cell_new _ _ _ _ 2⟩
  have hwa : wA w = ((w.alloc (.cells #[.int .i64 27, .int .i64 0, .int .i64 0, .int .i64 0] 58)).alloc (.cells #[.slice none 0 0, .int .i64 0, .int .i64 0, .slice none 0 0, .slice (some ⟨w.heap.size, 0, none⟩) 1 1] 86)).alloc (.cells #[.slice none 0 0, .slice none 0 0, .slice (some ⟨w.heap.size + 1, 0, none⟩) 1 1] 71) := rfl
  generalize wA w = wa at *
  clear hrp
  unfold by0 at ly rd
  have LY := Lib.hid ly; clear ly
  have RD := Lib.hid rd; clear rd
  have HB := Lib.hid hB; clear hB
  have HWA := Lib.hid hwa; clear hwa
  have HPR := Lib.hid hpr; clear hpr
  have HLOC := Lib.hid hloc; clear hloc
  go_enter Try.func57, Try.ntmps57
  go_wp2_with fail
  rw [← HWA.out]
  refine LY.out.mono ?_
  rintro e w1 ⟨rfl, hb1⟩
  obtain ⟨l0, l1, l2⟩ := HLOC.out
  have k0 := below_cell hb1 l0
  have k1 := below_cell hb1 l1
  have k2 := below_cell hb1 l2
  clear l0 l1 l2
  have HB1 := Lib.hid (HB.out.trans (hb1.mono HB.out.size))
  have hpr1 := HPR.out.fr (Fr.of_below hb1 (fun _ => False)) (fun _ _ h => h)
  have hs1 := hb1.size
  clear hb1
  have h3 : w.heap.size + 3 ≤ w1.heap.size := by omega
  clear hs1 hsz
  have HPR1 := Lib.hid hpr1; clear hpr1
  go_wp2_with fail
  refine (RD.out _).mono ?_
  rintro e w2 ⟨c0, c1, c2, rfl, hpq, hb2⟩
  have hb2' := hb2
  have hpr2 := HPR1.out.fr (Fr.of_below hb2 (fun _ => False)) (fun _ _ h => h)
  have k0 := below_cell hb2 k0
  have k1 := below_cell hb2 k1
  have k2 := below_cell hb2 k2
  have HB2 := Lib.hid (HB1.out.trans (hb2.mono HB1.out.size))
  have h4 := hb2.size
  clear hb2 hb2'
  obtain ⟨⟨x0, y0, rfl, hq0⟩, ⟨x1, y1, rfl, hq1⟩, x2, y2, rfl, hq2⟩ := hpq
  have hpq := Lib.hid (show PrgVal w2 (fun k => w1.heap.size ≤ k ∧ k < w2.heap.size) pr0 (.slice x0 0 y0) (.slice x1 0 y1) (.slice x2 1 y2) from ⟨⟨x0, y0, rfl, hq0⟩, ⟨x1, y1, rfl, hq1⟩, x2, y2, rfl, hq2⟩)
  clear hq0 hq1 hq2
  have sm := fun (ob : Obj) => same_any (w2.alloc ob) _ _ pr0 pr0 _ _ _ _ _ _ (hpr2.fr ((Fr.refl (fun _ => False) w2).alloc ob) (fun _ _ h => h)) (hpq.out.fr ((Fr.refl (fun _ => False) w2).alloc ob) (fun _ _ h => h)) (by unfold PrgOk; decide) (by unfold PrgOk; decide)
  rw [show decide (pr0 = pr0) = true from by simp] at sm
  clear hpr2
  have SM := Lib.hid sm; clear sm
  have kk0 : ∀ ob, (w2.alloc ob).cell? ⟨w.heap.size + 2, 0, none⟩ = some (.slice none 0 0) := fun ob => (cell_under _ _ (World.block_lt k0)).trans k0
  have kk1 : ∀ ob, (w2.alloc ob).cell? ⟨w.heap.size + 2, 1, none⟩ = some (.slice none 0 0) := fun ob => (cell_under _ _ (World.block_lt k1)).trans k1
  have kk2 : ∀ ob, (w2.alloc ob).cell? ⟨w.heap.size + 2, 2, none⟩ = some (.slice (some ⟨w.heap.size + 1, 0, none⟩) 1 1) := fun ob => (cell_under _ _ (World.block_lt k2)).trans k2
  have l0 : pr0.globals.length = 0 := rfl
  have l1 : pr0.shapes.length = 0 := rfl
  have l2 : pr0.funcs.length = 1 := rfl
  rw [l0, l1, l2]
  clear l0 l1 l2
  go_wp2_with fail
  refine (SM.out _).mono ?_
  rintro e w3 ⟨rfl, hb3⟩
  have kf := fun o (v : Value) h => (show w3.cell? ⟨w2.heap.size, o, none⟩ = some v from below_cell hb3 ((cell_new w2 #[.slice x0 0 y0, .slice x1 0 y1, .slice x2 1 y2] 71 (0, 0) o).trans h))
  have kf2 := kf 2 _ rfl
  have HB3 := Lib.hid ((HB2.out.alloc (by have := HB2.out.size; exact this) _).trans (hb3.mono (by have := HB2.out.size; simp; omega)))
  clear hb3 kf
  go_wp2_with fail
  go_ret
  exact ⟨rfl, HB3.out⟩
end Go.Proofs.Ytmmdppjbofbjhaa
namespace Go.Proofs.Ytmmdppjbofbjhaa
open Go.ChangeShapes Go.WideShapes Go.ChangeAt Go.RowKit

variable {H : Type} {enc : TypeId × Value → H}
set_option maxRecDepth 100000 in
/-- a slice that comes in, element by element -/
theorem open_elems {α : Type} [Inhabited α] {w : World} {base : Nat} {sp : Nat → Bool} {hd : Bool} {m : Nat} {t e size : Nat} {cs : List Value} {x : DataW H × List MemPlace} (ht : Try.prog.underlying t = some (.slice e)) (hce : Try.prog.cellsOf e = size) (hsz : 0 < size)
    (R : List Value → α → Prop) (hR : ∀ n ds y, DataW.trod enc Try.prog w base sp hd n e ds = some y → ∃ z, R ds z) (h : DataW.trod enc Try.prog w base sp hd m t cs = some x) :
    ∃ (a : Option Addr) (l : List α) (c : Nat), cs = [.slice a l.length c] ∧ ∀ j (hj : j < l.length), ∃ b o ds, a = some ⟨b, o, none⟩ ∧ R ds l[j] ∧ ds.length = size ∧ ∀ r u, ds[r]? = some u → w.cell? ⟨b, o + j * size + r, none⟩ = some u := by
  rcases Go.Deep.open_slice ht h with ⟨hcs, hx⟩ | ⟨a, len, cap, m, n, D, Pl, hcs, hb, hl, hm, hmm, hx, hel⟩
  · exact ⟨none, [], 0, hcs, fun j hj => by cases hj⟩
  · have hle : len ≤ m := by rw [hmm]; split <;> omega
    rw [hce] at hel
    obtain ⟨f, hF⟩ := Go.Deep.choose_lt (α := α × List Value) (p := fun i y => w.cells? base (a.add (i * size)) size = some y.2 ∧ R y.2 y.1) (n := len) (fun i hi => by
      obtain ⟨cs', h1, h2⟩ := hel i (by omega)
      obtain ⟨z, hz⟩ := hR _ _ _ h2
      exact ⟨(z, cs'), h1, hz⟩)
    refine ⟨some a, (List.range len).map fun i => (f i).1, cap, by rw [hcs]; simp, fun j hj => ?_⟩
    simp at hj
    have hspot : ∀ i, i < len → (a.add (i * size)).spot = none := fun i hi => by
      obtain ⟨_, hlen, hc⟩ := World.cells?_some (hF i hi).1
      have h0 := hc 0 hsz
      have hp : (a.add (i * size)).add 0 = a.add (i * size) := rfl
      rw [hp, List.getElem?_eq_getElem (by omega)] at h0
      have := plain_addr h0
      rw [this]
    have ha : a.spot = none := by
      have := hspot 0 (by omega)
      rw [Nat.zero_mul] at this
      exact this
    obtain ⟨_, hlen, hc⟩ := World.cells?_some (hF j hj).1
    obtain ⟨bb, oo, ss⟩ := a
    dsimp only at ha
    subst ha
    refine ⟨bb, oo, (f j).2, rfl, by simpa using (hF j hj).2, hlen, fun r u hu => ?_⟩
    have hr : r < size := by
      rcases Nat.lt_or_ge r size with h' | h'
      · exact h'
      · rw [List.getElem?_eq_none (by omega)] at hu; cases hu
    have h1 := hc r hr
    rw [addr_add ⟨bb, oo, none⟩ rfl (j * size), addr_add ⟨bb, oo + j * size, none⟩ rfl r] at h1
    dsimp only at h1
    rw [h1, hu]
theorem trod_ints {w : World} {base : Nat} {sp : Nat → Bool} {hd : Bool} {m : Nat} {cs : List Value} {x : DataW H × List MemPlace} (h : DataW.trod enc Try.prog w base sp hd m 63 cs = some x) :
    ∃ a l c, cs = [.slice a (List.length l) c] ∧ IntSl w (fun k => k < w.heap.size) a l := by
  obtain ⟨a, l, c, h1, h2⟩ := open_elems (α := Int) Try.underlying63 cells_ints.1 (by decide) (fun ds z => ∀ u, ds = [u] → u = .int .i64 z) (fun n ds y hy => by
    rcases Nat.lt_or_ge 1 ds.length with h | h
    · exact ⟨0, fun u hu => by rw [hu] at h; simp at h⟩
    · match ds, h with
      | [], _ => exact ⟨0, fun u hu => by cases hu⟩
      | [u], _ =>
        obtain ⟨z, hz, _⟩ := trod_one hy
        exact ⟨z, fun v hv => by simp at hv; rw [← hv]; exact hz⟩) h
  refine ⟨a, l, c, h1, fun j hj => ?_⟩
  obtain ⟨b, o, ds, h3, h4, h5, h6⟩ := h2 j hj
  match ds, h5 with
  | [u], _ =>
    have hu := h4 u rfl
    have hc := h6 0 u rfl
    rw [hu, Nat.mul_one] at hc
    exact ⟨b, o, h3, World.block_lt hc, hc⟩
theorem trod_instrs {w : World} {base : Nat} {sp : Nat → Bool} {hd : Bool} {m : Nat} {cs : List Value} {x : DataW H × List MemPlace} (h : DataW.trod enc Try.prog w base sp hd m 35 cs = some x) :
    ∃ a l c, cs = [.slice a (List.length l) c] ∧ InsSlD w (fun k => k < w.heap.size) a l := by
  obtain ⟨a, l, c, h1, h2⟩ := open_elems (α := Ins) Try.underlying35 cells_ints.2 (by decide) (fun ds z => ds = z.cells) (fun n ds y hy => by
    obtain ⟨z, hz, _⟩ := trod_ins hy
    exact ⟨z, hz⟩) h
  refine ⟨a, l, c, h1, fun j hj => ?_⟩
  obtain ⟨b, o, ds, h3, rfl, h5, h6⟩ := h2 j hj
  exact ⟨b, o, h3, World.block_lt (h6 0 _ rfl), h6 0 _ rfl, h6 1 _ rfl, h6 2 _ rfl, h6 3 _ rfl⟩
theorem cells_more : Try.prog.cellsOf 84 = 1 ∧ Try.prog.cellsOf 86 = 5 ∧ Try.prog.cellsOf 71 = 3 ∧ Try.prog.cellsOf 63 = 1 ∧ Try.prog.cellsOf 35 = 1 ∧ Try.prog.cellsOf 68 = 1 ∧ Try.prog.cellsOf 69 = 1 := ⟨by kernel_rfl, by kernel_rfl, by kernel_rfl, by kernel_rfl, by kernel_rfl, by kernel_rfl, by kernel_rfl⟩
instance : Inhabited Fun := ⟨⟨[], 0, 0, [], []⟩⟩
set_option maxRecDepth 100000 in
theorem trod_shape {w : World} {base : Nat} {sp : Nat → Bool} {hd : Bool} {n : Nat} {cs : List Value} {x : DataW H × List MemPlace} (h : DataW.trod enc Try.prog w base sp hd n 84 cs = some x) :
    ∃ l : List Int, ∃ a c, cs = [.slice a l.length c] ∧ IntSl w (fun k => k < w.heap.size) a l := by
  obtain ⟨xs, m, _, _, hl, hlen, hf⟩ := DataW.trod_struct Try.underlying84 h
  rw [cells_more.1] at hl
  match cs, hl, xs, hlen with
  | [c0], _, [y0], _ =>
    have f0 : DataW.trod enc Try.prog w base sp hd m 63 (([c0].drop 0).take (Try.prog.cellsOf 63)) = some y0 := hf 0 _ rfl
    rw [cells_more.2.2.2.1] at f0
    obtain ⟨a, l, c, h1, h2⟩ := trod_ints f0
    exact ⟨l, a, c, h1, h2⟩
set_option maxRecDepth 100000 in
theorem trod_func {w : World} {base : Nat} {sp : Nat → Bool} {hd : Bool} {n : Nat} {cs : List Value} {x : DataW H × List MemPlace} (h : DataW.trod enc Try.prog w base sp hd n 86 cs = some x) :
    ∃ f : Fun, ∃ c0 c1 c2 c3 c4, cs = [c0, c1, c2, c3, c4] ∧ FunVal w (fun k => k < w.heap.size) f c0 c1 c2 c3 c4 := by
  obtain ⟨xs, m, _, _, hl, hlen, hf⟩ := DataW.trod_struct Try.underlying86 h
  rw [cells_more.2.1] at hl
  match cs, hl, xs, hlen with
  | [c0, c1, c2, c3, c4], _, [y0, y1, y2, y3, y4], _ =>
    have f0 : DataW.trod enc Try.prog w base sp hd m 63 (([c0, c1, c2, c3, c4].drop 0).take (Try.prog.cellsOf 63)) = some y0 := hf 0 _ rfl
    have f1 : DataW.trod enc Try.prog w base sp hd m 3 (([c0, c1, c2, c3, c4].drop 1).take (Try.prog.cellsOf 3)) = some y1 := hf 1 _ rfl
    have f2 : DataW.trod enc Try.prog w base sp hd m 3 (([c0, c1, c2, c3, c4].drop 2).take (Try.prog.cellsOf 3)) = some y2 := hf 2 _ rfl
    have f3 : DataW.trod enc Try.prog w base sp hd m 63 (([c0, c1, c2, c3, c4].drop 3).take (Try.prog.cellsOf 63)) = some y3 := hf 3 _ rfl
    have f4 : DataW.trod enc Try.prog w base sp hd m 35 (([c0, c1, c2, c3, c4].drop 4).take (Try.prog.cellsOf 35)) = some y4 := hf 4 _ rfl
    rw [cells_more.2.2.2.1] at f0 f3
    rw [cells_ints.1] at f1 f2
    rw [cells_more.2.2.2.2.1] at f4
    obtain ⟨a0, l0, n0, h0, s0⟩ := trod_ints f0
    obtain ⟨z1, h1, _⟩ := trod_one f1
    obtain ⟨z2, h2, _⟩ := trod_one f2
    obtain ⟨a3, l3, n3, h3, s3⟩ := trod_ints f3
    obtain ⟨a4, l4, n4, h4, s4⟩ := trod_instrs f4
    simp at h0 h3 h4
    exact ⟨⟨l0, z1, z2, l3, l4⟩, _, _, _, _, _, rfl, h1, h2, ⟨a0, n0, h0, s0⟩, ⟨a3, n3, h3, s3⟩, a4, n4, h4, s4⟩
theorem trod_shapes {w : World} {base : Nat} {sp : Nat → Bool} {hd : Bool} {m : Nat} {cs : List Value} {x : DataW H × List MemPlace} (h : DataW.trod enc Try.prog w base sp hd m 68 cs = some x) :
    ∃ a l c, cs = [.slice a (List.length l) c] ∧ ShSl w (fun k => k < w.heap.size) a l := by
  obtain ⟨a, l, c, h1, h2⟩ := open_elems (α := List Int) Try.underlying68 cells_more.1 (by decide) (fun ds z => ∃ a c, ds = [.slice a z.length c] ∧ IntSl w (fun k => k < w.heap.size) a z) (fun n ds y hy => trod_shape hy) h
  refine ⟨a, l, c, h1, fun j hj => ?_⟩
  obtain ⟨b, o, ds, h3, ⟨a', c', rfl, h4⟩, h5, h6⟩ := h2 j hj
  have hc := h6 0 _ rfl
  rw [Nat.mul_one] at hc
  exact ⟨b, o, h3, World.block_lt hc, a', c', hc, h4⟩
theorem trod_funcs {w : World} {base : Nat} {sp : Nat → Bool} {hd : Bool} {m : Nat} {cs : List Value} {x : DataW H × List MemPlace} (h : DataW.trod enc Try.prog w base sp hd m 69 cs = some x) :
    ∃ a l c, cs = [.slice a (List.length l) c] ∧ FnSl w (fun k => k < w.heap.size) a l := by
  obtain ⟨a, l, c, h1, h2⟩ := open_elems (α := Fun) Try.underlying69 cells_more.2.1 (by decide) (fun ds z => ∃ c0 c1 c2 c3 c4, ds = [c0, c1, c2, c3, c4] ∧ FunVal w (fun k => k < w.heap.size) z c0 c1 c2 c3 c4) (fun n ds y hy => trod_func hy) h
  refine ⟨a, l, c, h1, fun j hj => ?_⟩
  obtain ⟨b, o, ds, h3, ⟨c0, c1, c2, c3, c4, rfl, h4⟩, h5, h6⟩ := h2 j hj
  exact ⟨b, o, h3, World.block_lt (h6 0 _ rfl), c0, c1, c2, c3, c4, h6 0 _ rfl, h6 1 _ rfl, h6 2 _ rfl, h6 3 _ rfl, h6 4 _ rfl, h4⟩
set_option maxRecDepth 100000 in
/-- a program that comes in -/
theorem open_program {w : World} {base b : Nat} {v : Value} {sp : Nat → Bool} {d : DataW H} {p : List MemPlace} (hv : Value.okWide Try.prog w .any base 71 v)
    (h : DataW.Trod enc Try.prog w b sp true 71 v d p) : ∃ (pr : Prg) (c0 c1 c2 : Value), v = .agg #[c0, c1, c2] ∧ PrgVal w (fun k => k < w.heap.size) pr c0 c1 c2 := by
  obtain ⟨v0, v1, v2, y0, y1, y2, n, rfl, _, _, h0, h1, h2⟩ := Joins.open_agg3 Try.underlying71 (by kernel_rfl) cells_more.2.2.1 hv h
  obtain ⟨a0, l0, n0, e0, s0⟩ := trod_ints h0
  obtain ⟨a1, l1, n1, e1, s1⟩ := trod_shapes h1
  obtain ⟨a2, l2, n2, e2, s2⟩ := trod_funcs h2
  simp at e0 e1 e2
  exact ⟨⟨l0, l1, l2⟩, v0, v1, v2, rfl, ⟨a0, n0, e0, s0⟩, ⟨a1, n1, e1, s1⟩, a2, n2, e2, s2⟩
end Go.Proofs.Ytmmdppjbofbjhaa
namespace Go.Proofs.Ytmmdppjbofbjhaa

theorem bytesS_extract (l : List Int) (i j : Nat) : (bytesS l).extract i j = bytesS ((l.drop i).take (j - i)) := by
  apply ByteArray.ext
  unfold bytesS
  simp [List.extract_eq_take_drop, List.map_take, List.map_drop]
theorem rNum_cons (x : Int) (l : List Int) (b : Bool) (h : 0 ≤ x ∧ x < 256) : rNum (bytesS (x :: l), b) = (x, (bytesS l, b)) := by
  unfold rNum
  have hs : ¬ (bytesS (x :: l)).size < 1 := by rw [bytesS_size]; simp
  rw [if_neg hs, gb_bytesS (x :: l) 0 (by simp) (by simpa using h), bytesS_extract, bytesS_size]
  simp
theorem rTake_app (l m : List Int) (b : Bool) : rTake (bytesS (l ++ m), b) l.length = (bytesS l, (bytesS m, b)) := by
  unfold rTake
  rw [if_neg (by rw [bytesS_size]; simp), bytesS_extract, bytesS_extract, bytesS_size]
  simp
def okB (l : List Int) : Prop := ∀ x ∈ l, 0 ≤ x ∧ x < 256
theorem okB_of (l : List Int) (h : badB l = false) : okB l := fun x hx => by
  unfold badB at h
  rw [List.any_eq_false] at h
  have := h x hx
  simp at this
  omega
theorem lowB_ok (l : List Int) (h : okB l) : lowB l = l := by
  unfold lowB
  conv => rhs; rw [← List.map_id l]
  apply List.map_congr_left
  intro x hx
  have := h x hx
  show x % 256 = x
  omega
theorem rNums_app (l : List Int) (m : List Int) (b : Bool) (h : okB l) : rNums (bytesS (l ++ m), b) l.length = (l, (bytesS m, b)) := by
  have key : ∀ k, k ≤ l.length → rNums (bytesS (l ++ m), b) k = (l.take k, (bytesS (l.drop k ++ m), b)) := by
    intro k
    induction k with
    | zero => intro _; simp [rNums]
    | succ k ih =>
      intro hk
      have hk' : k < l.length := by omega
      have hd : l.drop k = l[k] :: l.drop (k + 1) := (List.getElem_cons_drop (h := hk')).symm
      unfold rNums
      rw [ih (by omega), hd, List.cons_append, rNum_cons _ _ _ (h _ (List.getElem_mem hk')), take_snoc l k hk']
  have := key l.length (Nat.le_refl _)
  rw [this]
  simp
theorem rList_app (l m : List Int) (b : Bool) (h : okB l) (hl : l.length ≤ 255) : rList (bytesS ((l.length : Int) :: l ++ m), b) = (l, (bytesS m, b)) := by
  unfold rList
  rw [List.cons_append, rNum_cons _ _ _ (by omega)]
  simp only [Int.toNat_natCast]
  exact rNums_app l m b h
/-- what nums and list lay, if they may -/
theorem wNums_ok (s : List Int × Bool) (l : List Int) (h : (wNums s l).2 = false) : s.2 = false ∧ okB l ∧ (wNums s l).1 = s.1 ++ l := by
  unfold wNums at h ⊢
  simp at h
  have ho := okB_of l h.2
  exact ⟨h.1, ho, by simp [lowB_ok l ho]⟩
theorem wList_ok (s : List Int × Bool) (l : List Int) (h : (wList s l).2 = false) : s.2 = false ∧ okB l ∧ l.length ≤ 255 ∧ (wList s l).1 = s.1 ++ ((l.length : Int) :: l) := by
  unfold wList at h ⊢
  obtain ⟨h1, h2, h3⟩ := wNums_ok _ _ h
  obtain ⟨h4, h5, h6⟩ := wNums_ok _ _ h1
  have := h5 (l.length : Int) (by simp)
  exact ⟨h4, h2, by omega, by rw [h3, h6]; simp⟩
def encL (l : List Int) : List Int := (l.length : Int) :: l
def encF (f : Fun) : List Int := encL f.args ++ [f.result, f.slots] ++ encL f.objects ++ [(f.code.length : Int)] ++ layL f.code
def okF (f : Fun) : Prop := okB f.args ∧ f.args.length ≤ 255 ∧ (0 ≤ f.result ∧ f.result < 256) ∧ (0 ≤ f.slots ∧ f.slots < 256) ∧ okB f.objects ∧ f.objects.length ≤ 255 ∧ f.code.length ≤ 255 ∧ laid f.code = true
theorem wFn_ok (s : List Int × Bool) (f : Fun) (h : (wFn s f).2 = false) : s.2 = false ∧ okF f ∧ (wFn s f).1 = s.1 ++ encF f := by
  unfold wFn at h ⊢
  dsimp only at h ⊢
  simp only [Bool.or_eq_false_iff, Bool.not_eq_false'] at h
  obtain ⟨h1, hlaid⟩ := h
  obtain ⟨h2, h3, h4⟩ := wNums_ok _ _ h1
  obtain ⟨h5, h6, h7, h8⟩ := wList_ok _ _ h2
  obtain ⟨h9, h10, h11⟩ := wNums_ok _ _ h5
  obtain ⟨h12, h13, h14, h15⟩ := wList_ok _ _ h9
  have hr := h10 f.result (by simp)
  have hs := h10 f.slots (by simp)
  have hc := h3 (f.code.length : Int) (by simp)
  refine ⟨h12, ⟨h13, h14, hr, hs, h6, h7, by omega, hlaid⟩, ?_⟩
  rw [h4, h8, h11, h15, if_pos hlaid]
  simp [encF, encL, List.append_assoc]
theorem rFn_app (f : Fun) (m : List Int) (b : Bool) (h : okF f) : rFn (bytesS (encF f ++ m), b) = (f, (bytesS m, b)) := by
  obtain ⟨h1, h2, h3, h4, h5, h6, h7, h8⟩ := h
  unfold rFn
  have e : encF f ++ m = (f.args.length : Int) :: f.args ++ (f.result :: (f.slots :: ((f.objects.length : Int) :: f.objects ++ ((f.code.length : Int) :: (layL f.code ++ m))))) := by simp [encF, encL, List.append_assoc]
  rw [e, rList_app _ _ _ h1 h2]
  dsimp only
  rw [rNum_cons _ _ _ h3]
  dsimp only
  rw [rNum_cons _ _ _ h4]
  dsimp only
  rw [rList_app _ _ _ h5 h6]
  dsimp only
  rw [rNum_cons _ _ _ (by omega)]
  dsimp only
  have hlen : ((f.code.length : Int).toNat * 7) = (layL f.code).length := by rw [layL_len]; simp; omega
  rw [hlen, rTake_app]
  dsimp only
  obtain ⟨r1, r2⟩ := read_lay f.code h8
  rw [r1, r2]
  simp
end Go.Proofs.Ytmmdppjbofbjhaa
