/- Walk: besomref1.Same. -/
import Derived.Test.YtmmdppjbofbjhaaEqs
import Derived.Test.YtmmdppjbofbjhaaBox
import Derived.BigRegion
import Derived.Deep.DeepCutAuto
namespace Go.Proofs.Ytmmdppjbofbjhaa
open Go.ChangeShapes Go.WideShapes Go.ChangeAt Go.RowKit

/-- two instructions, compared -/
theorem ins_eq_run (x y : Ins) (w : World) : (Op.equalIn 10000 58 (.agg #[.int .i64 x.op, .int .i64 x.a, .int .i64 x.b, .int .i64 x.c]) (.agg #[.int .i64 y.op, .int .i64 y.a, .int .i64 y.b, .int .i64 y.c])).run Try.prog w = .ok (decide (x = y)) w := by
  obtain ⟨x0, x1, x2, x3⟩ := x
  obtain ⟨y0, y1, y2, y3⟩ := y
  by_cases h0 : x0 = y0
  · by_cases h1 : x1 = y1
    · by_cases h2 : x2 = y2
      · by_cases h3 : x3 = y3
        · subst h0 h1 h2 h3; go_simp
        · subst h0 h1 h2
          have : (x3 == y3) = false := by simpa using h3
          go_simp
      · subst h0 h1
        have : (x2 == y2) = false := by simpa using h2
        go_simp
    · subst h0
      have : (x1 == y1) = false := by simpa using h1
      go_simp
  · have : (x0 == y0) = false := by simpa using h0
    go_simp
set_option maxRecDepth 100000 in
set_option maxHeartbeats 3200000 in
theorem rsame_any (w : World) (D D' : Nat → Prop) (p q : Prg) (c0 c1 c2 d0 d1 d2 : Value) (hp : PrgVal w D p c0 c1 c2) (hq : PrgVal w D' q d0 d1 d2) (hnp : PrgOk p) (hnq : PrgOk q) :
    Calls Try.prog 62 #[.agg #[c0, c1, c2], .agg #[d0, d1, d2]] w fun e w' => e = .returned (.bool (decide (p = q))) ∧ Below w.heap.size w w' := by
  have hpq := prg_eq p q
  rw [hpq]
  clear hpq
  obtain ⟨⟨a0, m0, rfl, hs0⟩, ⟨a1, m1, rfl, hs1⟩, a2, m2, rfl, hs2⟩ := hp
  obtain ⟨⟨b0, n0, rfl, ht0⟩, ⟨b1, n1, rfl, ht1⟩, b2, n2, rfl, ht2⟩ := hq
  have hsh : ∀ x ∈ p.shapes, x.length ≤ 1000000 := fun x hx => by have := sum_mem shBulk p.shapes x hx; unfold PrgOk bulk at hnp; unfold shBulk at *; omega
  have hsh' : ∀ x ∈ q.shapes, x.length ≤ 1000000 := fun x hx => by have := sum_mem shBulk q.shapes x hx; unfold PrgOk bulk at hnq; unfold shBulk at *; omega
  have hfn : ∀ x ∈ p.funcs, fnBulk x ≤ 1000000 := fun x hx => by have := sum_mem fnBulk p.funcs x hx; unfold PrgOk bulk at hnp; omega
  have hfn' : ∀ x ∈ q.funcs, fnBulk x ≤ 1000000 := fun x hx => by have := sum_mem fnBulk q.funcs x hx; unfold PrgOk bulk at hnq; omega
  unfold PrgOk bulk at hnp hnq
  have i0 : ∀ wr, Below w.heap.size w wr → Calls Try.prog 123 #[.slice a0 p.globals.length m0, .slice b0 q.globals.length n0] wr fun e w' => e = .returned (.bool (decide (p.globals = q.globals))) ∧ Below wr.heap.size wr w' := fun wr hb =>
    Calls.drawn (rints_any wr D D' a0 b0 _ _ m0 n0 (hs0.fr (Fr.of_below hb (fun _ => False)) (fun _ _ h => h)) (ht0.fr (Fr.of_below hb (fun _ => False)) (fun _ _ h => h)) (by omega) (by omega))
  have hbx := box2 w #[.slice a0 p.globals.length m0, .slice a1 p.shapes.length m1, .slice a2 p.funcs.length m2] #[.slice b0 q.globals.length n0, .slice b1 q.shapes.length n1, .slice b2 q.funcs.length n2] 71 71
  have hB0 : Below w.heap.size w ((w.alloc (.cells #[.slice a0 p.globals.length m0, .slice a1 p.shapes.length m1, .slice a2 p.funcs.length m2] 71)).alloc (.cells #[.slice b0 q.globals.length n0, .slice b1 q.shapes.length n1, .slice b2 q.funcs.length n2] 71)) := ((Below.refl _ _).alloc (Nat.le_refl _) _).alloc (by simp) _
  obtain ⟨W0, hW0⟩ : ∃ W0, W0 = (w.alloc (.cells #[.slice a0 p.globals.length m0, .slice a1 p.shapes.length m1, .slice a2 p.funcs.length m2] 71)).alloc (.cells #[.slice b0 q.globals.length n0, .slice b1 q.shapes.length n1, .slice b2 q.funcs.length n2] 71) := ⟨_, rfl⟩
  rw [← hW0] at hbx hB0
  have hz0 : W0.heap.size = w.heap.size + 2 := by rw [hW0]; simp
  have hlp : p.shapes.length ≤ 1000000 ∧ p.funcs.length ≤ 1000000 := by omega
  have hlq : q.shapes.length ≤ 1000000 ∧ q.funcs.length ≤ 1000000 := by omega
  obtain ⟨hlp1, hlp2⟩ := hlp
  obtain ⟨hlq1, hlq2⟩ := hlq
  clear hnp hnq hs0 ht0
  generalize hu0 : decide (p.globals = q.globals) = u0 at *
  generalize hu1 : decide (p.shapes = q.shapes) = u1 at *
  generalize hu2 : decide (p.funcs = q.funcs) = u2 at *
  clear hu0
  have HU1 := Lib.hid hu1; clear hu1
  have HU2 := Lib.hid hu2; clear hu2
  have HSH := Lib.hid hsh; clear hsh
  have HSH' := Lib.hid hsh'; clear hsh'
  have HFN := Lib.hid hfn; clear hfn
  have HFN' := Lib.hid hfn'; clear hfn'
  have I0 := Lib.hid i0; clear i0
  have HBX := Lib.hid hbx; clear hbx
  have HB0 := Lib.hid hB0; clear hB0
  have HW0 := Lib.hid hW0; clear hW0
  have HZ0 := Lib.hid hz0; clear hz0
  have HS1 := Lib.hid hs1; clear hs1
  have HS2 := Lib.hid hs2; clear hs2
  have HT1 := Lib.hid ht1; clear ht1
  have HT2 := Lib.hid ht2; clear ht2
  go_enter Try.func62, Try.ntmps62
  go_wp2_with fail
  rw [← HW0.out]
  refine (I0.out _ HB0.out).mono ?_
  rintro e w1 ⟨rfl, hb1⟩
  rw [HZ0.out] at hb1
  have hx := HBX.out w1 hb1
  obtain ⟨hx1, hx2, hbw, hsz⟩ := hx
  have q1 := hx1 1 _ rfl
  have q2 := hx1 2 _ rfl
  have r1 := hx2 1 _ rfl
  have r2 := hx2 2 _ rfl
  clear hx1 hx2
  have HBW := Lib.hid hbw; clear hbw
  have HB1 := Lib.hid hb1; clear hb1
  cases u0
  · go_wp2_with fail
    go_ret
    exact ⟨rfl, HBW.out⟩
  by_cases hl1 : p.shapes.length = q.shapes.length
  case neg =>
    have h1 : ((p.shapes.length : Int) != (q.shapes.length : Int)) = true := by rw [bne_iff_ne]; omega
    have h2 : decide (p.shapes = q.shapes) = false := by simp; intro h; rw [h] at hl1; exact hl1 rfl
    rw [HU1.out] at h2
    subst h2
    clear hl1
    go_wp2_with fail
    go_ret
    exact ⟨rfl, HBW.out⟩
  by_cases hl2 : p.funcs.length = q.funcs.length
  case neg =>
    have h1 : ((p.shapes.length : Int) != (q.shapes.length : Int)) = false := by rw [bne_eq_false_iff_eq]; omega
    have h3 : ((p.funcs.length : Int) != (q.funcs.length : Int)) = true := by rw [bne_iff_ne]; omega
    have h2 : decide (p.funcs = q.funcs) = false := by simp; intro h; rw [h] at hl2; exact hl2 rfl
    rw [HU2.out] at h2
    subst h2
    clear hl1 hl2
    go_wp2_with fail
    go_ret
    exact ⟨by cases u1 <;> rfl, HBW.out⟩
  have h1 : ((p.shapes.length : Int) != (q.shapes.length : Int)) = false := by rw [bne_eq_false_iff_eq]; omega
  have h3 : ((p.funcs.length : Int) != (q.funcs.length : Int)) = false := by rw [bne_eq_false_iff_eq]; omega
  have HL1 := Lib.hid hl1
  have HL2 := Lib.hid hl2
  clear hl1 hl2
  go_wp2_with fail
  clear h1 h3 q1 q2 r1 r2
  go_loopw [5] (fun i wr => ∃ k : Nat, k ≤ p.shapes.length ∧ i = .int .i64 k ∧ p.shapes.take k = q.shapes.take k ∧ Below (w.heap.size + 2) W0 wr) (fun i _ => p.shapes.length - (intOf i).toNat)
  case atStart => exact ⟨0, Nat.zero_le _, rfl, rfl, HB1.out⟩
  case round =>
    obtain ⟨k, hk, rfl, ht, hB⟩ := hrel
    obtain ⟨hx1, hx2, hbw, hsz2⟩ := HBX.out wr hB
    have q1 := hx1 1 _ rfl
    have q2 := hx1 2 _ rfl
    have r1 := hx2 1 _ rfl
    have r2 := hx2 2 _ rfl
    clear hx1 hx2 HBW
    have HBW := Lib.hid hbw; clear hbw
    by_cases hlt : k < p.shapes.length
    · have hlt2 : k < q.shapes.length := by have := HL1.out; omega
      obtain ⟨b, o, rfl, _, x1, x2, hx, hxs⟩ := HS1.out k hlt
      obtain ⟨b', o', rfl, _, y1, y2, hy, hys⟩ := HT1.out k hlt2
      have hx := below_cell HBW.out hx
      have hy := below_cell HBW.out hy
      have hst := list_eq_step p.shapes q.shapes k hlt hlt2 ht
      have ri := fun n => rints_any (wr.drewN n) D D' x1 y1 p.shapes[k] q.shapes[k] x2 y2 (hxs.fr ((Fr.of_below HBW.out (fun _ => False)).drewN n) (fun _ _ h => h)) (hys.fr ((Fr.of_below HBW.out (fun _ => False)).drewN n) (fun _ _ h => h)) (HSH.out _ (List.getElem_mem hlt)) (HSH'.out _ (List.getElem_mem hlt2))
      clear hxs hys ht
      have HST := Lib.hid hst; clear hst
      have RI := Lib.hid ri; clear ri
      have HB := Lib.hid hB; clear hB
      cases hd : decide (p.shapes[k] = q.shapes[k])
      · have hno := HST.out.2 hd
        rw [HU1.out] at hno
        rw [hd] at RI
        subst hno
        clear hd
        go_wp2_with fail
        go_quiet ((go_at_call 123; exact Calls.quiet_of (RI.out _)))
        go_wp2_with fail
        go_ret
        exact ⟨rfl, below_drewN HBW.out _⟩
      · have hyes := HST.out.1 hd
        rw [hd] at RI
        have HYES := Lib.hid hyes; clear hyes
        clear hd
        go_wp2_with fail
        go_quiet ((go_at_call 123; exact Calls.quiet_of (RI.out _)))
        go_wp2_with fail
        go_roundw
        case rel => exact ⟨k + 1, by omega, by go_num, HYES.out, below_drewN HB.out _⟩
        case measure => simp [intOf]; omega
    · have hd : decide (p.shapes = q.shapes) = true := by
        have h := HL1.out
        have hk2 : k = p.shapes.length := by omega
        rw [hk2, List.take_length, List.take_of_length_le (by omega)] at ht
        simpa using ht
      rw [HU1.out] at hd
      subst hd
      have HB := Lib.hid hB; clear hB
      clear ht
      go_wp2_with fail
      clear q1 q2 r1 r2
      go_loopw [6] (fun i wr => ∃ k : Nat, k ≤ p.funcs.length ∧ i = .int .i64 k ∧ p.funcs.take k = q.funcs.take k ∧ Below (w.heap.size + 2) W0 wr) (fun i _ => p.funcs.length - (intOf i).toNat)
      case atStart => exact ⟨0, Nat.zero_le _, rfl, rfl, HB.out⟩
      case round =>
        obtain ⟨j, hj, rfl, ht, hB2⟩ := hrel
        clear HBW
        obtain ⟨hx1, hx2, hbw, hsz3⟩ := HBX.out wr hB2
        have q2 := hx1 2 _ rfl
        have r2 := hx2 2 _ rfl
        clear hx1 hx2
        have HBW := Lib.hid hbw; clear hbw
        by_cases hlt2 : j < p.funcs.length
        · have hlt3 : j < q.funcs.length := by have := HL2.out; omega
          obtain ⟨b, o, rfl, _, x0, x1, x2, x3, x4, p0, p1, p2, p3, p4, ⟨e1, e2, ⟨s0, s1, e3, hxs0⟩, ⟨s2, s3, e4, hxs3⟩, s4, s5, e5, hxs4⟩⟩ := HS2.out j hlt2
          obtain ⟨b', o', rfl, _, y0, y1, y2, y3, y4, t0, t1, t2, t3, t4, ⟨g1, g2, ⟨y5, y6, g3, hys0⟩, ⟨y7, y8, g4, hys3⟩, y9, y10, g5, hys4⟩⟩ := HT2.out j hlt3
          subst e1 e2 e3 e4 e5 g1 g2 g3 g4 g5
          have p0 := below_cell HBW.out p0
          have p1 := below_cell HBW.out p1
          have p2 := below_cell HBW.out p2
          have p3 := below_cell HBW.out p3
          have p4 := below_cell HBW.out p4
          have t0 := below_cell HBW.out t0
          have t1 := below_cell HBW.out t1
          have t2 := below_cell HBW.out t2
          have t3 := below_cell HBW.out t3
          have t4 := below_cell HBW.out t4
          have hst := list_eq_step p.funcs q.funcs j hlt2 hlt3 ht
          have hfe := fun_eq p.funcs[j] q.funcs[j]
          rw [hfe, HU2.out] at hst
          have hb1 := HFN.out _ (List.getElem_mem hlt2)
          have hb2 := HFN'.out _ (List.getElem_mem hlt3)
          unfold fnBulk at hb1 hb2
          have call0 := fun W (hb : Below wr.heap.size wr W) => rints_any W D D' s0 y5 p.funcs[j].args q.funcs[j].args s1 y6 (hxs0.fr ((Fr.of_below HBW.out (fun _ => False)).trans (Fr.of_below hb (fun _ => False)) (fun _ _ h => h)) (fun _ _ h => h)) (hys0.fr ((Fr.of_below HBW.out (fun _ => False)).trans (Fr.of_below hb (fun _ => False)) (fun _ _ h => h)) (fun _ _ h => h)) (by omega) (by omega)
          have call3 := fun W (hb : Below wr.heap.size wr W) => rints_any W D D' s2 y7 p.funcs[j].objects q.funcs[j].objects s3 y8 (hxs3.fr ((Fr.of_below HBW.out (fun _ => False)).trans (Fr.of_below hb (fun _ => False)) (fun _ _ h => h)) (fun _ _ h => h)) (hys3.fr ((Fr.of_below HBW.out (fun _ => False)).trans (Fr.of_below hb (fun _ => False)) (fun _ _ h => h)) (fun _ _ h => h)) (by omega) (by omega)
          have code1 := fun W (hb : Below wr.heap.size wr W) => hxs4.fr ((Fr.of_below HBW.out (fun _ => False)).trans (Fr.of_below hb (fun _ => False)) (fun _ _ h => h)) (fun _ _ h => h)
          have code2 := fun W (hb : Below wr.heap.size wr W) => hys4.fr ((Fr.of_below HBW.out (fun _ => False)).trans (Fr.of_below hb (fun _ => False)) (fun _ _ h => h)) (fun _ _ h => h)
          clear ht hfe hxs0 hxs3 hxs4 hys0 hys3 hys4
          generalize hv0 : decide (p.funcs[j].args = q.funcs[j].args) = v0 at *
          generalize hv3 : decide (p.funcs[j].objects = q.funcs[j].objects) = v3 at *
          generalize hv4 : decide (p.funcs[j].code = q.funcs[j].code) = v4 at *
          generalize p.funcs[j].result = r1 at *
          generalize q.funcs[j].result = r2 at *
          generalize p.funcs[j].slots = l1 at *
          generalize q.funcs[j].slots = l2 at *
          generalize p.funcs[j].args = ar1 at *
          generalize q.funcs[j].args = ar2 at *
          generalize p.funcs[j].objects = ob1 at *
          generalize q.funcs[j].objects = ob2 at *
          generalize p.funcs[j].code = cd1 at *
          generalize q.funcs[j].code = cd2 at *
          have hcl1 : cd1.length ≤ 1000000 := by omega
          have hcl2 : cd2.length ≤ 1000000 := by omega
          clear hb1 hb2 hv0 hv3
          have HST := Lib.hid hst; clear hst
          have HB2 := Lib.hid hB2; clear hB2
          have HV4 := Lib.hid hv4; clear hv4
          have CALL0 := Lib.hid call0; clear call0
          have CALL3 := Lib.hid call3; clear call3
          have CODE1 := Lib.hid code1; clear code1
          have CODE2 := Lib.hid code2; clear code2
          have z0 : w.heap.size < wr.heap.size := by omega
          have z1 : w.heap.size + 1 < wr.heap.size := by omega
          have z2 := World.block_lt p0
          have z3 := World.block_lt t0
          dsimp only at z2 z3
          go_upto_region 11 with fail
          go_cut [7, 8] (fun s7 s8 wx => ∃ F G : Nat, s7 = .pointer (some ⟨F, 0, none⟩) ∧ s8 = .pointer (some ⟨G, 0, none⟩) ∧ (wx.cell? ⟨F, 0, none⟩ = some (.slice s0 ar1.length s1) ∧ wx.cell? ⟨F, 1, none⟩ = some (.int .i64 r1) ∧ wx.cell? ⟨F, 2, none⟩ = some (.int .i64 l1) ∧ wx.cell? ⟨F, 3, none⟩ = some (.slice s2 ob1.length s3) ∧ wx.cell? ⟨F, 4, none⟩ = some (.slice s4 cd1.length s5)) ∧ (wx.cell? ⟨G, 0, none⟩ = some (.slice y5 ar2.length y6) ∧ wx.cell? ⟨G, 1, none⟩ = some (.int .i64 r2) ∧ wx.cell? ⟨G, 2, none⟩ = some (.int .i64 l2) ∧ wx.cell? ⟨G, 3, none⟩ = some (.slice y7 ob2.length y8) ∧ wx.cell? ⟨G, 4, none⟩ = some (.slice y9 cd2.length y10)) ∧ Below wr.heap.size wr wx)
          case first =>
            go_region
            all_goals
              go_wp2_with fail
              go_meet
              case rel =>
                have h1 := new2 wr #[.slice s0 ar1.length s1, .int .i64 r1, .int .i64 l1, .slice s2 ob1.length s3, .slice s4 cd1.length s5] #[.slice y5 ar2.length y6, .int .i64 r2, .int .i64 l2, .slice y7 ob2.length y8, .slice y9 cd2.length y10] 86 86
                have h2 := new2 wr #[.slice y5 ar2.length y6, .int .i64 r2, .int .i64 l2, .slice y7 ob2.length y8, .slice y9 cd2.length y10] #[.slice s0 ar1.length s1, .int .i64 r1, .int .i64 l1, .slice s2 ob1.length s3, .slice s4 cd1.length s5] 86 86
                first
                | exact ⟨_, _, rfl, rfl, ⟨h1.1 0 _ rfl, h1.1 1 _ rfl, h1.1 2 _ rfl, h1.1 3 _ rfl, h1.1 4 _ rfl⟩, ⟨h1.2.1 0 _ rfl, h1.2.1 1 _ rfl, h1.2.1 2 _ rfl, h1.2.1 3 _ rfl, h1.2.1 4 _ rfl⟩, h1.2.2⟩
                | exact ⟨_, _, rfl, rfl, ⟨h2.2.1 0 _ rfl, h2.2.1 1 _ rfl, h2.2.1 2 _ rfl, h2.2.1 3 _ rfl, h2.2.1 4 _ rfl⟩, ⟨h2.1 0 _ rfl, h2.1 1 _ rfl, h2.1 2 _ rfl, h2.1 3 _ rfl, h2.1 4 _ rfl⟩, h2.2.2⟩
          case rest =>
            obtain ⟨F, G, rfl, rfl, ⟨f0, f1, f2, f3, f4⟩, ⟨g0, g1, g2, g3, g4⟩, hbl⟩ := hcut
            have HBL := Lib.hid hbl; clear hbl
            clear p0 p1 p2 p3 p4 t0 t1 t2 t3 t4 z0 z1 z2 z3
            go_wp2_with fail
            refine (CALL0.out _ HBL.out).mono ?_
            rintro e w1 ⟨rfl, n1, rfl⟩
            cases v0
            · skip
              have hno := HST.out.2 (by simp [*])
              subst hno
              go_wp2_with fail
              go_ret
              exact ⟨rfl, by first | exact below_drewN (HBW.out.trans (HBL.out.mono HBW.out.size)) _ | exact below_drewN (below_drewN (HBW.out.trans (HBL.out.mono HBW.out.size)) _) _⟩
            by_cases h1 : r1 = r2
            case neg =>
              have h1' : (r1 == r2) = false := by simpa using h1
              have h1'' : (r1 != r2) = true := by simpa using h1
              have hno := HST.out.2 (by simp [*])
              subst hno
              go_wp2_with fail
              go_ret
              exact ⟨rfl, by first | exact below_drewN (HBW.out.trans (HBL.out.mono HBW.out.size)) _ | exact below_drewN (below_drewN (HBW.out.trans (HBL.out.mono HBW.out.size)) _) _⟩
            subst h1
            by_cases h2 : l1 = l2
            case neg =>
              have h2' : (l1 == l2) = false := by simpa using h2
              have h2'' : (l1 != l2) = true := by simpa using h2
              have hno := HST.out.2 (by simp [*])
              subst hno
              go_wp2_with fail
              go_ret
              exact ⟨rfl, by first | exact below_drewN (HBW.out.trans (HBL.out.mono HBW.out.size)) _ | exact below_drewN (below_drewN (HBW.out.trans (HBL.out.mono HBW.out.size)) _) _⟩
            subst h2
            go_wp2_with fail
            refine (CALL3.out _ (below_drewN HBL.out _)).mono ?_
            rintro e w1 ⟨rfl, n2, rfl⟩
            cases v3
            · skip
              have hno := HST.out.2 (by simp [*])
              subst hno
              go_wp2_with fail
              go_ret
              exact ⟨rfl, by first | exact below_drewN (HBW.out.trans (HBL.out.mono HBW.out.size)) _ | exact below_drewN (below_drewN (HBW.out.trans (HBL.out.mono HBW.out.size)) _) _⟩
            by_cases h3 : cd1.length = cd2.length
            case neg =>
              have h3' : ((cd1.length : Int) != (cd2.length : Int)) = true := by rw [bne_iff_ne]; omega
              have h4 : v4 = false := by rw [← HV4.out]; simp; intro h; rw [h] at h3; exact h3 rfl
              subst h4
              clear h3
              have hno := HST.out.2 (by simp [*])
              subst hno
              go_wp2_with fail
              go_ret
              exact ⟨rfl, by first | exact below_drewN (HBW.out.trans (HBL.out.mono HBW.out.size)) _ | exact below_drewN (below_drewN (HBW.out.trans (HBL.out.mono HBW.out.size)) _) _⟩
            have h3' : ((cd1.length : Int) != (cd2.length : Int)) = false := by rw [bne_eq_false_iff_eq]; omega
            have H3 := Lib.hid h3; clear h3
            go_wp2_with fail
            clear h3'
            go_loopw [9] (fun i wx => ∃ m : Nat, m ≤ cd1.length ∧ i = .int .i64 m ∧ cd1.take m = cd2.take m ∧ wx.cell? ⟨F, 4, none⟩ = some (.slice s4 cd1.length s5) ∧ wx.cell? ⟨G, 4, none⟩ = some (.slice y9 cd2.length y10) ∧ Below wr.heap.size wr wx) (fun i _ => cd1.length - (intOf i).toNat)
            case atStart => exact ⟨0, Nat.zero_le _, rfl, rfl, f4, g4, by first | exact below_drewN HBL.out _ | exact below_drewN (below_drewN HBL.out _) _⟩
            case round =>
              obtain ⟨m, hm, rfl, ht, c1, c2, hBx⟩ := hrel
              by_cases hlt : m < cd1.length
              · have hlt2 : m < cd2.length := by have := H3.out; omega
                obtain ⟨b1, o1, rfl, _, e0, e1, e2, e3⟩ := CODE1.out _ hBx m hlt
                obtain ⟨b2, o2, rfl, _, g0, g1, g2, g3⟩ := CODE2.out _ hBx m hlt2
                have hs := list_eq_step cd1 cd2 m hlt hlt2 ht
                rw [HV4.out] at hs
                clear ht
                generalize cd1[m] = x at *
                generalize cd2[m] = y at *
                by_cases hxy : x = y
                · subst hxy
                  have hs2 := hs.1 (by simp)
                  clear hs
                  have HS2 := Lib.hid hs2; clear hs2
                  have HBX := Lib.hid hBx; clear hBx
                  go_wp2_with fail
                  go_quiet (fail)
                  go_wp2_with fail
                  go_roundw
                  case rel => exact ⟨m + 1, by omega, by go_num, HS2.out, c1, c2, below_drewN HBX.out _⟩
                  case measure => simp [intOf]; omega
                · have h4 := hs.2 (by simpa using hxy)
                  subst h4
                  clear hs
                  have hno := HST.out.2 (by simp)
                  subst hno
                  have HBX := Lib.hid hBx; clear hBx
                  have he := ins_eq_run x y
                  rw [show decide (x = y) = false from by simpa using hxy] at he
                  clear hxy
                  go_wp2_with fail
                  go_quiet (fail)
                  go_wp2_with fail
                  go_ret
                  exact ⟨rfl, HBW.out.trans ((below_drewN HBX.out _).mono HBW.out.size)⟩
              · have h4 : v4 = true := by
                  rw [← HV4.out]
                  have h := H3.out
                  have hk2 : m = cd1.length := by omega
                  rw [hk2, List.take_length, List.take_of_length_le (by omega)] at ht
                  simpa using ht
                subst h4
                have hyes := HST.out.1 (by simp)
                have HYES := Lib.hid hyes; clear hyes
                have HBX := Lib.hid hBx; clear hBx
                clear ht
                go_wp2_with fail
                go_roundw
                case rel => exact ⟨j + 1, by omega, by go_num, HYES.out, HB2.out.trans (HBX.out.mono (by have := HB2.out.size; omega))⟩
                case measure => simp [intOf]; omega
        · have hd : decide (p.funcs = q.funcs) = true := by
            have h := HL2.out
            have hk2 : j = p.funcs.length := by omega
            rw [hk2, List.take_length, List.take_of_length_le (by omega)] at ht
            simpa using ht
          rw [HU2.out] at hd
          subst hd
          clear ht hB2
          go_wp2_with fail
          go_ret
          exact ⟨rfl, HBW.out⟩
end Go.Proofs.Ytmmdppjbofbjhaa
