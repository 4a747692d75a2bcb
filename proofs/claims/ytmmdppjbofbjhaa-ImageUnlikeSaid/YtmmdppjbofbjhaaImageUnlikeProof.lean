/- Two programs have the same bytes just if they are alike. No condition: for every input. -/
import Derived.Test.YtmmdppjbofbjhaaRSame
import Derived.Test.YtmmdppjbofbjhaaOpenP
import Derived.Test.YtmmdppjbofbjhaaPlainR
import Derived.Test.YtmmdppjbofbjhaaLaw
namespace Go.Proofs.Ytmmdppjbofbjhaa.imageUnlike
open Go.ChangeShapes Go.WideShapes Go.ChangeAt Go.RowKit

theorem same_bytes (p q : Prg) (hp : okP p) (hq : okP q) : decide (bytesS (encP p) = bytesS (encP q)) = decide (p = q) := by
  by_cases h : p = q
  · subst h; simp
  · have : ¬ bytesS (encP p) = bytesS (encP q) := fun e => h (by
      have h1 := (laid_ok p hp).2
      have h2 := (laid_ok q hq).2
      rw [← h1, ← h2, e])
    simp [h, this]
theorem str_beq (s t : ByteArray) : (s.toList == t.toList) = decide (s = t) := by
  rw [Bool.eq_iff_iff]
  simp only [beq_iff_eq, decide_eq_true_eq, ByteArray.toList_eq]
  exact ⟨fun h => ByteArray.ext (Array.ext' h), fun h => by rw [h]⟩
set_option maxRecDepth 100000 in
set_option maxHeartbeats 3200000 in
theorem walk (w : World) (v : Value) (hv : ∃ (pr : Prg) (c0 c1 c2 : Value), v = .agg #[c0, c1, c2] ∧ PrgVal w (fun k => k < w.heap.size) pr c0 c1 c2) (v' : Value) (hv' : ∃ (pr : Prg) (c0 c1 c2 : Value), v' = .agg #[c0, c1, c2] ∧ PrgVal w (fun k => k < w.heap.size) pr c0 c1 c2) :
    Calls Try.prog 14 #[v, v'] w fun e w' => e = .returned (.bool true) ∧ Below w.heap.size w w' := by
  obtain ⟨p, c0, c1, c2, rfl, hp⟩ := hv
  obtain ⟨q, d0, d1, d2, rfl, hq⟩ := hv'
  have hP : ∀ wr, Below w.heap.size w wr → PrgVal wr (fun k => k < w.heap.size) p c0 c1 c2 := fun wr hb => hp.fr (Fr.of_below hb (fun _ => False)) (fun _ _ h => h)
  have hQ : ∀ wr, Below w.heap.size w wr → PrgVal wr (fun k => k < w.heap.size) q d0 d1 d2 := fun wr hb => hq.fr (Fr.of_below hb (fun _ => False)) (fun _ _ h => h)
  have sp := fun wr hb => small_any wr _ p _ _ _ (hP wr hb)
  have sq := fun wr hb => small_any wr _ q _ _ _ (hQ wr hb)
  have al := fun wr (_ : Below w.heap.size w wr) => alive10 wr
  have lp := fun wr hb => layP_any wr _ p _ _ _ (hP wr hb) (fun k hk => by have := hb.size; have : k < w.heap.size := hk; omega)
  have lq := fun wr hb => layP_any wr _ q _ _ _ (hQ wr hb) (fun k hk => by have := hb.size; have : k < w.heap.size := hk; omega)
  have sm := fun wr hb => rsame_any wr _ _ p q _ _ _ _ _ _ (hP wr hb) (hQ wr hb)
  obtain ⟨⟨a0, m0, rfl, _⟩, ⟨a1, m1, rfl, _⟩, a2, m2, rfl, _⟩ := hp
  obtain ⟨⟨b0, n0, rfl, _⟩, ⟨b1, n1, rfl, _⟩, b2, n2, rfl, _⟩ := hq
  clear hP hQ
  have hbx := box2 w #[.slice a0 p.globals.length m0, .slice a1 p.shapes.length m1, .slice a2 p.funcs.length m2] #[.slice b0 q.globals.length n0, .slice b1 q.shapes.length n1, .slice b2 q.funcs.length n2] 71 71
  have hbw0 : Below w.heap.size w ((w.alloc (.cells #[.slice a0 p.globals.length m0, .slice a1 p.shapes.length m1, .slice a2 p.funcs.length m2] 71)).alloc (.cells #[.slice b0 q.globals.length n0, .slice b1 q.shapes.length n1, .slice b2 q.funcs.length n2] 71)) := ((Below.refl _ _).alloc (Nat.le_refl _) _).alloc (by simp) _
  obtain ⟨W0, hW0⟩ : ∃ W0, W0 = (w.alloc (.cells #[.slice a0 p.globals.length m0, .slice a1 p.shapes.length m1, .slice a2 p.funcs.length m2] 71)).alloc (.cells #[.slice b0 q.globals.length n0, .slice b1 q.shapes.length n1, .slice b2 q.funcs.length n2] 71) := ⟨_, rfl⟩
  rw [← hW0] at hbx hbw0
  have hz0 : w.heap.size + 2 ≤ W0.heap.size := by rw [hW0]; simp
  have hb0 : Below (w.heap.size + 2) W0 W0 := Below.refl _ _
  have k0 := trivial
  have k1 := trivial
  have k2 := trivial
  have l0 := trivial
  have l1 := trivial
  have l2 := trivial
  have AL := Lib.hid al; clear al
  have HBX := Lib.hid hbx; clear hbx
  have HBW0 := Lib.hid hbw0; clear hbw0
  have HB0 := Lib.hid hb0; clear hb0
  have HZ0 := Lib.hid hz0; clear hz0
  have HW0 := Lib.hid hW0; clear hW0
  have SP := Lib.hid sp; clear sp
  have SQ := Lib.hid sq; clear sq
  have LP := Lib.hid lp; clear lp
  have LQ := Lib.hid lq; clear lq
  have SM := Lib.hid sm; clear sm
  by_cases hsp : bulk p ≤ 3000
  case neg =>
    have SP' := SP.out
    rw [decide_eq_false hsp] at SP'
    have SP := Lib.hid SP'
    clear SP' hsp
    go_enter Try.func14, Try.ntmps14
    go_wp2_with fail
    rw [← HW0.out]
    go_wp2_with fail
    refine (SP.out _ HBW0.out).mono ?_
    rintro e w1 ⟨rfl, hb⟩
    clear k0 k1 k2 l0 l1 l2
    have hb := HB0.out.trans (hb.mono (by have := HZ0.out; omega))
    obtain ⟨hx1, hx2, hbw1, hz1⟩ := HBX.out _ hb
    have k0 := hx1 0 _ rfl
    have k1 := hx1 1 _ rfl
    have k2 := hx1 2 _ rfl
    have l0 := hx2 0 _ rfl
    have l1 := hx2 1 _ rfl
    have l2 := hx2 2 _ rfl
    have HB1 := Lib.hid hb
    clear hb hx1 hx2
    have HBW1 := Lib.hid hbw1; clear hbw1
    have HZ1 := Lib.hid hz1
    go_wp2_with fail
    refine (AL.out _ HBW1.out).mono ?_
    rintro e w2 ⟨rfl, hb⟩
    clear k0 k1 k2 l0 l1 l2
    have hb := HB1.out.trans (hb.mono (by have := HZ1.out; omega))
    obtain ⟨hx1, hx2, hbw2, hz2⟩ := HBX.out _ hb
    have k0 := hx1 0 _ rfl
    have k1 := hx1 1 _ rfl
    have k2 := hx1 2 _ rfl
    have l0 := hx2 0 _ rfl
    have l1 := hx2 1 _ rfl
    have l2 := hx2 2 _ rfl
    have HB2 := Lib.hid hb
    clear hb hx1 hx2
    have HBW2 := Lib.hid hbw2; clear hbw2
    have HZ2 := Lib.hid hz2
    go_wp2_with fail
    go_ret
    exact ⟨rfl, HBW2.out⟩
  have SP' := SP.out
  rw [decide_eq_true hsp] at SP'
  have SP := Lib.hid SP'
  clear SP'
  by_cases hsq : bulk q ≤ 3000
  case neg =>
    have SQ' := SQ.out
    rw [decide_eq_false hsq] at SQ'
    have SQ := Lib.hid SQ'
    clear SQ' hsp hsq
    go_enter Try.func14, Try.ntmps14
    go_wp2_with fail
    rw [← HW0.out]
    go_wp2_with fail
    refine (SP.out _ HBW0.out).mono ?_
    rintro e w1 ⟨rfl, hb⟩
    clear k0 k1 k2 l0 l1 l2
    have hb := HB0.out.trans (hb.mono (by have := HZ0.out; omega))
    obtain ⟨hx1, hx2, hbw1, hz1⟩ := HBX.out _ hb
    have k0 := hx1 0 _ rfl
    have k1 := hx1 1 _ rfl
    have k2 := hx1 2 _ rfl
    have l0 := hx2 0 _ rfl
    have l1 := hx2 1 _ rfl
    have l2 := hx2 2 _ rfl
    have HB1 := Lib.hid hb
    clear hb hx1 hx2
    have HBW1 := Lib.hid hbw1; clear hbw1
    have HZ1 := Lib.hid hz1
    go_wp2_with fail
    refine (SQ.out _ HBW1.out).mono ?_
    rintro e w2 ⟨rfl, hb⟩
    clear k0 k1 k2 l0 l1 l2
    have hb := HB1.out.trans (hb.mono (by have := HZ1.out; omega))
    obtain ⟨hx1, hx2, hbw2, hz2⟩ := HBX.out _ hb
    have k0 := hx1 0 _ rfl
    have k1 := hx1 1 _ rfl
    have k2 := hx1 2 _ rfl
    have l0 := hx2 0 _ rfl
    have l1 := hx2 1 _ rfl
    have l2 := hx2 2 _ rfl
    have HB2 := Lib.hid hb
    clear hb hx1 hx2
    have HBW2 := Lib.hid hbw2; clear hbw2
    have HZ2 := Lib.hid hz2
    go_wp2_with fail
    refine (AL.out _ HBW2.out).mono ?_
    rintro e w3 ⟨rfl, hb⟩
    clear k0 k1 k2 l0 l1 l2
    have hb := HB2.out.trans (hb.mono (by have := HZ2.out; omega))
    obtain ⟨hx1, hx2, hbw3, hz3⟩ := HBX.out _ hb
    have k0 := hx1 0 _ rfl
    have k1 := hx1 1 _ rfl
    have k2 := hx1 2 _ rfl
    have l0 := hx2 0 _ rfl
    have l1 := hx2 1 _ rfl
    have l2 := hx2 2 _ rfl
    have HB3 := Lib.hid hb
    clear hb hx1 hx2
    have HBW3 := Lib.hid hbw3; clear hbw3
    have HZ3 := Lib.hid hz3
    go_wp2_with fail
    go_ret
    exact ⟨rfl, HBW3.out⟩
  have SQ' := SQ.out
  rw [decide_eq_true hsq] at SQ'
  have SQ := Lib.hid SQ'
  have lp := fun wr hb => LP.out wr hb hsp
  have lq := fun wr hb => LQ.out wr hb hsq
  have sm := fun wr hb => SM.out wr hb (by unfold PrgOk; omega) (by unfold PrgOk; omega)
  clear SQ' hsp hsq LP LQ SM
  cases hbad : (wProg p).2
  case true =>
    have hres : layPRes p = .tuple #[.string ⟨#[]⟩, .int .i64 1] := by simp [layPRes, hbad]
    rw [hres] at lp
    have hq2 : ∃ s n, layPRes q = .tuple #[.string s, .int .i64 n] := by unfold layPRes; split <;> exact ⟨_, _, rfl⟩
    obtain ⟨s, n, hq2⟩ := hq2
    rw [hq2] at lq
    clear hres hq2 hbad
    have LP := Lib.hid lp; clear lp
    have LQ := Lib.hid lq; clear lq
    go_enter Try.func14, Try.ntmps14
    go_wp2_with fail
    rw [← HW0.out]
    go_wp2_with fail
    refine (SP.out _ HBW0.out).mono ?_
    rintro e w1 ⟨rfl, hb⟩
    clear k0 k1 k2 l0 l1 l2
    have hb := HB0.out.trans (hb.mono (by have := HZ0.out; omega))
    obtain ⟨hx1, hx2, hbw1, hz1⟩ := HBX.out _ hb
    have k0 := hx1 0 _ rfl
    have k1 := hx1 1 _ rfl
    have k2 := hx1 2 _ rfl
    have l0 := hx2 0 _ rfl
    have l1 := hx2 1 _ rfl
    have l2 := hx2 2 _ rfl
    have HB1 := Lib.hid hb
    clear hb hx1 hx2
    have HBW1 := Lib.hid hbw1; clear hbw1
    have HZ1 := Lib.hid hz1
    go_wp2_with fail
    refine (SQ.out _ HBW1.out).mono ?_
    rintro e w2 ⟨rfl, hb⟩
    clear k0 k1 k2 l0 l1 l2
    have hb := HB1.out.trans (hb.mono (by have := HZ1.out; omega))
    obtain ⟨hx1, hx2, hbw2, hz2⟩ := HBX.out _ hb
    have k0 := hx1 0 _ rfl
    have k1 := hx1 1 _ rfl
    have k2 := hx1 2 _ rfl
    have l0 := hx2 0 _ rfl
    have l1 := hx2 1 _ rfl
    have l2 := hx2 2 _ rfl
    have HB2 := Lib.hid hb
    clear hb hx1 hx2
    have HBW2 := Lib.hid hbw2; clear hbw2
    have HZ2 := Lib.hid hz2
    go_wp2_with fail
    refine (AL.out _ HBW2.out).mono ?_
    rintro e w3 ⟨rfl, hb⟩
    clear k0 k1 k2 l0 l1 l2
    have hb := HB2.out.trans (hb.mono (by have := HZ2.out; omega))
    obtain ⟨hx1, hx2, hbw3, hz3⟩ := HBX.out _ hb
    have k0 := hx1 0 _ rfl
    have k1 := hx1 1 _ rfl
    have k2 := hx1 2 _ rfl
    have l0 := hx2 0 _ rfl
    have l1 := hx2 1 _ rfl
    have l2 := hx2 2 _ rfl
    have HB3 := Lib.hid hb
    clear hb hx1 hx2
    have HBW3 := Lib.hid hbw3; clear hbw3
    have HZ3 := Lib.hid hz3
    go_wp2_with fail
    refine (LP.out _ HBW3.out).mono ?_
    rintro e w4 ⟨rfl, hb⟩
    clear k0 k1 k2 l0 l1 l2
    have hb := HB3.out.trans (hb.mono (by have := HZ3.out; omega))
    obtain ⟨hx1, hx2, hbw4, hz4⟩ := HBX.out _ hb
    have k0 := hx1 0 _ rfl
    have k1 := hx1 1 _ rfl
    have k2 := hx1 2 _ rfl
    have l0 := hx2 0 _ rfl
    have l1 := hx2 1 _ rfl
    have l2 := hx2 2 _ rfl
    have HB4 := Lib.hid hb
    clear hb hx1 hx2
    have HBW4 := Lib.hid hbw4; clear hbw4
    have HZ4 := Lib.hid hz4
    go_wp2_with fail
    refine (LQ.out _ HBW4.out).mono ?_
    rintro e w5 ⟨rfl, hb⟩
    clear k0 k1 k2 l0 l1 l2
    have hb := HB4.out.trans (hb.mono (by have := HZ4.out; omega))
    obtain ⟨hx1, hx2, hbw5, hz5⟩ := HBX.out _ hb
    have k0 := hx1 0 _ rfl
    have k1 := hx1 1 _ rfl
    have k2 := hx1 2 _ rfl
    have l0 := hx2 0 _ rfl
    have l1 := hx2 1 _ rfl
    have l2 := hx2 2 _ rfl
    have HB5 := Lib.hid hb
    clear hb hx1 hx2
    have HBW5 := Lib.hid hbw5; clear hbw5
    have HZ5 := Lib.hid hz5
    go_wp2_with fail
    go_ret
    exact ⟨rfl, HBW5.out⟩
  have hokp := wProg_ok p hbad
  have hres : layPRes p = .tuple #[.string (bytesS (wProg p).1), .int .i64 0] := by simp [layPRes, hbad]
  rw [hres, hokp.2] at lp
  clear hres hbad
  cases hbad : (wProg q).2
  case true =>
    have hres : layPRes q = .tuple #[.string ⟨#[]⟩, .int .i64 1] := by simp [layPRes, hbad]
    rw [hres] at lq
    clear hres hbad hokp
    have LP := Lib.hid lp; clear lp
    have LQ := Lib.hid lq; clear lq
    go_enter Try.func14, Try.ntmps14
    go_wp2_with fail
    rw [← HW0.out]
    go_wp2_with fail
    refine (SP.out _ HBW0.out).mono ?_
    rintro e w1 ⟨rfl, hb⟩
    clear k0 k1 k2 l0 l1 l2
    have hb := HB0.out.trans (hb.mono (by have := HZ0.out; omega))
    obtain ⟨hx1, hx2, hbw1, hz1⟩ := HBX.out _ hb
    have k0 := hx1 0 _ rfl
    have k1 := hx1 1 _ rfl
    have k2 := hx1 2 _ rfl
    have l0 := hx2 0 _ rfl
    have l1 := hx2 1 _ rfl
    have l2 := hx2 2 _ rfl
    have HB1 := Lib.hid hb
    clear hb hx1 hx2
    have HBW1 := Lib.hid hbw1; clear hbw1
    have HZ1 := Lib.hid hz1
    go_wp2_with fail
    refine (SQ.out _ HBW1.out).mono ?_
    rintro e w2 ⟨rfl, hb⟩
    clear k0 k1 k2 l0 l1 l2
    have hb := HB1.out.trans (hb.mono (by have := HZ1.out; omega))
    obtain ⟨hx1, hx2, hbw2, hz2⟩ := HBX.out _ hb
    have k0 := hx1 0 _ rfl
    have k1 := hx1 1 _ rfl
    have k2 := hx1 2 _ rfl
    have l0 := hx2 0 _ rfl
    have l1 := hx2 1 _ rfl
    have l2 := hx2 2 _ rfl
    have HB2 := Lib.hid hb
    clear hb hx1 hx2
    have HBW2 := Lib.hid hbw2; clear hbw2
    have HZ2 := Lib.hid hz2
    go_wp2_with fail
    refine (AL.out _ HBW2.out).mono ?_
    rintro e w3 ⟨rfl, hb⟩
    clear k0 k1 k2 l0 l1 l2
    have hb := HB2.out.trans (hb.mono (by have := HZ2.out; omega))
    obtain ⟨hx1, hx2, hbw3, hz3⟩ := HBX.out _ hb
    have k0 := hx1 0 _ rfl
    have k1 := hx1 1 _ rfl
    have k2 := hx1 2 _ rfl
    have l0 := hx2 0 _ rfl
    have l1 := hx2 1 _ rfl
    have l2 := hx2 2 _ rfl
    have HB3 := Lib.hid hb
    clear hb hx1 hx2
    have HBW3 := Lib.hid hbw3; clear hbw3
    have HZ3 := Lib.hid hz3
    go_wp2_with fail
    refine (LP.out _ HBW3.out).mono ?_
    rintro e w4 ⟨rfl, hb⟩
    clear k0 k1 k2 l0 l1 l2
    have hb := HB3.out.trans (hb.mono (by have := HZ3.out; omega))
    obtain ⟨hx1, hx2, hbw4, hz4⟩ := HBX.out _ hb
    have k0 := hx1 0 _ rfl
    have k1 := hx1 1 _ rfl
    have k2 := hx1 2 _ rfl
    have l0 := hx2 0 _ rfl
    have l1 := hx2 1 _ rfl
    have l2 := hx2 2 _ rfl
    have HB4 := Lib.hid hb
    clear hb hx1 hx2
    have HBW4 := Lib.hid hbw4; clear hbw4
    have HZ4 := Lib.hid hz4
    go_wp2_with fail
    refine (LQ.out _ HBW4.out).mono ?_
    rintro e w5 ⟨rfl, hb⟩
    clear k0 k1 k2 l0 l1 l2
    have hb := HB4.out.trans (hb.mono (by have := HZ4.out; omega))
    obtain ⟨hx1, hx2, hbw5, hz5⟩ := HBX.out _ hb
    have k0 := hx1 0 _ rfl
    have k1 := hx1 1 _ rfl
    have k2 := hx1 2 _ rfl
    have l0 := hx2 0 _ rfl
    have l1 := hx2 1 _ rfl
    have l2 := hx2 2 _ rfl
    have HB5 := Lib.hid hb
    clear hb hx1 hx2
    have HBW5 := Lib.hid hbw5; clear hbw5
    have HZ5 := Lib.hid hz5
    go_wp2_with fail
    go_ret
    exact ⟨rfl, HBW5.out⟩
  have hokq := wProg_ok q hbad
  have hres : layPRes q = .tuple #[.string (bytesS (wProg q).1), .int .i64 0] := by simp [layPRes, hbad]
  rw [hres, hokq.2] at lq
  clear hres hbad
  have hsame := same_bytes p q hokp.1 hokq.1
  clear hokp hokq
  generalize bytesS (encP p) = s at *
  generalize bytesS (encP q) = t at *
  rw [← hsame] at sm
  clear hsame
  have LP := Lib.hid lp; clear lp
  have LQ := Lib.hid lq; clear lq
  have SM := Lib.hid sm; clear sm
  go_enter Try.func14, Try.ntmps14
  go_wp2_with fail
  rw [← HW0.out]
  go_wp2_with fail
  refine (SP.out _ HBW0.out).mono ?_
  rintro e w1 ⟨rfl, hb⟩
  clear k0 k1 k2 l0 l1 l2
  have hb := HB0.out.trans (hb.mono (by have := HZ0.out; omega))
  obtain ⟨hx1, hx2, hbw1, hz1⟩ := HBX.out _ hb
  have k0 := hx1 0 _ rfl
  have k1 := hx1 1 _ rfl
  have k2 := hx1 2 _ rfl
  have l0 := hx2 0 _ rfl
  have l1 := hx2 1 _ rfl
  have l2 := hx2 2 _ rfl
  have HB1 := Lib.hid hb
  clear hb hx1 hx2
  have HBW1 := Lib.hid hbw1; clear hbw1
  have HZ1 := Lib.hid hz1
  go_wp2_with fail
  refine (SQ.out _ HBW1.out).mono ?_
  rintro e w2 ⟨rfl, hb⟩
  clear k0 k1 k2 l0 l1 l2
  have hb := HB1.out.trans (hb.mono (by have := HZ1.out; omega))
  obtain ⟨hx1, hx2, hbw2, hz2⟩ := HBX.out _ hb
  have k0 := hx1 0 _ rfl
  have k1 := hx1 1 _ rfl
  have k2 := hx1 2 _ rfl
  have l0 := hx2 0 _ rfl
  have l1 := hx2 1 _ rfl
  have l2 := hx2 2 _ rfl
  have HB2 := Lib.hid hb
  clear hb hx1 hx2
  have HBW2 := Lib.hid hbw2; clear hbw2
  have HZ2 := Lib.hid hz2
  go_wp2_with fail
  refine (AL.out _ HBW2.out).mono ?_
  rintro e w3 ⟨rfl, hb⟩
  clear k0 k1 k2 l0 l1 l2
  have hb := HB2.out.trans (hb.mono (by have := HZ2.out; omega))
  obtain ⟨hx1, hx2, hbw3, hz3⟩ := HBX.out _ hb
  have k0 := hx1 0 _ rfl
  have k1 := hx1 1 _ rfl
  have k2 := hx1 2 _ rfl
  have l0 := hx2 0 _ rfl
  have l1 := hx2 1 _ rfl
  have l2 := hx2 2 _ rfl
  have HB3 := Lib.hid hb
  clear hb hx1 hx2
  have HBW3 := Lib.hid hbw3; clear hbw3
  have HZ3 := Lib.hid hz3
  go_wp2_with fail
  refine (LP.out _ HBW3.out).mono ?_
  rintro e w4 ⟨rfl, hb⟩
  clear k0 k1 k2 l0 l1 l2
  have hb := HB3.out.trans (hb.mono (by have := HZ3.out; omega))
  obtain ⟨hx1, hx2, hbw4, hz4⟩ := HBX.out _ hb
  have k0 := hx1 0 _ rfl
  have k1 := hx1 1 _ rfl
  have k2 := hx1 2 _ rfl
  have l0 := hx2 0 _ rfl
  have l1 := hx2 1 _ rfl
  have l2 := hx2 2 _ rfl
  have HB4 := Lib.hid hb
  clear hb hx1 hx2
  have HBW4 := Lib.hid hbw4; clear hbw4
  have HZ4 := Lib.hid hz4
  go_wp2_with fail
  refine (LQ.out _ HBW4.out).mono ?_
  rintro e w5 ⟨rfl, hb⟩
  clear k0 k1 k2 l0 l1 l2
  have hb := HB4.out.trans (hb.mono (by have := HZ4.out; omega))
  obtain ⟨hx1, hx2, hbw5, hz5⟩ := HBX.out _ hb
  have k0 := hx1 0 _ rfl
  have k1 := hx1 1 _ rfl
  have k2 := hx1 2 _ rfl
  have l0 := hx2 0 _ rfl
  have l1 := hx2 1 _ rfl
  have l2 := hx2 2 _ rfl
  have HB5 := Lib.hid hb
  clear hb hx1 hx2
  have HBW5 := Lib.hid hbw5; clear hbw5
  have HZ5 := Lib.hid hz5
  go_wp2_with fail
  refine (SM.out _ HBW5.out).mono ?_
  rintro e w6 ⟨rfl, hb⟩
  clear k0 k1 k2 l0 l1 l2
  have hb := HB5.out.trans (hb.mono (by have := HZ5.out; omega))
  obtain ⟨hx1, hx2, hbw6, hz6⟩ := HBX.out _ hb
  have k0 := hx1 0 _ rfl
  have k1 := hx1 1 _ rfl
  have k2 := hx1 2 _ rfl
  have l0 := hx2 0 _ rfl
  have l1 := hx2 1 _ rfl
  have l2 := hx2 2 _ rfl
  have HB6 := Lib.hid hb
  clear hb hx1 hx2
  have HBW6 := Lib.hid hbw6; clear hbw6
  have HZ6 := Lib.hid hz6
  go_wp2_with fail
  go_ret
  exact ⟨by rw [str_beq]; simp, HBW6.out⟩
theorem own : ownKnob Try.prog.godebug = none := by kernel_rfl
theorem laidOut : laidOutB Try.prog = true := by kernel_rfl
set_option maxRecDepth 100000 in
theorem lifted (os : Os) (started : os.Started) (H : Type) (enc : TypeId × Value → H) :
    ReturnsInHanded {} Try.checked os 14 .any (Rows.imageUnlikeSpec.pre6 enc Try.prog Try.f14 Rows.imageUnlikeRow.domain false) (Rows.imageUnlikeSpec.post enc Try.prog Try.f14 false true false false) := by
  refine returnsInHanded_of_change (C := Try.checked) own started (by kernel_rfl) Try.func14
    (ChangeSpec.witness6 (enc := enc) (C := Try.checked) false ⟨#[], #[.agg #[.slice none 0 0, .slice none 0 0, .slice none 0 0], .agg #[.slice none 0 0, .slice none 0 0, .slice none 0 0]], []⟩ 8 (by kernel_rfl) (by kernel_rfl) (by kernel_rfl) (by kernel_rfl)) ?_
  intro W base args ds gs before hval0 hW hcnd _
  have hval : ∀ (j : Nat) t v, Try.f14.params[j]? = some t → args[j]? = some v → Value.okWide Try.prog W .any base t v := hval0
  have hW' := hW
  obtain ⟨p, q, hA0, hV, rfl, hfz, hnd⟩ := hW
  have hA : DataW.TrodAll enc Try.prog W 0 (fun _ => true) true Try.f14.params.toList args.toList ds p := hA0
  rw [Try.params14] at hA hval
  obtain ⟨v0, vs0, d0, ds0, p0, q0, hargs, rfl, rfl, h0, r0⟩ := trodAll_cons hA
  obtain ⟨v1, vs1, d1, ds1, p1, q1, rfl, rfl, rfl, h1, r1⟩ := trodAll_cons r0
  obtain ⟨rfl, rfl, rfl⟩ := trodAll_nil r1
  obtain rfl : args = #[v0, v1] := by cases args; simp_all
  have w0 := open_program (hval 0 71 v0 rfl rfl) h0
  have w1 := open_program (hval 1 71 v1 rfl rfl) h1
  clear hA0 hval0
  simp only [List.append_nil] at hW'
  refine (walk W v0 w0 v1 w1).mono fun e W' ⟨he, hb⟩ => ?_
  subst he
  exact ⟨_, rfl, law_post laidOut (by kernel_rfl) rfl Try.underlying4 hW' rfl (fun ds h => by match ds, h with | [_, _], _ => rfl) hb⟩
theorem over : Rows.imageUnlikeRow.holds Try.pinned (OpenSpec.ofChange Rows.imageUnlikeSpec) :=
  OpenClaim.holds_of_wide 14 Try.f14 rfl rfl rfl rfl rfl rfl rfl ⟨rfl, rfl, rfl, rfl, rfl⟩ rfl rfl rfl rfl rfl (by kernel_rfl) Try.func14 (by kernel_rfl)
    (of_decide_eq_true (by kernel_rfl)) (by unfold Func.isWrapper; first | (rw [if_pos (by decide +kernel)]; kernel_rfl) | (rw [if_neg (by decide +kernel)]; exact ⟨rfl, rfl⟩))
    (fun os started H enc _ => lifted os started H enc)
theorem proved : Rows.ImageUnlikeSaid := over
#print axioms proved
end Go.Proofs.Ytmmdppjbofbjhaa.imageUnlike
