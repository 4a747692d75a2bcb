/- Of every program and every bytes: its bytes, or none; the program of bytes, or none; whether two programs are alike. No condition: for every input. -/
import Derived.Test.YtmmdppjbofbjhaaRSame
import Derived.Test.YtmmdppjbofbjhaaRLay
import Derived.Test.YtmmdppjbofbjhaaRReadB
import Derived.Test.YtmmdppjbofbjhaaAlive10
import Derived.Test.YtmmdppjbofbjhaaOpenP
import Derived.Test.YtmmdppjbofbjhaaLaw
import Derived.BigRegion
import Derived.Deep.CutBlock
import Derived.Deep.DeepCutAuto
namespace Go.Proofs.Ytmmdppjbofbjhaa.imageTells
open Go.ChangeShapes Go.WideShapes Go.ChangeAt Go.RowKit

theorem layP_ok (p : Prg) : layPRes p = .tuple #[.string (if okPB p then bytesS (encP p) else ⟨#[]⟩), .int .i64 (if okPB p then 0 else 1)] := by
  unfold layPRes
  rw [wProg_flag]
  cases h : okPB p
  · rfl
  · have := (wProg_ok p (by rw [wProg_flag, h]; rfl)).2
    rw [this]; rfl
theorem okPB_okP (p : Prg) (h : okPB p = true) : okP p := (wProg_ok p (by rw [wProg_flag, h]; rfl)).1
def pr00 : Prg := ⟨[], [], []⟩
theorem pr00_val (w : World) (D : Nat → Prop) : PrgVal w D pr00 (.slice none 0 0) (.slice none 0 0) (.slice none 0 0) :=
  ⟨⟨none, 0, rfl, fun j hj => by cases hj⟩, ⟨none, 0, rfl, fun j hj => by cases hj⟩, none, 0, rfl, fun j hj => by cases hj⟩
theorem enc_len (p : Prg) (h : okPB p = true) (hb : bulk p ≤ 3000) : (bytesS (encP p)).size ≤ 100000 := by
  rw [bytesS_size, ← (wProg_ok p (by rw [wProg_flag, h]; rfl)).2]
  unfold wProg
  have h1 := funcs_len p.funcs (wMid p)
  rw [wMid_len] at h1
  unfold bulk at hb
  omega
theorem both_layP (p : Prg) (hb : bulk p ≤ 3000) : ∃ (ok : Bool) (S : ByteArray) (E : Int), layPRes p = .tuple #[.string S, .int .i64 E] ∧ rlayPRes p = .tuple #[.string S, .bool ok] ∧ (ok = true → E = 0 ∧ readPOk S = true ∧ readP S = p ∧ S.size ≤ 100000) ∧ (ok = false → E = 1) := by
  refine ⟨okPB p, if okPB p then bytesS (encP p) else ⟨#[]⟩, if okPB p then 0 else 1, layP_ok p, rfl, fun h => ?_, fun h => by rw [h]; rfl⟩
  rw [if_pos h, if_pos h]
  exact ⟨rfl, (laid_ok p (okPB_okP p h)).1, (laid_ok p (okPB_okP p h)).2, enc_len p h hb⟩
set_option maxRecDepth 100000 in
set_option maxHeartbeats 6400000 in
theorem walk (w : World) (v : Value) (hv : ∃ (pr : Prg) (c0 c1 c2 : Value), v = .agg #[c0, c1, c2] ∧ PrgVal w (fun k => k < w.heap.size) pr c0 c1 c2) (v' : Value) (hv' : ∃ (pr : Prg) (c0 c1 c2 : Value), v' = .agg #[c0, c1, c2] ∧ PrgVal w (fun k => k < w.heap.size) pr c0 c1 c2) (b : ByteArray) (wb : b.size ≤ maxLen) :
    Calls Try.prog 12 #[v, v', .string b] w fun e w' => e = .returned (.bool true) ∧ Below w.heap.size w w' := by
  obtain ⟨p, c0, c1, c2, rfl, hp⟩ := hv
  obtain ⟨q, d0, d1, d2, rfl, hq⟩ := hv'
  have hP : ∀ wr, Below w.heap.size w wr → PrgVal wr (fun k => k < w.heap.size) p c0 c1 c2 := fun wr hb => hp.fr (Fr.of_below hb (fun _ => False)) (fun _ _ h => h)
  have hQ : ∀ wr, Below w.heap.size w wr → PrgVal wr (fun k => k < w.heap.size) q d0 d1 d2 := fun wr hb => hq.fr (Fr.of_below hb (fun _ => False)) (fun _ _ h => h)
  have sp := fun wr hb => small_any wr _ p _ _ _ (hP wr hb)
  have sq := fun wr hb => small_any wr _ q _ _ _ (hQ wr hb)
  have al := fun wr (_ : Below w.heap.size w wr) => alive10 wr
  have lp := fun wr hb => layP_any wr _ p _ _ _ (hP wr hb) (fun k hk => by have := hb.size; have : k < w.heap.size := hk; omega)
  have rlp := fun wr hb => rlayP_any wr _ p _ _ _ (hP wr hb)
  have sm1 := fun wr hb => same_any wr _ _ p q _ _ _ _ _ _ (hP wr hb) (hQ wr hb)
  have sm2 := fun wr hb => rsame_any wr _ _ p q _ _ _ _ _ _ (hP wr hb) (hQ wr hb)
  have sm3 := fun wr hb => same_any wr _ _ p p _ _ _ _ _ _ (hP wr hb) (hP wr hb)
  have rd := fun w (h : b.size ≤ 100000) => readP_any b w h
  have rrd := fun w (h : b.size ≤ 100000) => rreadP_any b w h
  have hP2 := hP
  obtain ⟨⟨a0, m0, rfl, _⟩, ⟨a1, m1, rfl, _⟩, a2, m2, rfl, _⟩ := hp
  obtain ⟨⟨b0, n0, rfl, _⟩, ⟨b1, n1, rfl, _⟩, b2, n2, rfl, _⟩ := hq
  clear hP hQ
  have hbx := box2 w #[.slice a0 p.globals.length m0, .slice a1 p.shapes.length m1, .slice a2 p.funcs.length m2] #[.slice b0 q.globals.length n0, .slice b1 q.shapes.length n1, .slice b2 q.funcs.length n2] 71 71
  have hbw0 : Below w.heap.size w ((w.alloc (.cells #[.slice a0 p.globals.length m0, .slice a1 p.shapes.length m1, .slice a2 p.funcs.length m2] 71)).alloc (.cells #[.slice b0 q.globals.length n0, .slice b1 q.shapes.length n1, .slice b2 q.funcs.length n2] 71)) := ((Below.refl _ _).alloc (Nat.le_refl _) _).alloc (by simp) _
  obtain ⟨W0, hW0⟩ : ∃ W0, W0 = (w.alloc (.cells #[.slice a0 p.globals.length m0, .slice a1 p.shapes.length m1, .slice a2 p.funcs.length m2] 71)).alloc (.cells #[.slice b0 q.globals.length n0, .slice b1 q.shapes.length n1, .slice b2 q.funcs.length n2] 71) := ⟨_, rfl⟩
  rw [← hW0] at hbx hbw0
  have hz0 : w.heap.size + 2 ≤ W0.heap.size := by rw [hW0]; simp
  have hb0 : Below (w.heap.size + 2) W0 W0 := Below.refl _ _
  have k0 := trivial
  have k1 := trivial
  have k2 := trivial
  have l0 := trivial
  have l1 := trivial
  have l2 := trivial
  have AL := Lib.hid al; clear al
  have HBX := Lib.hid hbx; clear hbx
  have HBW0 := Lib.hid hbw0; clear hbw0
  have HB0 := Lib.hid hb0; clear hb0
  have HZ0 := Lib.hid hz0; clear hz0
  have HW0 := Lib.hid hW0; clear hW0
  have SP := Lib.hid sp; clear sp
  have SQ := Lib.hid sq; clear sq
  have LP := Lib.hid lp; clear lp
  have RLP := Lib.hid rlp; clear rlp
  have SM1 := Lib.hid sm1; clear sm1
  have SM2 := Lib.hid sm2; clear sm2
  have SM3 := Lib.hid sm3; clear sm3
  have RD := Lib.hid rd; clear rd
  have RRD := Lib.hid rrd; clear rrd
  have HP2 := Lib.hid hP2; clear hP2
  by_cases hsp : bulk p ≤ 3000
  case neg =>
    have SP' := SP.out
    rw [decide_eq_false hsp] at SP'
    have SP := Lib.hid SP'
    clear SP' hsp
    go_enter Try.func12, Try.ntmps12
    go_wp2_with fail
    rw [← HW0.out]
    go_wp2_with fail
    refine (SP.out _ HBW0.out).mono ?_
    rintro e w1 ⟨rfl, hb⟩
    clear k0 k1 k2 l0 l1 l2
    have HB1 := Lib.hid (HB0.out.trans (hb.mono HZ0.out))
    clear hb
    obtain ⟨hx1, hx2, hbw1, hz1⟩ := HBX.out _ HB1.out
    have k0 := hx1 0 _ rfl
    have k1 := hx1 1 _ rfl
    have k2 := hx1 2 _ rfl
    have l0 := hx2 0 _ rfl
    have l1 := hx2 1 _ rfl
    have l2 := hx2 2 _ rfl
    clear hx1 hx2
    have HBW1 := Lib.hid hbw1; clear hbw1
    have HZ1 := Lib.hid hz1
    go_wp2_with fail
    refine (AL.out _ HBW1.out).mono ?_
    rintro e w2 ⟨rfl, hb⟩
    clear k0 k1 k2 l0 l1 l2
    have HB2 := Lib.hid (HB1.out.trans (hb.mono HZ1.out))
    clear hb
    obtain ⟨hx1, hx2, hbw2, hz2⟩ := HBX.out _ HB2.out
    have k0 := hx1 0 _ rfl
    have k1 := hx1 1 _ rfl
    have k2 := hx1 2 _ rfl
    have l0 := hx2 0 _ rfl
    have l1 := hx2 1 _ rfl
    have l2 := hx2 2 _ rfl
    clear hx1 hx2
    have HBW2 := Lib.hid hbw2; clear hbw2
    have HZ2 := Lib.hid hz2
    go_wp2_with fail
    go_ret
    exact ⟨rfl, HBW2.out⟩
  have SP' := SP.out
  rw [decide_eq_true hsp] at SP'
  have SP := Lib.hid SP'
  clear SP'
  by_cases hsq : bulk q ≤ 3000
  case neg =>
    have SQ' := SQ.out
    rw [decide_eq_false hsq] at SQ'
    have SQ := Lib.hid SQ'
    clear SQ' hsp hsq
    go_enter Try.func12, Try.ntmps12
    go_wp2_with fail
    rw [← HW0.out]
    go_wp2_with fail
    refine (SP.out _ HBW0.out).mono ?_
    rintro e w1 ⟨rfl, hb⟩
    clear k0 k1 k2 l0 l1 l2
    have HB1 := Lib.hid (HB0.out.trans (hb.mono HZ0.out))
    clear hb
    obtain ⟨hx1, hx2, hbw1, hz1⟩ := HBX.out _ HB1.out
    have k0 := hx1 0 _ rfl
    have k1 := hx1 1 _ rfl
    have k2 := hx1 2 _ rfl
    have l0 := hx2 0 _ rfl
    have l1 := hx2 1 _ rfl
    have l2 := hx2 2 _ rfl
    clear hx1 hx2
    have HBW1 := Lib.hid hbw1; clear hbw1
    have HZ1 := Lib.hid hz1
    go_wp2_with fail
    refine (SQ.out _ HBW1.out).mono ?_
    rintro e w2 ⟨rfl, hb⟩
    clear k0 k1 k2 l0 l1 l2
    have HB2 := Lib.hid (HB1.out.trans (hb.mono HZ1.out))
    clear hb
    obtain ⟨hx1, hx2, hbw2, hz2⟩ := HBX.out _ HB2.out
    have k0 := hx1 0 _ rfl
    have k1 := hx1 1 _ rfl
    have k2 := hx1 2 _ rfl
    have l0 := hx2 0 _ rfl
    have l1 := hx2 1 _ rfl
    have l2 := hx2 2 _ rfl
    clear hx1 hx2
    have HBW2 := Lib.hid hbw2; clear hbw2
    have HZ2 := Lib.hid hz2
    go_wp2_with fail
    refine (AL.out _ HBW2.out).mono ?_
    rintro e w3 ⟨rfl, hb⟩
    clear k0 k1 k2 l0 l1 l2
    have HB3 := Lib.hid (HB2.out.trans (hb.mono HZ2.out))
    clear hb
    obtain ⟨hx1, hx2, hbw3, hz3⟩ := HBX.out _ HB3.out
    have k0 := hx1 0 _ rfl
    have k1 := hx1 1 _ rfl
    have k2 := hx1 2 _ rfl
    have l0 := hx2 0 _ rfl
    have l1 := hx2 1 _ rfl
    have l2 := hx2 2 _ rfl
    clear hx1 hx2
    have HBW3 := Lib.hid hbw3; clear hbw3
    have HZ3 := Lib.hid hz3
    go_wp2_with fail
    go_ret
    exact ⟨rfl, HBW3.out⟩
  have SQ' := SQ.out
  rw [decide_eq_true hsq] at SQ'
  have SQ := Lib.hid SQ'
  by_cases hbs : 1500 < b.size
  · have hbs' : (1500 : Int) < b.size := by omega
    clear SQ' hsp hsq
    go_enter Try.func12, Try.ntmps12
    go_wp2_with fail
    rw [← HW0.out]
    go_wp2_with fail
    refine (SP.out _ HBW0.out).mono ?_
    rintro e w1 ⟨rfl, hb⟩
    clear k0 k1 k2 l0 l1 l2
    have HB1 := Lib.hid (HB0.out.trans (hb.mono HZ0.out))
    clear hb
    obtain ⟨hx1, hx2, hbw1, hz1⟩ := HBX.out _ HB1.out
    have k0 := hx1 0 _ rfl
    have k1 := hx1 1 _ rfl
    have k2 := hx1 2 _ rfl
    have l0 := hx2 0 _ rfl
    have l1 := hx2 1 _ rfl
    have l2 := hx2 2 _ rfl
    clear hx1 hx2
    have HBW1 := Lib.hid hbw1; clear hbw1
    have HZ1 := Lib.hid hz1
    go_wp2_with fail
    refine (SQ.out _ HBW1.out).mono ?_
    rintro e w2 ⟨rfl, hb⟩
    clear k0 k1 k2 l0 l1 l2
    have HB2 := Lib.hid (HB1.out.trans (hb.mono HZ1.out))
    clear hb
    obtain ⟨hx1, hx2, hbw2, hz2⟩ := HBX.out _ HB2.out
    have k0 := hx1 0 _ rfl
    have k1 := hx1 1 _ rfl
    have k2 := hx1 2 _ rfl
    have l0 := hx2 0 _ rfl
    have l1 := hx2 1 _ rfl
    have l2 := hx2 2 _ rfl
    clear hx1 hx2
    have HBW2 := Lib.hid hbw2; clear hbw2
    have HZ2 := Lib.hid hz2
    go_wp2_with fail
    refine (AL.out _ HBW2.out).mono ?_
    rintro e w3 ⟨rfl, hb⟩
    clear k0 k1 k2 l0 l1 l2
    have HB3 := Lib.hid (HB2.out.trans (hb.mono HZ2.out))
    clear hb
    obtain ⟨hx1, hx2, hbw3, hz3⟩ := HBX.out _ HB3.out
    have k0 := hx1 0 _ rfl
    have k1 := hx1 1 _ rfl
    have k2 := hx1 2 _ rfl
    have l0 := hx2 0 _ rfl
    have l1 := hx2 1 _ rfl
    have l2 := hx2 2 _ rfl
    clear hx1 hx2
    have HBW3 := Lib.hid hbw3; clear hbw3
    have HZ3 := Lib.hid hz3
    go_wp2_with fail
    go_ret
    exact ⟨rfl, HBW3.out⟩
  have hbs' : ¬ (1500 : Int) < b.size := by omega
  have lp := fun wr hb => LP.out wr hb hsp
  have rlp := fun wr hb => RLP.out wr hb hsp
  obtain ⟨ok, S, E, e1, e2, hS, hN⟩ := both_layP p hsp
  rw [e1] at lp
  rw [e2] at rlp
  clear e1 e2
  have okp : PrgOk p := by unfold PrgOk; omega
  have okq : PrgOk q := by unfold PrgOk; omega
  have sm1 := fun wr hb => SM1.out wr hb okp okq
  have sm2 := fun wr hb => SM2.out wr hb okp okq
  have sm3 := fun wr hb => SM3.out wr hb okp okp
  rw [show decide (p = p) = true from by simp] at sm3
  have rd := fun W => RD.out W (by omega)
  have rrd := fun W => RRD.out W (by omega)
  unfold ReadPPost at rd
  unfold RReadPPost at rrd
  have hxe : readPOk b = false → readP b = pr00 := fun h => by unfold readP; rw [h]; rfl
  have hxb : PrgOk (readP b) := readP_bulk b
  generalize readP b = x at *
  generalize readPOk b = rb at *
  obtain ⟨F, hF⟩ : ∃ F : Int, F = if rb = true then 0 else 2 := ⟨_, rfl⟩
  rw [← hF] at rd
  generalize decide (p = q) = dq at *
  clear SQ' hsp hsq LP RLP SM1 SM2 SM3 RD RRD hbs
  have rsx : ∀ W D D' c0 c1 c2 d0 d1 d2, PrgVal W D x c0 c1 c2 → PrgVal W D' x d0 d1 d2 → Calls Try.prog 62 #[.agg #[c0, c1, c2], .agg #[d0, d1, d2]] W fun e w' => e = .returned (.bool true) ∧ Below W.heap.size W w' := fun W D D' c0 c1 c2 d0 d1 d2 h1 h2 => by
    have := rsame_any W D D' x x c0 c1 c2 d0 d1 d2 h1 h2 hxb hxb
    rw [show decide (x = x) = true from by simp] at this
    exact this
  have rsp : ∀ W D D' c0 c1 c2 d0 d1 d2, PrgVal W D p c0 c1 c2 → PrgVal W D' p d0 d1 d2 → Calls Try.prog 62 #[.agg #[c0, c1, c2], .agg #[d0, d1, d2]] W fun e w' => e = .returned (.bool true) ∧ Below W.heap.size W w' := fun W D D' c0 c1 c2 d0 d1 d2 h1 h2 => by
    have := rsame_any W D D' p p c0 c1 c2 d0 d1 d2 h1 h2 okp okp
    rw [show decide (p = p) = true from by simp] at this
    exact this
  have rds := fun W (h : ok = true) => readP_any S W (hS h).2.2.2
  unfold ReadPPost at rds
  clear okp okq hxb
  have LP := Lib.hid lp; clear lp
  have RLP := Lib.hid rlp; clear rlp
  have SM1 := Lib.hid sm1; clear sm1
  have SM2 := Lib.hid sm2; clear sm2
  have SM3 := Lib.hid sm3; clear sm3
  have RD := Lib.hid rd; clear rd
  have RRD := Lib.hid rrd; clear rrd
  have HXE := Lib.hid hxe; clear hxe
  have RSX := Lib.hid rsx; clear rsx
  have RSP := Lib.hid rsp; clear rsp
  have RDS := Lib.hid rds; clear rds
  have HS := Lib.hid hS; clear hS
  have HN := Lib.hid hN; clear hN
  have HF := Lib.hid hF; clear hF
  go_enter Try.func12, Try.ntmps12
  go_wp2_with fail
  rw [← HW0.out]
  go_wp2_with fail
  refine (SP.out _ HBW0.out).mono ?_
  rintro e w1 ⟨rfl, hb⟩
  clear k0 k1 k2 l0 l1 l2
  have HB1 := Lib.hid (HB0.out.trans (hb.mono HZ0.out))
  clear hb
  obtain ⟨hx1, hx2, hbw1, hz1⟩ := HBX.out _ HB1.out
  have k0 := hx1 0 _ rfl
  have k1 := hx1 1 _ rfl
  have k2 := hx1 2 _ rfl
  have l0 := hx2 0 _ rfl
  have l1 := hx2 1 _ rfl
  have l2 := hx2 2 _ rfl
  clear hx1 hx2
  have HBW1 := Lib.hid hbw1; clear hbw1
  have HZ1 := Lib.hid hz1
  go_wp2_with fail
  refine (SQ.out _ HBW1.out).mono ?_
  rintro e w2 ⟨rfl, hb⟩
  clear k0 k1 k2 l0 l1 l2
  have HB2 := Lib.hid (HB1.out.trans (hb.mono HZ1.out))
  clear hb
  obtain ⟨hx1, hx2, hbw2, hz2⟩ := HBX.out _ HB2.out
  have k0 := hx1 0 _ rfl
  have k1 := hx1 1 _ rfl
  have k2 := hx1 2 _ rfl
  have l0 := hx2 0 _ rfl
  have l1 := hx2 1 _ rfl
  have l2 := hx2 2 _ rfl
  clear hx1 hx2
  have HBW2 := Lib.hid hbw2; clear hbw2
  have HZ2 := Lib.hid hz2
  go_wp2_with fail
  refine (AL.out _ HBW2.out).mono ?_
  rintro e w3 ⟨rfl, hb⟩
  clear k0 k1 k2 l0 l1 l2
  have HB3 := Lib.hid (HB2.out.trans (hb.mono HZ2.out))
  clear hb
  obtain ⟨hx1, hx2, hbw3, hz3⟩ := HBX.out _ HB3.out
  have k0 := hx1 0 _ rfl
  have k1 := hx1 1 _ rfl
  have k2 := hx1 2 _ rfl
  have l0 := hx2 0 _ rfl
  have l1 := hx2 1 _ rfl
  have l2 := hx2 2 _ rfl
  clear hx1 hx2
  have HBW3 := Lib.hid hbw3; clear hbw3
  have HZ3 := Lib.hid hz3
  go_wp2_with fail
  refine (LP.out _ HBW3.out).mono ?_
  rintro e w4 ⟨rfl, hb⟩
  clear k0 k1 k2 l0 l1 l2
  have HB4 := Lib.hid (HB3.out.trans (hb.mono HZ3.out))
  clear hb
  obtain ⟨hx1, hx2, hbw4, hz4⟩ := HBX.out _ HB4.out
  have k0 := hx1 0 _ rfl
  have k1 := hx1 1 _ rfl
  have k2 := hx1 2 _ rfl
  have l0 := hx2 0 _ rfl
  have l1 := hx2 1 _ rfl
  have l2 := hx2 2 _ rfl
  clear hx1 hx2
  have HBW4 := Lib.hid hbw4; clear hbw4
  have HZ4 := Lib.hid hz4
  go_wp2_with fail
  refine (RLP.out _ HBW4.out).mono ?_
  rintro e w5 ⟨rfl, hb⟩
  clear k0 k1 k2 l0 l1 l2
  have HB5 := Lib.hid (HB4.out.trans (hb.mono HZ4.out))
  clear hb
  obtain ⟨hx1, hx2, hbw5, hz5⟩ := HBX.out _ HB5.out
  have k0 := hx1 0 _ rfl
  have k1 := hx1 1 _ rfl
  have k2 := hx1 2 _ rfl
  have l0 := hx2 0 _ rfl
  have l1 := hx2 1 _ rfl
  have l2 := hx2 2 _ rfl
  clear hx1 hx2
  have HBW5 := Lib.hid hbw5; clear hbw5
  have HZ5 := Lib.hid hz5
  go_upto_region 5 with fail
  go_cut [61] (fun o wx => o = .bool false ∧ wx = w5)
  case first =>
    cases ok
    · obtain rfl := HN.out rfl
      go_wp2_with fail
      go_meet
      exact ⟨rfl, rfl⟩
    · obtain ⟨rfl, _⟩ := HS.out rfl
      go_wp2_with fail
      go_meet
      exact ⟨rfl, rfl⟩
  case rest =>
    obtain ⟨rfl, hwc⟩ := hcut
    subst hwc
    go_wp2_with fail
    refine (RD.out _).mono ?_
    rintro e w6 ⟨x0, x1, x2, rfl, hx6, hb6⟩
    have hx := hx6
    obtain ⟨⟨xa0, xn0, rfl, _⟩, ⟨xa1, xn1, rfl, _⟩, xa2, xn2, rfl, _⟩ := hx6
    have hB6 := HB5.out.trans (hb6.mono HZ5.out)
    have hz6 : w.heap.size + 2 ≤ w6.heap.size := Nat.le_trans HZ5.out hb6.size
    clear hb6
    have HX := Lib.hid hx; clear hx
    have HB6 := Lib.hid hB6; clear hB6
    clear k0 k1 k2 l0 l1 l2
    go_wp2_with fail
    refine (RRD.out _).mono ?_
    rintro e w7 ⟨y0, y1, y2, rfl, hy7, hb7⟩
    have hy := hy7
    obtain ⟨⟨ya0, yn0, rfl, _⟩, ⟨ya1, yn1, rfl, _⟩, ya2, yn2, rfl, _⟩ := hy7
    have hs6 : (w6.alloc (.cells #[.slice xa0 x.globals.length xn0, .slice xa1 x.shapes.length xn1, .slice xa2 x.funcs.length xn2] 71)).heap.size = w6.heap.size + 1 := by simp
    rw [hs6] at hb7
    obtain ⟨hxc, hb67, hz7⟩ := box1 w6 #[.slice xa0 x.globals.length xn0, .slice xa1 x.shapes.length xn1, .slice xa2 x.funcs.length xn2] 71 w7 hb7
    have hB7 := HB6.out.trans (hb67.mono hz6)
    have hx7 := HX.out.fr (Fr.of_below hb67 (fun _ => False)) (fun _ _ h => h)
    have hyc := cell_new w7 #[.slice ya0 x.globals.length yn0, .slice ya1 x.shapes.length yn1, .slice ya2 x.funcs.length yn2] 71
    have hb78 := (Below.refl w7.heap.size w7).alloc (Nat.le_refl _) (.cells #[.slice ya0 x.globals.length yn0, .slice ya1 x.shapes.length yn1, .slice ya2 x.funcs.length yn2] 71)
    have hx8 := hx7.fr (Fr.of_below hb78 (fun _ => False)) (fun _ _ h => h)
    have hy8 := hy.fr (Fr.of_below hb78 (fun _ => False)) (fun _ _ h => h)
    have s0 := below_cell hb78 (hxc 0 _ rfl)
    have s1 := below_cell hb78 (hxc 1 _ rfl)
    have s2 := below_cell hb78 (hxc 2 _ rfl)
    have o0 := hyc (0, 0) 0
    have o1 := hyc (0, 0) 1
    have o2 := hyc (0, 0) 2
    have hB8 := hB7.trans (hb78.mono (by omega))
    have hz8 : w.heap.size + 2 ≤ w7.heap.size := by omega
    have hz9 : w.heap.size + 2 ≤ (w7.alloc (.cells #[.slice ya0 x.globals.length yn0, .slice ya1 x.shapes.length yn1, .slice ya2 x.funcs.length yn2] 71)).heap.size := by simp; omega
    clear hb7 hs6 hxc hb67 hB7 hx7 hyc hy hb78
    have HX8 := Lib.hid hx8; clear hx8
    have HY8 := Lib.hid hy8; clear hy8
    have HB8 := Lib.hid hB8; clear hB8
    have HZ9 := Lib.hid hz9; clear hz9
    go_upto_region 9 with fail
    generalize w7.alloc (.cells #[.slice ya0 x.globals.length yn0, .slice ya1 x.shapes.length yn1, .slice ya2 x.funcs.length yn2] 71) = w8 at *
    go_cut [102] (fun o wx => o = .bool false ∧ Below w8.heap.size w8 wx)
    case first =>
      cases rb
      · obtain rfl : F = 2 := HF.out
        have hx0 := HXE.out rfl
        have ca := RSX.out w8 _ _ _ _ _ _ _ _ HX8.out (show PrgVal w8 (fun _ => False) x (.slice none 0 0) (.slice none 0 0) (.slice none 0 0) by rw [hx0]; exact pr00_val _ _)
        clear hx0
        have CA := Lib.hid ca; clear ca
        go_wp2_with fail
        refine CA.out.mono ?_
        rintro e w9 ⟨rfl, hb9⟩
        go_wp2_with fail
        go_meet
        exact ⟨rfl, hb9⟩
      · obtain rfl : F = 0 := HF.out
        have ca := RSX.out w8 _ _ _ _ _ _ _ _ HX8.out HY8.out
        have CA := Lib.hid ca; clear ca
        go_wp2_with fail
        refine CA.out.mono ?_
        rintro e w9 ⟨rfl, hb9⟩
        go_wp2_with fail
        go_meet
        exact ⟨rfl, hb9⟩
    case rest =>
      obtain ⟨rfl, hb9⟩ := hcut
      clear s0 s1 s2 o0 o1 o2
      have HB9 := Lib.hid (HB8.out.trans (hb9.mono HZ9.out))
      clear hb9
      obtain ⟨hx1, hx2, hbw9, hz9⟩ := HBX.out _ HB9.out
      have k0 := hx1 0 _ rfl
      have k1 := hx1 1 _ rfl
      have k2 := hx1 2 _ rfl
      have l0 := hx2 0 _ rfl
      have l1 := hx2 1 _ rfl
      have l2 := hx2 2 _ rfl
      clear hx1 hx2
      have HBW9 := Lib.hid hbw9; clear hbw9
      have HZ9 := Lib.hid hz9
      cases ok
      · go_upto_region 15 with fail
        have hsame : ∀ W : BelowW wc, Calls Try.prog 63 #[.agg #[.slice a0 p.globals.length m0, .slice a1 p.shapes.length m1, .slice a2 p.funcs.length m2], .agg #[.slice b0 q.globals.length n0, .slice b1 q.shapes.length n1, .slice b2 q.funcs.length n2]] W.val _ := fun W => SM1.out W.val (HBW9.out.trans (W.2.mono (by have := HBW9.out.size; omega)))
        have hself : ∀ W : BelowW wc, Calls Try.prog 63 #[.agg #[.slice a0 p.globals.length m0, .slice a1 p.shapes.length m1, .slice a2 p.funcs.length m2], .agg #[.slice a0 p.globals.length m0, .slice a1 p.shapes.length m1, .slice a2 p.funcs.length m2]] W.val _ := fun W => SM3.out W.val (HBW9.out.trans (W.2.mono (by have := HBW9.out.size; omega)))
        have hrsame : ∀ W : BelowW wc, Calls Try.prog 62 #[.agg #[.slice a0 p.globals.length m0, .slice a1 p.shapes.length m1, .slice a2 p.funcs.length m2], .agg #[.slice b0 q.globals.length n0, .slice b1 q.shapes.length n1, .slice b2 q.funcs.length n2]] W.val _ := fun W => SM2.out W.val (HBW9.out.trans (W.2.mono (by have := HBW9.out.size; omega)))
        have K0 := fun W : BelowW wc => W.cell k0
        have K1 := fun W : BelowW wc => W.cell k1
        have K2 := fun W : BelowW wc => W.cell k2
        have L0 := fun W : BelowW wc => W.cell l0
        have L1 := fun W : BelowW wc => W.cell l1
        have L2 := fun W : BelowW wc => W.cell l2
        clear k0 k1 k2 l0 l1 l2
        have HSAME := Lib.hid hsame; clear hsame
        have HSELF := Lib.hid hself; clear hself
        have HRSAME := Lib.hid hrsame; clear hrsame
        refine wp_region_below (by kernel_rfl) (by kernel_rfl) ?_
        go_big_quiet_step (fail)
        go_big_quiet_step (fail)
        go_big_quiet_step (first | (go_at_call 63; exact Calls.below_of (HSAME.out _)))
        go_big_quiet_step (fail)
        go_big_quiet_step (fail)
        go_big_quiet_step (first | (go_at_call 62; exact Calls.below_of (HRSAME.out _)))
        go_big_quiet_step (fail)
        go_big_quiet_step (fail)
        go_big_quiet_step (fail)
        go_big_quiet_step (fail)
        go_big_quiet_step (first | (go_at_call 63; exact Calls.below_of (HSELF.out _)))
        go_big_quiet_step (fail)
        go_big_quiet_step (fail)
        refine wpQuiet_nil ?_
        rintro _ ⟨WL, rfl⟩
        have HL := Lib.hid (HBW9.out.trans (WL.2.mono (by have := HBW9.out.size; omega)))
        go_wp2_with fail
        go_ret
        exact ⟨by simp, HL.out⟩
      · obtain ⟨rfl, hS1, hS2, hS3⟩ := HS.out rfl
        have rds := fun W => RDS.out W rfl
        rw [hS1, hS2] at rds
        have RDT := Lib.hid rds
        clear rds hS1 hS2 hS3
        go_wp2_with fail
        refine (RDT.out _).mono ?_
        rintro e w10 ⟨z0, z1, z2, rfl, hz, hb10⟩
        have hzv := hz
        obtain ⟨⟨za0, zn0, rfl, _⟩, ⟨za1, zn1, rfl, _⟩, za2, zn2, rfl, _⟩ := hz
        have hbz := (Below.refl w10.heap.size w10).alloc (Nat.le_refl _) (.cells #[.slice za0 p.globals.length zn0, .slice za1 p.shapes.length zn1, .slice za2 p.funcs.length zn2] 71)
        have hzp := hzv.fr (Fr.of_below hbz (fun _ => False)) (fun _ _ h => h)
        have hB10 := HB9.out.trans ((hb10.trans (hbz.mono hb10.size)).mono HZ9.out)
        have hzc := cell_new w10 #[.slice za0 p.globals.length zn0, .slice za1 p.shapes.length zn1, .slice za2 p.funcs.length zn2] 71
        have u0 := hzc (0, 0) 0
        have u1 := hzc (0, 0) 1
        have u2 := hzc (0, 0) 2
        have hz11 : w.heap.size + 2 ≤ (w10.alloc (.cells #[.slice za0 p.globals.length zn0, .slice za1 p.shapes.length zn1, .slice za2 p.funcs.length zn2] 71)).heap.size := by have := hb10.size; have := HZ9.out; simp; omega
        clear hzv hbz hb10 hzc k0 k1 k2 l0 l1 l2
        have HB10 := Lib.hid hB10; clear hB10
        have HZP := Lib.hid hzp; clear hzp
        have HZ11 := Lib.hid hz11; clear hz11
        obtain ⟨hx1, hx2, hbw10, hz10⟩ := HBX.out _ HB10.out
        have k0 := hx1 0 _ rfl
        have k1 := hx1 1 _ rfl
        have k2 := hx1 2 _ rfl
        have l0 := hx2 0 _ rfl
        have l1 := hx2 1 _ rfl
        have l2 := hx2 2 _ rfl
        clear hx1 hx2
        have HBW10 := Lib.hid hbw10; clear hbw10
        have HZ10 := Lib.hid hz10
        have ca := RSP.out _ _ _ _ _ _ _ _ _ HZP.out (HP2.out _ HBW10.out)
        have CA := Lib.hid ca; clear ca
        go_wp2_with fail
        refine CA.out.mono ?_
        rintro e w12 ⟨rfl, hb12⟩
        have HB12 := Lib.hid (HB10.out.trans (hb12.mono HZ11.out))
        clear hb12 u0 u1 u2 k0 k1 k2 l0 l1 l2
        obtain ⟨hx1, hx2, hbw12, hz12⟩ := HBX.out _ HB12.out
        have k0 := hx1 0 _ rfl
        have k1 := hx1 1 _ rfl
        have k2 := hx1 2 _ rfl
        have l0 := hx2 0 _ rfl
        have l1 := hx2 1 _ rfl
        have l2 := hx2 2 _ rfl
        clear hx1 hx2
        have HBW12 := Lib.hid hbw12; clear hbw12
        have HZ12 := Lib.hid hz12
        go_upto_region 15 with fail
        have hsame : ∀ W : BelowW w12, Calls Try.prog 63 #[.agg #[.slice a0 p.globals.length m0, .slice a1 p.shapes.length m1, .slice a2 p.funcs.length m2], .agg #[.slice b0 q.globals.length n0, .slice b1 q.shapes.length n1, .slice b2 q.funcs.length n2]] W.val _ := fun W => SM1.out W.val (HBW12.out.trans (W.2.mono (by have := HBW12.out.size; omega)))
        have hself : ∀ W : BelowW w12, Calls Try.prog 63 #[.agg #[.slice a0 p.globals.length m0, .slice a1 p.shapes.length m1, .slice a2 p.funcs.length m2], .agg #[.slice a0 p.globals.length m0, .slice a1 p.shapes.length m1, .slice a2 p.funcs.length m2]] W.val _ := fun W => SM3.out W.val (HBW12.out.trans (W.2.mono (by have := HBW12.out.size; omega)))
        have hrsame : ∀ W : BelowW w12, Calls Try.prog 62 #[.agg #[.slice a0 p.globals.length m0, .slice a1 p.shapes.length m1, .slice a2 p.funcs.length m2], .agg #[.slice b0 q.globals.length n0, .slice b1 q.shapes.length n1, .slice b2 q.funcs.length n2]] W.val _ := fun W => SM2.out W.val (HBW12.out.trans (W.2.mono (by have := HBW12.out.size; omega)))
        have K0 := fun W : BelowW w12 => W.cell k0
        have K1 := fun W : BelowW w12 => W.cell k1
        have K2 := fun W : BelowW w12 => W.cell k2
        have L0 := fun W : BelowW w12 => W.cell l0
        have L1 := fun W : BelowW w12 => W.cell l1
        have L2 := fun W : BelowW w12 => W.cell l2
        clear k0 k1 k2 l0 l1 l2
        have HSAME := Lib.hid hsame; clear hsame
        have HSELF := Lib.hid hself; clear hself
        have HRSAME := Lib.hid hrsame; clear hrsame
        refine wp_region_below (by kernel_rfl) (by kernel_rfl) ?_
        go_big_quiet_step (fail)
        go_big_quiet_step (fail)
        go_big_quiet_step (first | (go_at_call 63; exact Calls.below_of (HSAME.out _)))
        go_big_quiet_step (fail)
        go_big_quiet_step (fail)
        go_big_quiet_step (first | (go_at_call 62; exact Calls.below_of (HRSAME.out _)))
        go_big_quiet_step (fail)
        go_big_quiet_step (fail)
        go_big_quiet_step (fail)
        go_big_quiet_step (fail)
        go_big_quiet_step (first | (go_at_call 63; exact Calls.below_of (HSELF.out _)))
        go_big_quiet_step (fail)
        go_big_quiet_step (fail)
        refine wpQuiet_nil ?_
        rintro _ ⟨WL, rfl⟩
        have HL := Lib.hid (HBW12.out.trans (WL.2.mono (by have := HBW12.out.size; omega)))
        go_wp2_with fail
        go_ret
        exact ⟨by simp, HL.out⟩
theorem own : ownKnob Try.prog.godebug = none := by kernel_rfl
theorem laidOut : laidOutB Try.prog = true := by kernel_rfl
set_option maxRecDepth 100000 in
theorem lifted (os : Os) (started : os.Started) (H : Type) (enc : TypeId × Value → H) :
    ReturnsInHanded {} Try.checked os 12 .any (Rows.imageTellsSpec.pre6 enc Try.prog Try.f12 Rows.imageTellsRow.domain false) (Rows.imageTellsSpec.post enc Try.prog Try.f12 false true false false) := by
  refine returnsInHanded_of_change (C := Try.checked) own started (by kernel_rfl) Try.func12
    (ChangeSpec.witness6 (enc := enc) (C := Try.checked) false ⟨#[], #[.agg #[.slice none 0 0, .slice none 0 0, .slice none 0 0], .agg #[.slice none 0 0, .slice none 0 0, .slice none 0 0], .string ByteArray.empty], []⟩ 8 (by kernel_rfl) (by kernel_rfl) (by kernel_rfl) (by kernel_rfl)) ?_
  intro W base args ds gs before hval0 hW hcnd _
  have hval : ∀ (j : Nat) t v, Try.f12.params[j]? = some t → args[j]? = some v → Value.okWide Try.prog W .any base t v := hval0
  have hW' := hW
  obtain ⟨p, q, hA0, hV, rfl, hfz, hnd⟩ := hW
  have hA : DataW.TrodAll enc Try.prog W 0 (fun _ => true) true Try.f12.params.toList args.toList ds p := hA0
  rw [Try.params12] at hA hval
  obtain ⟨v0, vs0, d0, ds0, p0, q0, hargs, rfl, rfl, h0, r0⟩ := trodAll_cons hA
  obtain ⟨v1, vs1, d1, ds1, p1, q1, rfl, rfl, rfl, h1, r1⟩ := trodAll_cons r0
  obtain ⟨v2, vs2, d2, ds2, p2, q2, rfl, rfl, rfl, h2, r2⟩ := trodAll_cons r1
  obtain ⟨rfl, rfl, rfl⟩ := trodAll_nil r2
  obtain rfl : args = #[v0, v1, v2] := by cases args; simp_all
  have w0 := open_program (hval 0 71 v0 rfl rfl) h0
  have w1 := open_program (hval 1 71 v1 rfl rfl) h1
  obtain ⟨a2, rfl, rfl, rfl, w2⟩ := Go.ChangeMaps.open_string Try.underlying9 (hval 2 9 v2 rfl rfl) h2
  clear hA0 hval0
  simp only [List.append_nil] at hW'
  refine (walk W v0 w0 v1 w1 a2 w2).mono fun e W' ⟨he, hb⟩ => ?_
  subst he
  exact ⟨_, rfl, law_post laidOut (by kernel_rfl) rfl Try.underlying4 hW' rfl (fun ds h => by match ds, h with | [_, _, _], _ => rfl) hb⟩
theorem over : Rows.imageTellsRow.holds Try.pinned (OpenSpec.ofChange Rows.imageTellsSpec) :=
  OpenClaim.holds_of_wide 12 Try.f12 rfl rfl rfl rfl rfl rfl rfl ⟨rfl, rfl, rfl, rfl, rfl⟩ rfl rfl rfl rfl rfl (by kernel_rfl) Try.func12 (by kernel_rfl)
    (of_decide_eq_true (by kernel_rfl)) (by unfold Func.isWrapper; first | (rw [if_pos (by decide +kernel)]; kernel_rfl) | (rw [if_neg (by decide +kernel)]; exact ⟨rfl, rfl⟩))
    (fun os started H enc _ => lifted os started H enc)
theorem proved : Rows.ImageTellsSaid := over
#print axioms proved
end Go.Proofs.Ytmmdppjbofbjhaa.imageTells
