/- Walk: the reference's Lay: a program's bytes. -/
import Derived.Test.YtmmdppjbofbjhaaPlainS
import Derived.Test.YtmmdppjbofbjhaaBox
import Derived.Deep.CutBlock
import Derived.Deep.DeepCutAuto
namespace Go.Proofs.Ytmmdppjbofbjhaa
open Go.ChangeShapes Go.WideShapes Go.ChangeAt Go.RowKit

def lstB (l : List Int) : List Int := if lstOk l then encL l else []
theorem lstRes_eq (l : List Int) : lstRes l = .tuple #[.string (bytesS (lstB l)), .bool (lstOk l)] := by
  unfold lstRes lstB
  cases lstOk l <;> rfl
def codeB (l : List Ins) : List Int := if laid l then layL l else []
theorem rlcRes_eq (l : List Ins) : rlcRes l = .tuple #[.string (bytesS (codeB l)), .bool (laid l)] := by
  unfold rlcRes codeB
  cases laid l <;> rfl
def rlayPRes (p : Prg) : Value := .tuple #[.string (if okPB p then bytesS (encP p) else ⟨#[]⟩), .bool (okPB p)]
theorem run_str1 (w : World) (x : Int) : (convert 29 9 (.slice (some ⟨w.heap.size, 0, none⟩) 1 1)).run Try.prog (w.alloc (.cells #[.int .u8 x] 5)) = .ok (.string (bytesS [x])) (w.alloc (.cells #[.int .u8 x] 5)) := by
  refine run_str (P := Try.prog) _ _ _ 5 _ 1 [x] Try.underlying29 Try.underlying5 Try.underlying9 ?_
  intro j v hv
  match j, hv with
  | 0, hv => show World.cell? _ ⟨w.heap.size, 0, none⟩ = _; rw [cell_new]; exact hv
theorem run_str2 (w : World) (x y : Int) : (convert 29 9 (.slice (some ⟨w.heap.size, 0, none⟩) 2 2)).run Try.prog (w.alloc (.cells #[.int .u8 x, .int .u8 y] 5)) = .ok (.string (bytesS [x, y])) (w.alloc (.cells #[.int .u8 x, .int .u8 y] 5)) := by
  refine run_str (P := Try.prog) _ _ _ 5 _ 2 [x, y] Try.underlying29 Try.underlying5 Try.underlying9 ?_
  intro j v hv
  match j, hv with
  | 0, hv => show World.cell? _ ⟨w.heap.size, 0, none⟩ = _; rw [cell_new]; exact hv
  | 1, hv => show World.cell? _ ⟨w.heap.size, 1, none⟩ = _; rw [cell_new]; exact hv
theorem lstB_len (l : List Int) : (lstB l).length ≤ 256 := by
  unfold lstB
  split
  · rename_i h
    have := (lstOk_okB l h).2
    unfold encL; simp; omega
  · exact Nat.zero_le _
theorem cat_ok {a b : List Int} (h : a.length + b.length ≤ 1000000000) : ¬ 9223372036854775807 < (bytesS a).size + (bytesS b).size := by
  rw [bytesS_size, bytesS_size]; omega
theorem codeB_len (l : List Ins) : (codeB l).length ≤ 7 * l.length := by
  unfold codeB
  split
  · rw [layL_len]; exact Nat.le_refl _
  · exact Nat.zero_le _
/-- a function's bytes, if it may be laid -/
def fnB (f : Fun) : List Int := lstB f.args ++ [f.result % 256, f.slots % 256] ++ lstB f.objects ++ [(f.code.length : Int) % 256] ++ codeB f.code
theorem fnB_len (f : Fun) : (fnB f).length ≤ 515 + 7 * f.code.length := by
  have h1 := lstB_len f.args
  have h2 := lstB_len f.objects
  have h3 := codeB_len f.code
  unfold fnB
  simp
  omega
theorem fnB_ok (f : Fun) (h : fnOkB f = true) : fnB f = encF f := by
  unfold fnOkB at h
  simp only [Bool.and_eq_true, decide_eq_true_eq] at h
  obtain ⟨⟨⟨⟨⟨⟨⟨h1, h2⟩, h3⟩, h4⟩, h5⟩, h6⟩, h7⟩, h8⟩ := h
  unfold fnB encF lstB codeB
  rw [if_pos h1, if_pos h2, if_pos h3, show f.result % 256 = f.result by omega, show f.slots % 256 = f.slots by omega, show (f.code.length : Int) % 256 = f.code.length by omega]
theorem small_mod (n : Nat) (h : n ≤ 255) : (n : Int) % 256 = n := by omega
set_option maxRecDepth 100000 in
set_option maxHeartbeats 6400000 in
theorem rlayP_any (w : World) (D : Nat → Prop) (pr : Prg) (c0 c1 c2 : Value) (hv : PrgVal w D pr c0 c1 c2) (hbulk : bulk pr ≤ 3000) :
    Calls Try.prog 59 #[.agg #[c0, c1, c2]] w fun e w' => e = .returned (rlayPRes pr) ∧ Below w.heap.size w w' := by
  obtain ⟨⟨a0, n0, rfl, hs0⟩, ⟨a1, n1, rfl, hs1⟩, a2, n2, rfl, hs2⟩ := hv
  unfold bulk at hbulk
  have hbx := box1 w #[.slice a0 pr.globals.length n0, .slice a1 pr.shapes.length n1, .slice a2 pr.funcs.length n2] 71
  obtain ⟨W0, hW0⟩ : ∃ W0, W0 = w.alloc (.cells #[.slice a0 pr.globals.length n0, .slice a1 pr.shapes.length n1, .slice a2 pr.funcs.length n2] 71) := ⟨_, rfl⟩
  rw [← hW0] at hbx
  have hz0 : w.heap.size + 1 ≤ W0.heap.size := by rw [hW0]; simp
  have hfr := fun wr hb => Fr.of_below (hbx wr hb).2.1 (fun _ => False)
  have s0 := fun wr hb => hs0.fr (hfr wr hb) (fun _ _ h => h)
  have s1 := fun wr hb => hs1.fr (hfr wr hb) (fun _ _ h => h)
  have s2 := fun wr hb => hs2.fr (hfr wr hb) (fun _ _ h => h)
  have l0 := fun wr hb => rlst_any wr D a0 pr.globals n0 (s0 wr hb) (by omega)
  have l1 := fun k (hk : k < pr.shapes.length) wr (hb : Below (w.heap.size + 1) W0 wr) => (show ∃ b o, a1 = some ⟨b, o, none⟩ ∧ ∃ a' c', wr.cell? ⟨b, o + k, none⟩ = some (.slice a' pr.shapes[k].length c') ∧ Calls Try.prog 117 #[.slice a' pr.shapes[k].length c'] wr fun e w' => e = .returned (lstRes pr.shapes[k]) ∧ Below wr.heap.size wr w' from by
    obtain ⟨b, o, h1, h2, a', c', h3, h4⟩ := s1 wr hb k hk
    have := sum_take shBulk pr.shapes k hk
    unfold shBulk at *
    exact ⟨b, o, h1, a', c', h3, rlst_any wr D a' _ c' h4 (by omega)⟩)
  have l2 := fun k (hk : k < pr.funcs.length) wr (hb : Below (w.heap.size + 1) W0 wr) => (show ∃ b o, a2 = some ⟨b, o, none⟩ ∧ ∃ x0 m0 x3 m3 x4 m4, wr.cell? ⟨b, o + k * 5, none⟩ = some (.slice x0 pr.funcs[k].args.length m0) ∧ wr.cell? ⟨b, o + k * 5 + 1, none⟩ = some (.int .i64 pr.funcs[k].result) ∧ wr.cell? ⟨b, o + k * 5 + 2, none⟩ = some (.int .i64 pr.funcs[k].slots) ∧ wr.cell? ⟨b, o + k * 5 + 3, none⟩ = some (.slice x3 pr.funcs[k].objects.length m3) ∧ wr.cell? ⟨b, o + k * 5 + 4, none⟩ = some (.slice x4 pr.funcs[k].code.length m4) ∧
      (∀ W, Below wr.heap.size wr W → Calls Try.prog 117 #[.slice x0 pr.funcs[k].args.length m0] W fun e w' => e = .returned (lstRes pr.funcs[k].args) ∧ Below W.heap.size W w') ∧
      (∀ W, Below wr.heap.size wr W → Calls Try.prog 117 #[.slice x3 pr.funcs[k].objects.length m3] W fun e w' => e = .returned (lstRes pr.funcs[k].objects) ∧ Below W.heap.size W w') ∧
      (∀ W, Below wr.heap.size wr W → Calls Try.prog 37 #[.slice x4 pr.funcs[k].code.length m4] W fun e w' => e = .returned (rlcRes pr.funcs[k].code) ∧ Below W.heap.size W w') from by
    obtain ⟨b, o, h1, h2, c0, c1, c2, c3, c4, q0, q1, q2, q3, q4, e1, e2, ⟨x0, m0, e3, i3⟩, ⟨x3, m3, e4, i4⟩, x4, m4, e5, i5⟩ := s2 wr hb k hk
    subst e1 e2 e3 e4 e5
    have := sum_take fnBulk pr.funcs k hk
    unfold fnBulk at *
    refine ⟨b, o, h1, x0, m0, x3, m3, x4, m4, q0, q1, q2, q3, q4, fun W hW => ?_, fun W hW => ?_, fun W hW => ?_⟩
    · exact rlst_any W D x0 _ m0 (i3.fr (Fr.of_below hW (fun _ => False)) (fun _ _ h => h)) (by omega)
    · exact rlst_any W D x3 _ m3 (i4.fr (Fr.of_below hW (fun _ => False)) (fun _ _ h => h)) (by omega)
    · exact rlayCode_any _ x4 m4 W (by omega) (i5.fr (Fr.of_below hW (fun _ => False)) (fun _ _ h => h)).plain)
  simp only [lstRes_eq, rlcRes_eq] at l0 l1 l2
  obtain ⟨g0, hg0⟩ : ∃ g0, lstOk pr.globals = g0 := ⟨_, rfl⟩
  rw [hg0] at l0
  have cv1 := run_str1
  have cv2 := run_str2
  have hb0 : Below (w.heap.size + 1) W0 W0 := Below.refl _ _
  have HBX := Lib.hid hbx; clear hbx
  have HW0 := Lib.hid hW0; clear hW0
  have L0 := Lib.hid l0; clear l0
  have L1 := Lib.hid l1; clear l1
  have L2 := Lib.hid l2; clear l2
  have HB0 := Lib.hid hb0; clear hb0
  clear hfr s0 s1 s2 hs0 hs1 hs2
  have HZ0 := Lib.hid hz0
  go_enter Try.func59, Try.ntmps59
  go_wp2_with fail
  rw [← HW0.out]
  refine (L0.out _ HB0.out).mono ?_
  rintro e w1 ⟨rfl, hb⟩
  have hb := HB0.out.trans (hb.mono HZ0.out)
  obtain ⟨hx, hbw1, hz1⟩ := HBX.out _ hb
  have k0 := hx 0 _ rfl
  have k1 := hx 1 _ rfl
  have k2 := hx 2 _ rfl
  have HB1 := Lib.hid hb
  clear hb hx
  have HBW1 := Lib.hid hbw1; clear hbw1
  have HZ1 := Lib.hid hz1
  go_upto_region 2 with fail
  go_cut [5] from 17 to 35 (fun o wx => o = .bool (okS pr 0) ∧ wx = w1)
  case first =>
    have h0 : okS pr 0 = (lstOk pr.globals && decide (pr.shapes.length ≤ 255) && decide (pr.funcs.length ≤ 255)) := by unfold okS; simp
    rw [hg0] at h0
    cases g0 <;> by_cases g1 : pr.shapes.length ≤ 255 <;> by_cases g2 : pr.funcs.length ≤ 255
    all_goals
      have g1' := g1
      have g2' := g2
      simp only [g1, g2, decide_true, decide_false, Bool.and_true, Bool.and_false, Bool.false_and, Bool.true_and, decide_eq_false_iff_not] at h0
      go_wp2_with fail
      go_meet
      case rel =>
        refine ⟨?_, rfl⟩
        first | (rw [h0]; done) | (rw [h0]; simp; done) | (rw [h0]; simp; omega)
  case rest =>
    obtain ⟨rfl, hw⟩ := hcut
    subst hw
    have hc0 := cat_ok (a := lstB pr.globals) (b := [(pr.shapes.length : Int) % 256]) (by have := lstB_len pr.globals; simp; omega)
    go_upto_block 0 with fail
    clear hc0
    go_cut [4, 5] (fun s o wx => ∃ (l : List Int) (ok : Bool), s = .string (bytesS l) ∧ o = .bool ok ∧ ok = okS pr pr.shapes.length ∧ (ok = true → l = strS pr pr.shapes.length) ∧ l.length ≤ 1000000 ∧ Below (w.heap.size + 1) W0 wx)
    case first =>
      go_wp2_with fail
      go_loopw [4, 5, 6] (fun s o i wr => ∃ (k : Nat) (l : List Int) (ok : Bool), k ≤ pr.shapes.length ∧ i = .int .i64 k ∧ s = .string (bytesS l) ∧ o = .bool ok ∧ ok = okS pr k ∧ (ok = true → l = strS pr k) ∧ l.length ≤ 300 + 256 * k ∧ Below (w.heap.size + 1) W0 wr) (fun _ _ i _ => pr.shapes.length - (intOf i).toNat)
      case atStart =>
        refine ⟨0, lstB pr.globals ++ [(pr.shapes.length : Int) % 256], okS pr 0, Nat.zero_le _, rfl, by rw [bytesS_app], rfl, rfl, fun h => ?_, by have := lstB_len pr.globals; simp; omega, HB1.out.alloc hz1 _⟩
        have h2 := h
        unfold okS at h2
        simp only [Bool.and_eq_true, decide_eq_true_eq] at h2
        unfold strS lstB
        rw [if_pos h2.1.1.1, small_mod _ h2.1.1.2]
        simp
      case round =>
        obtain ⟨k, l, ok, hk, rfl, rfl, rfl, hok, hl, hll, hb⟩ := hrel
        obtain ⟨hx, hbw2, hz2⟩ := HBX.out _ hb
        have k0 := hx 0 _ rfl
        have k1 := hx 1 _ rfl
        have k2 := hx 2 _ rfl
        clear hx
        by_cases hlt : k < pr.shapes.length
        · cases ok
          · have hd := okS_stop pr k _ hk hok.symm
            clear hl hok
            have HD := Lib.hid hd; clear hd
            have HB := Lib.hid hb; clear hb
            have HBW2 := Lib.hid hbw2; clear hbw2
            go_wp2_with fail
            go_meet
            case rel => exact ⟨l, false, rfl, rfl, HD.out.symm, (fun h => by cases h), by omega, HB.out⟩
          · obtain ⟨b, o, rfl, a', c', hq, hcall⟩ := L1.out k hlt _ hb
            replace hl := hl rfl
            have hsn := okS_snoc pr k hlt
            have hss := strS_snoc pr k hlt
            have hlb : lstOk pr.shapes[k] = true → lstB pr.shapes[k] = encL pr.shapes[k] := fun h => by unfold lstB; rw [if_pos h]
            generalize lstOk pr.shapes[k] = g at *
            have hc1 := cat_ok (a := l) (b := lstB pr.shapes[k]) (by have := lstB_len pr.shapes[k]; omega)
            have hl2 := lstB_len pr.shapes[k]
            have HCALL := Lib.hid hcall; clear hcall
            have HB := Lib.hid hb; clear hb
            have HBW2 := Lib.hid hbw2; clear hbw2
            have HOK := Lib.hid hok; clear hok
            have HL := Lib.hid hl; clear hl
            have HSN := Lib.hid hsn; clear hsn
            have HSS := Lib.hid hss; clear hss
            have HLB := Lib.hid hlb; clear hlb
            have HL2 := Lib.hid hl2; clear hl2
            go_wp2_with fail
            refine HCALL.out.mono ?_
            rintro e w4 ⟨rfl, hb4⟩
            have hb4 := HB.out.trans (hb4.mono hz2)
            have HB4 := Lib.hid hb4; clear hb4
            clear hq k0 k1 k2
            go_wp2_with fail
            go_roundw
            case rel =>
              refine ⟨k + 1, l ++ lstB pr.shapes[k], g, by omega, by go_num, by rw [bytesS_app], rfl, ?_, fun h => ?_, ?_, HB4.out⟩
              · rw [HSN.out, ← HOK.out]; rfl
              · rw [HSS.out, HLB.out h, HL.out]
              · have := HL2.out; simp; omega
            case measure => simp [intOf]; omega
        · have hk' : k = pr.shapes.length := by omega
          subst hk'
          have HOK := Lib.hid hok; clear hok
          have HL := Lib.hid hl; clear hl
          have HB := Lib.hid hb; clear hb
          have HBW2 := Lib.hid hbw2; clear hbw2
          go_wp2_with fail
          go_meet
          case rel => exact ⟨l, ok, rfl, rfl, HOK.out, HL.out, by omega, HB.out⟩
    case rest =>
      obtain ⟨l, ok, rfl, rfl, hok, hl, hll, hb⟩ := hcut
      obtain ⟨hx, hbw2, hz2⟩ := HBX.out _ hb
      have k0 := hx 0 _ rfl
      have k1 := hx 1 _ rfl
      have k2 := hx 2 _ rfl
      clear hx
      have HOK := Lib.hid hok; clear hok
      have HL := Lib.hid hl; clear hl
      have HB := Lib.hid hb; clear hb
      have HBW2 := Lib.hid hbw2; clear hbw2
      have hc2 := cat_ok (a := l) (b := [(pr.funcs.length : Int) % 256]) (by simp; omega)
      go_upto_block 2 with fail
      clear hc2
      go_cut [4, 5] (fun s o wx => ∃ (l : List Int) (ok : Bool), s = .string (bytesS l) ∧ o = .bool ok ∧ ok = okF2 pr pr.funcs.length ∧ (ok = true → l = strF pr pr.funcs.length) ∧ Below (w.heap.size + 1) W0 wx)
      case first =>
        go_wp2_with fail
        go_loopw [4, 5, 9] (fun s o i wr => ∃ (k : Nat) (l : List Int) (ok : Bool), k ≤ pr.funcs.length ∧ i = .int .i64 k ∧ s = .string (bytesS l) ∧ o = .bool ok ∧ ok = okF2 pr k ∧ (ok = true → l = strF pr k) ∧ l.length ≤ 2000000 + 30000 * k ∧ Below (w.heap.size + 1) W0 wr) (fun _ _ i _ => pr.funcs.length - (intOf i).toNat)
        case atStart =>
          refine ⟨0, l ++ [(pr.funcs.length : Int) % 256], ok, Nat.zero_le _, rfl, by rw [bytesS_app], rfl, by rw [HOK.out, okF2_zero], fun h => ?_, by simp; omega, HB.out.alloc hz2 _⟩
          have h2 := HOK.out.symm.trans h
          unfold okS at h2
          simp only [Bool.and_eq_true, decide_eq_true_eq] at h2
          rw [HL.out h, small_mod _ h2.1.2]
          unfold strF
          simp
        case round =>
          obtain ⟨k, l', ok', hk, rfl, rfl, rfl, hok', hl', hll', hb'⟩ := hrel
          obtain ⟨hx, hbw3, hz3⟩ := HBX.out _ hb'
          have k0 := hx 0 _ rfl
          have k1 := hx 1 _ rfl
          have k2 := hx 2 _ rfl
          clear hx
          by_cases hlt : k < pr.funcs.length
          · cases ok'
            · have hd := okF2_stop pr k _ hk hok'.symm
              clear hl' hok'
              have HD := Lib.hid hd; clear hd
              have HB' := Lib.hid hb'; clear hb'
              have HBW3 := Lib.hid hbw3; clear hbw3
              go_wp2_with fail
              go_meet
              case rel => exact ⟨l', false, rfl, rfl, HD.out.symm, (fun h => by cases h), HB'.out⟩
            · obtain ⟨b, o, rfl, x0, m0, x3, m3, x4, m4, q0, q1, q2, q3, q4, ca, co, cc⟩ := L2.out k hlt _ hb'
              replace hl' := hl' rfl
              have hsn := okF2_snoc pr k hlt
              have hss := strF_snoc pr k hlt
              have hfl := sum_take fnBulk pr.funcs k hlt
              generalize pr.funcs[k] = f at *
              have hfb : fnBulk f = f.args.length + f.objects.length + f.code.length := rfl
              have hbf := hfl
              obtain ⟨g1, hg1⟩ : ∃ g, lstOk f.args = g := ⟨_, rfl⟩
              obtain ⟨g2, hg2⟩ : ∃ g, lstOk f.objects = g := ⟨_, rfl⟩
              obtain ⟨g3, hg3⟩ : ∃ g, laid f.code = g := ⟨_, rfl⟩
              have h0 : fnOkB f = (g1 && g2 && g3 && decide (0 ≤ f.result) && decide (f.result ≤ 255) && decide (0 ≤ f.slots) && decide (f.slots ≤ 255) && decide (f.code.length ≤ 255)) := by unfold fnOkB; rw [hg1, hg2, hg3]
              simp only [hg1, hg2, hg3] at ca co cc
              have hby := box1 wr #[.slice x0 f.args.length m0, .int .i64 f.result, .int .i64 f.slots, .slice x3 f.objects.length m3, .slice x4 f.code.length m4] 86
              obtain ⟨WA, hWA⟩ : ∃ WA, WA = wr.alloc (.cells #[.slice x0 f.args.length m0, .int .i64 f.result, .int .i64 f.slots, .slice x3 f.objects.length m3, .slice x4 f.code.length m4] 86) := ⟨_, rfl⟩
              rw [← hWA] at hby
              have fz0 : wr.heap.size + 1 ≤ WA.heap.size := by rw [hWA]; simp
              have fb0 : Below (wr.heap.size + 1) WA WA := Below.refl _ _
              obtain ⟨hx, fbw0, _⟩ := hby _ fb0
              have j0 := hx 0 _ rfl
              have j1 := hx 1 _ rfl
              have j2 := hx 2 _ rfl
              have j3 := hx 3 _ rfl
              have j4 := hx 4 _ rfl
              clear hx
              clear hg1 hg2 hg3
              have CA := Lib.hid ca; clear ca
              have CO := Lib.hid co; clear co
              have CC := Lib.hid cc; clear cc
              have HB' := Lib.hid hb'; clear hb'
              have HBW3 := Lib.hid hbw3; clear hbw3
              have HOK' := Lib.hid hok'; clear hok'
              have HL' := Lib.hid hl'; clear hl'
              have HSN := Lib.hid hsn; clear hsn
              have HSS := Lib.hid hss; clear hss
              have HBY := Lib.hid hby; clear hby
              have FB0 := Lib.hid fb0; clear fb0
              have FBW0 := Lib.hid fbw0; clear fbw0
              have HWA := Lib.hid hWA; clear hWA
              have H0 := Lib.hid h0; clear h0
              have FZ0 := Lib.hid fz0
              go_upto_region 14 with fail
              rw [← HWA.out]
              go_wp2_with fail
              clear q0 q1 q2 q3 q4 k0 k1 k2
              refine (CA.out _ FBW0.out).mono ?_
              rintro e w1 ⟨rfl, hb⟩
              have hb := FB0.out.trans (hb.mono FZ0.out)
              obtain ⟨hx, fbw1, fz1⟩ := HBY.out _ hb
              clear j0 j1 j2 j3 j4
              have j0 := hx 0 _ rfl
              have j1 := hx 1 _ rfl
              have j2 := hx 2 _ rfl
              have j3 := hx 3 _ rfl
              have j4 := hx 4 _ rfl
              have FB1 := Lib.hid hb
              clear hb hx
              have FBW1 := Lib.hid fbw1; clear fbw1
              have FZ1 := Lib.hid fz1
              go_wp2_with fail
              refine (CO.out _ FBW1.out).mono ?_
              rintro e w2 ⟨rfl, hb⟩
              have hb := FB1.out.trans (hb.mono FZ1.out)
              obtain ⟨hx, fbw2, fz2⟩ := HBY.out _ hb
              clear j0 j1 j2 j3 j4
              have j0 := hx 0 _ rfl
              have j1 := hx 1 _ rfl
              have j2 := hx 2 _ rfl
              have j3 := hx 3 _ rfl
              have j4 := hx 4 _ rfl
              have FB2 := Lib.hid hb
              clear hb hx
              have FBW2 := Lib.hid fbw2; clear fbw2
              have FZ2 := Lib.hid fz2
              go_wp2_with fail
              refine (CC.out _ FBW2.out).mono ?_
              rintro e w3 ⟨rfl, hb⟩
              have hb := FB2.out.trans (hb.mono FZ2.out)
              obtain ⟨hx, fbw3, fz3⟩ := HBY.out _ hb
              clear j0 j1 j2 j3 j4
              have j0 := hx 0 _ rfl
              have j1 := hx 1 _ rfl
              have j2 := hx 2 _ rfl
              have j3 := hx 3 _ rfl
              have j4 := hx 4 _ rfl
              have FB3 := Lib.hid hb
              clear hb hx
              have FBW3 := Lib.hid fbw3; clear fbw3
              have FZ3 := Lib.hid fz3
              go_upto_region 17 with fail
              go_cut [5] from 91 to 141 (fun o wx => o = .bool (fnOkB f) ∧ wx = w3)
              case first =>
                cases g1 <;> cases g2 <;> cases g3
                all_goals
                  go_wp2_with fail
                all_goals
                  go_meet
                  case rel =>
                    refine ⟨?_, rfl⟩
                    rw [H0.out]
                    first | (simp; done) | (simp [*]; done) | (simp [*]; omega) | (simp; omega)
              case rest =>
                obtain ⟨rfl, hw⟩ := hcut
                subst hw
                have hcl : (codeB f.code).length ≤ 21000 := by have := codeB_len f.code; omega
                have hca := lstB_len f.args
                have hco := lstB_len f.objects
                have hlk : l'.length ≤ 100000000 := by omega
                have hc1 : ¬ 9223372036854775807 < (bytesS l').size + (bytesS (lstB f.args)).size := by simp only [bytesS_size]; omega
                have hc2 : ¬ 9223372036854775807 < (bytesS l' ++ bytesS (lstB f.args)).size + (bytesS [f.result % 256, f.slots % 256]).size := by simp only [ByteArray.size_append, bytesS_size]; simp; omega
                have hc3 : ¬ 9223372036854775807 < (bytesS l' ++ bytesS (lstB f.args) ++ bytesS [f.result % 256, f.slots % 256]).size + (bytesS (lstB f.objects)).size := by simp only [ByteArray.size_append, bytesS_size]; simp; omega
                have hc4 : ¬ 9223372036854775807 < (bytesS l' ++ bytesS (lstB f.args) ++ bytesS [f.result % 256, f.slots % 256] ++ bytesS (lstB f.objects)).size + (bytesS [(f.code.length : Int) % 256]).size := by simp only [ByteArray.size_append, bytesS_size]; simp; omega
                have hc5 : ¬ 9223372036854775807 < (bytesS l' ++ bytesS (lstB f.args) ++ bytesS [f.result % 256, f.slots % 256] ++ bytesS (lstB f.objects) ++ bytesS [(f.code.length : Int) % 256]).size + (bytesS (codeB f.code)).size := by simp only [ByteArray.size_append, bytesS_size]; simp; omega
                clear hca hco hcl
                have nn := World.new_ne _ _ j4
                have nn2 := nn.symm
                dsimp only at nn nn2
                have nl : wr.heap.size < wc.heap.size := World.block_lt j4
                have cv1b := cv1 (wc.alloc (.cells #[.int .u8 (f.result % 256), .int .u8 (f.slots % 256)] 5)) ((f.code.length : Int) % 256)
                rw [show (wc.alloc (.cells #[.int .u8 (f.result % 256), .int .u8 (f.slots % 256)] 5)).heap.size = wc.heap.size + 1 from by simp] at cv1b
                have j4a := fun (o : Obj) => (cell_under wc o (p := ⟨wr.heap.size, 4, none⟩) nl).trans j4
                go_wp2_with fail
                go_roundw
                case rel =>
                  have hbe := HB'.out.trans (FBW3.out.mono hz3)
                  have hbz : w.heap.size + 1 ≤ wc.heap.size := by omega
                  refine ⟨k + 1, l' ++ fnB f, fnOkB f, by omega, by go_num, by simp only [bytesS_app, fnB, List.append_assoc], rfl, ?_, fun h => ?_, ?_, (hbe.alloc hbz _).alloc (by simp; omega) _⟩
                  · rw [HSN.out, ← HOK'.out]; rfl
                  · rw [HSS.out, fnB_ok f h, HL'.out]
                  · have h1 := fnB_len f
                    simp
                    omega
                case measure => simp [intOf]; omega
          · have hk' : k = pr.funcs.length := by omega
            subst hk'
            have HOK' := Lib.hid hok'; clear hok'
            have HL' := Lib.hid hl'; clear hl'
            have HB' := Lib.hid hb'; clear hb'
            have HBW3 := Lib.hid hbw3; clear hbw3
            go_wp2_with fail
            go_meet
            case rel => exact ⟨l', ok', rfl, rfl, HOK'.out, HL'.out, HB'.out⟩
      case rest =>
        obtain ⟨l', ok', rfl, rfl, hok', hl', hb'⟩ := hcut
        have hbw3 := (HBX.out _ hb').2.1
        have hres : rlayPRes pr = .tuple #[.string (if ok' then bytesS (encP pr) else ⟨#[]⟩), .bool ok'] := by
          unfold rlayPRes okPB; rw [← hok']
        rw [strF_all] at hl'
        cases ok'
        · clear hl' hok'
          have HBW3 := Lib.hid hbw3; clear hbw3
          have HRES := Lib.hid hres; clear hres
          go_wp2_with fail
          go_ret2
          exact ⟨by rw [HRES.out]; rfl, HBW3.out⟩
        · replace hl' := hl' rfl
          subst hl'
          clear hok'
          have HBW3 := Lib.hid hbw3; clear hbw3
          have HRES := Lib.hid hres; clear hres
          go_wp2_with fail
          go_ret2
          exact ⟨by rw [HRES.out]; rfl, HBW3.out⟩
end Go.Proofs.Ytmmdppjbofbjhaa
