/- Walks: SameInts of the statements' help; the reference's FrameWords. Walk: the first call of chapter 16's statements. -/
import Derived.Test.YthkhgihjigmkoaaGreatQBq
import Derived.Test.YthkhgihjigmkoaaGreatQAr
import Derived.Test.YthkhgihjigmkoaaGreatQAm
set_option linter.unusedVariables false
set_option linter.unusedSimpArgs false
namespace Go.Proofs.YthkhgihjigmkoaaGreat
open Go.ChangeShapes Go.WideShapes Go.ChangeAt Go.RowKit Go.Maps
set_option maxRecDepth 100000 in
set_option maxHeartbeats 1600000 in
theorem sameIntsM_any (w : World) (D D' : Nat → Prop) (a a' : Option Addr) (l m : List Int) (c c' : Nat) (hl : IntSl w D a l) (hm : IntSl w D' a' m) (hn : l.length ≤ 1000000) (hn' : m.length ≤ 1000000) :
    Calls Tryz.prog 23 #[.slice a l.length c, .slice a' m.length c'] w fun e w' => e = .returned (.bool (decide (l = m))) ∧ ∃ n, w' = w.drewN n := by
  by_cases hlen : l.length = m.length
  case neg =>
    have h1 : ((l.length : Int) != (m.length : Int)) = true := by rw [bne_iff_ne]; omega
    have h2 : decide (l = m) = false := by simp; intro h; rw [h] at hlen; exact hlen rfl
    rw [h2]
    clear h2 hlen
    go_enter Tryz.func23, Tryz.ntmps23
    go_wp2_with fail
    go_ret
    exact ⟨rfl, 0, rfl⟩
  have h1 : ((l.length : Int) != (m.length : Int)) = false := by rw [bne_eq_false_iff_eq]; omega
  have HLEN := Lib.hid hlen; clear hlen
  have HL := Lib.hid hl; clear hl
  have HM := Lib.hid hm; clear hm
  go_enter Tryz.func23, Tryz.ntmps23
  go_wp2_with fail
  clear h1
  go_loopw [5] (fun i wr => ∃ k : Nat, k ≤ l.length ∧ i = .int .i64 k ∧ l.take k = m.take k ∧ ∃ n, wr = w.drewN n) (fun i _ => l.length - (intOf i).toNat)
  case atStart => exact ⟨0, Nat.zero_le _, rfl, rfl, 0, rfl⟩
  case round =>
    obtain ⟨k, hk, rfl, ht, n, hwr⟩ := hrel
    by_cases hlt : k < l.length
    · have hlt2 : k < m.length := by have := HLEN.out; omega
      obtain ⟨b, o, rfl, _, hx⟩ := HL.out k hlt
      obtain ⟨b', o', rfl, _, hy⟩ := HM.out k hlt2
      have hx1 : wr.cell? ⟨b, o + k, none⟩ = some (.int .i64 l[k]) := by rw [hwr]; exact hx
      have hy1 : wr.cell? ⟨b', o' + k, none⟩ = some (.int .i64 m[k]) := by rw [hwr]; exact hy
      have hs := take_eq_step l m k hlt hlt2 ht
      have hne := ne_of_get l m k hlt hlt2
      clear hx hy ht
      generalize l[k] = x at *
      generalize m[k] = y at *
      have HS := Lib.hid hs; clear hs
      have HWR := Lib.hid hwr; clear hwr
      have HNE := Lib.hid hne; clear hne
      by_cases hxy : x = y
      · subst hxy
        go_wp2_with fail
        go_quiet (fail)
        go_wp2_with fail
        go_roundw
        case rel => exact ⟨k + 1, by omega, by go_num, by first | exact HS.out rfl | exact HS.out trivial, by rw [HWR.out]; exact ⟨_, by first | rfl | (simp; rfl)⟩⟩
        case measure => simp [intOf]; omega
      · have hb : (x != y) = true := by rw [bne_iff_ne]; exact hxy
        have hb2 : (x == y) = false := by simpa using hxy
        have hd : decide (l = m) = false := by simpa using HNE.out hxy
        have HD := Lib.hid hd; clear hd hxy
        go_wp2_with fail
        go_quiet (fail)
        go_wp2_with fail
        go_ret
        exact ⟨by rw [HD.out]; rfl, by rw [HWR.out]; exact ⟨_, by first | rfl | (simp; rfl)⟩⟩
    · have hd : decide (l = m) = true := by
        have h := HLEN.out
        have hk2 : k = l.length := by omega
        rw [hk2, List.take_length, List.take_of_length_le (by omega)] at ht
        simpa using ht
      have HD := Lib.hid hd
      have HWR := Lib.hid hwr; clear hwr
      clear hd ht
      go_wp2_with fail
      go_ret
      exact ⟨by rw [HD.out]; rfl, by rw [HWR.out]; exact ⟨_, rfl⟩⟩
end Go.Proofs.YthkhgihjigmkoaaGreat
namespace Go.Proofs.YthkhgihjigmkoaaGreat.Tk
open Go.ChangeShapes Go.WideShapes Go.ChangeAt Go.RowKit Go.Maps
set_option maxRecDepth 100000 in
set_option maxHeartbeats 1600000 in
theorem refWords_any (w : World) (D D' : Nat → Prop) (p : TPrg) (hp : PSmall p) (a1 : Option Addr) (m1 : Nat) (hs : ShL w D a1 p.shapes) (a2 : Option Addr) (m2 : Nat) (l : List Int) (hl : IntSl w D' a2 l) (hn : l.length ≤ 3000) :
    Calls Tryz.prog 65 #[.slice a1 p.shapes.length m1, .slice a2 l.length m2] w fun e w' => e = .returned (.int .i64 (objsN p l : Nat)) ∧ ∃ n, w' = w.drewN n := by
  have hfl := fun s => fieldsN_le hp s
  have hsh := hp.1
  have hob : ∀ k, k ≤ l.length → objsN p (l.take k) ≤ 9000000 := fun k hk => by
    have h1 := objsN_le hp (l.take k)
    have h2 : (l.take k).length ≤ 3000 := by rw [List.length_take]; omega
    omega
  clear hp
  have HS := Lib.hid hs; clear hs
  have HL := Lib.hid hl; clear hl
  have HFL := Lib.hid hfl; clear hfl
  have HOB := Lib.hid hob; clear hob
  go_enter Tryz.func65, Tryz.ntmps65
  go_upto_region 3 with fail
  go_wp2_with fail
  go_loopw [5, 6] (fun n i wr => ∃ k : Nat, k ≤ l.length ∧ i = .int .i64 k ∧ n = .int .i64 (objsN p (l.take k) : Nat) ∧ ∃ m, wr = w.drewN m) (fun _ i _ => l.length - (intOf i).toNat)
  case atStart => exact ⟨0, Nat.zero_le _, rfl, rfl, 0, rfl⟩
  case round =>
    obtain ⟨k, hk, rfl, rfl, m, hwr⟩ := hrel
    by_cases hlt : k < l.length
    · obtain ⟨b, o, rfl, _, hx⟩ := HL.out k hlt
      have hx1 : wr.cell? ⟨b, o + k, none⟩ = some (.int .i64 l[k]) := by rw [hwr]; exact hx
      have hsn := objsN_snoc p l k hlt
      have hb1 := HOB.out k hk
      have hb2 := HOB.out (k + 1) hlt
      have hk0 : (k : Int) < (l.length : Int) := by omega
      have hk1 : (0 : Int) ≤ (k : Int) := by omega
      have i1 : IntKind.i64.wrap ((k : Int) + 1) = ((k + 1 : Nat) : Int) := IntWalk.i64_in _ (by omega)
      obtain ⟨N, hN⟩ : ∃ N, N = objsN p (l.take k) := ⟨_, rfl⟩
      obtain ⟨N2, hN2⟩ : ∃ N2, N2 = objsN p (l.take (k + 1)) := ⟨_, rfl⟩
      rw [← hN] at hsn hb1
      rw [← hN2] at hsn hb2
      rw [← hN]
      have HN := Lib.hid hN2
      clear hN hN2 hx
      cases hws : withinB l[k] p.shapes.length
      · have hfz : fieldsN p l[k] = 0 := by unfold fieldsN; rw [hws]; rfl
        rw [hfz] at hsn
        generalize l[k] = x at *
        have HSN := Lib.hid hsn
        have HWR := Lib.hid hwr
        clear hfz hsn hwr
        by_cases hx0 : 0 ≤ x
        · have hx2 : ¬ x < p.shapes.length := by simp [withinB] at hws; omega
          clear hws
          go_wp2_with fail
          go_roundw
          case rel => exact ⟨k + 1, hlt, by go_num, by rw [← HN.out, HSN.out]; rfl, by rw [HWR.out]; exact ⟨_, by first | rfl | (simp; rfl)⟩⟩
          case measure => simp [intOf]; omega
        · clear hws
          go_wp2_with fail
          go_roundw
          case rel => exact ⟨k + 1, hlt, by go_num, by rw [← HN.out, HSN.out]; rfl, by rw [HWR.out]; exact ⟨_, by first | rfl | (simp; rfl)⟩⟩
          case measure => simp [intOf]; omega
      · obtain ⟨y, hy, hyl⟩ := within_nat hws
        have hfz : fieldsN p l[k] = p.shapes[y] := by unfold fieldsN; rw [if_pos hws, hy]; simp [hyl]
        rw [hfz] at hsn
        rw [hy] at hx1
        obtain ⟨b8, o8, rfl, hd8, a8, c8, hq⟩ := HS.out y hyl
        have hq1 : wr.cell? ⟨b8, o8 + y, none⟩ = some (.slice a8 p.shapes[y] c8) := by rw [hwr]; exact hq
        generalize p.shapes[y] = ny at *
        have hy0 : (0 : Int) ≤ (y : Int) := by omega
        have hy1 : (y : Int) < p.shapes.length := by omega
        have i2 : IntKind.i64.wrap ((N : Int) + (ny : Int)) = (N2 : Int) := by rw [show ((N : Int) + (ny : Int)) = (N2 : Int) from by omega]; exact IntWalk.i64_in _ (by omega)
        have HSN := Lib.hid hsn
        have HWR := Lib.hid hwr
        clear hws hfz hy hsn hwr hq
        go_wp2_with fail
        go_roundw
        case rel => exact ⟨k + 1, hlt, by go_num, by first | rw [← HN.out] | (rw [← HN.out]; rfl), by rw [HWR.out]; exact ⟨_, by first | rfl | (simp; rfl)⟩⟩
        case measure => simp [intOf]; omega
    · have hk' : k = l.length := by omega
      subst hk'
      rw [List.take_length]
      have HWR := Lib.hid hwr
      clear hwr
      obtain ⟨z, hz⟩ : ∃ z, z = objsN p l := ⟨_, rfl⟩
      rw [← hz]
      have HZ := Lib.hid hz
      clear hz
      go_wp2_with fail
      go_ret
      rw [← HZ.out]
      exact ⟨rfl, by rw [HWR.out]; exact ⟨_, by first | rfl | (simp; rfl)⟩⟩
set_option maxRecDepth 100000 in
set_option maxHeartbeats 1600000 in
theorem frameWords_any (w : World) (D : Nat → Prop) (hD : ∀ k, D k → k < w.heap.size) (p : TPrg) (c0 c1 c2 : Value) (j : Nat) (hj : j < p.funcs.length) (hv : PV w D p c0 c1 c2) (hp : PSmall p) (sl : Nat) (hsl : p.funcs[j].slots = sl) (hsl2 : sl ≤ 3000) :
    Calls Tryz.prog 25 #[.agg #[c0, c1, c2], .int .i64 j] w fun e w' => e = .returned (.int .i64 (wordsN p j)) ∧ Below w.heap.size w w' := by
  have hv0 := hv
  obtain ⟨⟨a0, n0, m0, rfl⟩, ⟨a1, m1, rfl, _⟩, a2, m2, rfl, _⟩ := hv
  have hb0 := ((Below.refl w.heap.size w).alloc (Nat.le_refl _) (.cells #[.slice a0 n0 m0, .slice a1 p.shapes.length m1, .slice a2 p.funcs.length m2] 27))
  have hq := fun j => cell_new w #[.slice a0 n0 m0, .slice a1 p.shapes.length m1, .slice a2 p.funcs.length m2] 27 (0, 0) j
  obtain ⟨W, hW⟩ : ∃ W, W = (w.alloc (.cells #[.slice a0 n0 m0, .slice a1 p.shapes.length m1, .slice a2 p.funcs.length m2] 27)) := ⟨_, rfl⟩
  rw [← hW] at hb0 hq
  have k0 : W.cell? ⟨w.heap.size, 0, none⟩ = some (.slice a0 n0 m0) := hq 0
  have k1 : W.cell? ⟨w.heap.size, 1, none⟩ = some (.slice a1 p.shapes.length m1) := hq 1
  have k2 : W.cell? ⟨w.heap.size, 2, none⟩ = some (.slice a2 p.funcs.length m2) := hq 2
  obtain ⟨_, ⟨a1', m1', e1, hsh⟩, a2', m2', e2, hfn⟩ := hv0.below hb0
  injection e1 with e1 _ e1'
  injection e2 with e2 _ e2'
  subst e1 e1' e2 e2'
  obtain ⟨bb, o, rfl, _, y0, y1, y2, y3, y4, g0, g1, g2, g3, g4, hfv⟩ := hfn j hj
  have hfp := hp.2.2.2 p.funcs[j] (List.getElem_mem hj)
  have hwn := wordsN_at j hj
  rw [hwn]
  unfold frameN
  generalize p.funcs[j] = f at *
  obtain ⟨_, _, rfl, ⟨e3, e4, rfl, hobj⟩, _⟩ := hfv
  rw [hsl] at g2 ⊢
  have wd := fun m => refWords_any (W.drewN m) D D p hp a1 m1 (hsh.fr (Fr.of_below (below_drewN (Below.refl W.heap.size W) m) (fun _ => False)) (fun _ _ h => h)) e3 e4 f.objects (hobj.fr (Fr.of_below (below_drewN (Below.refl W.heap.size W) m) (fun _ => False)) (fun _ _ h => h)) hfp.2.2
  have hob := objsN_le hp f.objects
  have hol := hfp.2.2
  have hj0 : ¬ (j : Int) < 0 := by omega
  have hj1 : ¬ (p.funcs.length : Int) ≤ (j : Int) := by omega
  have hj2 : (j : Int) < p.funcs.length := by omega
  have hj3 : (0 : Int) ≤ (j : Int) := by omega
  rw [Int.toNat_natCast]
  obtain ⟨ob, hob2⟩ : ∃ ob, ob = objsN p f.objects := ⟨_, rfl⟩
  rw [← hob2] at wd hob
  rw [← hob2]
  obtain ⟨s2, hs2⟩ : ∃ s2, s2 = 2 + sl := ⟨_, rfl⟩
  obtain ⟨R, hR⟩ : ∃ R, R = s2 + ob := ⟨_, rfl⟩
  have i1 : IntKind.i64.wrap (2 + (sl : Int)) = (s2 : Int) := by rw [show (2 + (sl : Int)) = (s2 : Int) from by omega]; exact IntWalk.i64_in _ (by omega)
  have i2 : IntKind.i64.wrap ((s2 : Int) + (ob : Int)) = (R : Int) := by rw [show ((s2 : Int) + (ob : Int)) = (R : Int) from by omega]; exact IntWalk.i64_in _ (by omega)
  rw [← hs2, ← hR]
  have HW := Lib.hid hW
  clear hW hq hsh hfn hv0 hp hobj hob hob2 hs2 hR hwn g0 g1 g4
  have WD := Lib.hid wd; clear wd
  have HB0 := Lib.hid hb0; clear hb0
  have HD := Lib.hid hD; clear hD
  go_enter Tryz.func25, Tryz.ntmps25
  go_upto_region 3 with fail
  rw [← HW.out]
  go_quiet ((go_at_call 65; exact Calls.quiet_of (WD.out _)))
  go_wp2_with fail
  go_ret
  exact ⟨rfl, below_drewN HB0.out _⟩
end Go.Proofs.YthkhgihjigmkoaaGreat.Tk
namespace Go.Proofs.YthkhgihjigmkoaaGreat.Tk
open Go.ChangeShapes Go.WideShapes Go.ChangeAt Go.RowKit Go.Maps
def p16 : TPrg := ⟨[], [⟨0, 2, []⟩]⟩
theorem p16_small : PSmall p16 := by
  unfold PSmall p16
  simp
theorem w40 : wordsN p16 (0 : Nat) = 4 := by decide
def T16 : Tk := enterT ⟨1073766400, List.replicate 4 0, [], []⟩ 0 4 0 (-1) []
set_option maxRecDepth 100000 in
set_option maxHeartbeats 3200000 in
theorem alive16 (w : World) :
    Calls Tryz.prog 10 #[] w fun e w' => e = .returned (.bool true) ∧ Below w.heap.size w w' := by
  obtain ⟨W1, h1⟩ : ∃ W1, W1 = w.alloc (.cells #[.int .i64 27, .int .i64 0, .int .i64 0, .int .i64 0] 59) := ⟨_, rfl⟩
  have s1 : W1.heap.size = w.heap.size + 1 := by rw [h1]; simp
  have b1 : Below w.heap.size w W1 := by rw [h1]; exact (Below.refl _ _).alloc (Nat.le_refl _) _
  have r0 : W1.heap[w.heap.size]? = some (.cells #[.int .i64 27, .int .i64 0, .int .i64 0, .int .i64 0] 59) := by rw [h1]; exact heap_new _ _
  obtain ⟨W2, h2⟩ : ∃ W2, W2 = W1.alloc (.cells #[.slice none 0 0, .int .i64 0, .int .i64 2, .slice none 0 0, .slice (some ⟨w.heap.size, 0, none⟩) 1 1] 74) := ⟨_, rfl⟩
  have s2 : W2.heap.size = w.heap.size + 1 + 1 := by rw [h2]; simp [s1]
  have b2 : Below W1.heap.size W1 W2 := by rw [h2]; exact (Below.refl _ _).alloc (Nat.le_refl _) _
  have r1 : W2.heap[w.heap.size + 1]? = some (.cells #[.slice none 0 0, .int .i64 0, .int .i64 2, .slice none 0 0, .slice (some ⟨w.heap.size, 0, none⟩) 1 1] 74) := by rw [h2, ← s1]; exact heap_new _ _
  obtain ⟨W3, h3⟩ : ∃ W3, W3 = W2.alloc (.cells #[.slice none 0 0, .slice none 0 0, .slice (some ⟨w.heap.size + 1, 0, none⟩) 1 1] 27) := ⟨_, rfl⟩
  have s3 : W3.heap.size = w.heap.size + 1 + 1 + 1 := by rw [h3]; simp [s2]
  have b3 : Below W2.heap.size W2 W3 := by rw [h3]; exact (Below.refl _ _).alloc (Nat.le_refl _) _
  have r2 : W3.heap[w.heap.size + 1 + 1]? = some (.cells #[.slice none 0 0, .slice none 0 0, .slice (some ⟨w.heap.size + 1, 0, none⟩) 1 1] 27) := by rw [h3, ← s2]; exact heap_new _ _
  have r0 := (Fr.of_below b2 (fun _ => False)).heap r0 (fun h => h)
  have r0 := (Fr.of_below b3 (fun _ => False)).heap r0 (fun h => h)
  have r1 := (Fr.of_below b3 (fun _ => False)).heap r1 (fun h => h)
  have hb : Below w.heap.size w W3 := b1|>.trans (b2.mono (by omega))|>.trans (b3.mono (by omega))
  have hpv : PV W3 (fun k => w.heap.size ≤ k ∧ k < W3.heap.size) p16 (.slice none 0 0) (.slice none 0 0) (.slice (some ⟨w.heap.size + 1, 0, none⟩) 1 1) := by
    refine ⟨⟨none, 0, 0, rfl⟩, ⟨none, 0, rfl, fun j hj => by cases hj⟩, _, 1, rfl, fun j hj => ?_⟩
    obtain rfl : j = 0 := by have : j < 1 := hj; omega
    exact ⟨_, 0, rfl, ⟨by omega, by omega⟩, _, _, _, _, _, (row_cell r1 0).1, (row_cell r1 1).1, (row_cell r1 2).1, (row_cell r1 3).1, (row_cell r1 4).1, ⟨none, 0, rfl⟩, ⟨0, rfl⟩, rfl, ⟨none, 0, rfl, fun i hi => by cases hi⟩, _, _, _, rfl⟩
  have k0 : W3.cell? ⟨w.heap.size + 1 + 1, 0, none⟩ = some (.slice none 0 0) := (row_cell r2 0).1
  have k1 : W3.cell? ⟨w.heap.size + 1 + 1, 1, none⟩ = some (.slice none 0 0) := (row_cell r2 1).1
  have k2 : W3.cell? ⟨w.heap.size + 1 + 1, 2, none⟩ = some (.slice (some ⟨w.heap.size + 1, 0, none⟩) 1 1) := (row_cell r2 2).1
  have hW : ((w.alloc (.cells #[.int .i64 27, .int .i64 0, .int .i64 0, .int .i64 0] 59)).alloc (.cells #[.slice none 0 0, .int .i64 0, .int .i64 2, .slice none 0 0, .slice (some ⟨w.heap.size, 0, none⟩) 1 1] 74)).alloc (.cells #[.slice none 0 0, .slice none 0 0, .slice (some ⟨w.heap.size + 1, 0, none⟩) 1 1] 27) = W3 := by rw [h3, h2, h1]
  have nw : Calls Tryz.prog 13 #[.agg #[.slice none 0 0, .slice none 0 0, .slice (some ⟨w.heap.size + 1, 0, none⟩) 1 1], .int .i64 0, .slice none 0 0, .int .i64 3, .int .i64 2, .int .i64 100] W3 fun e w' => ∃ tb F X, e = .returned (.tuple #[.pointer (some ⟨tb, 0, none⟩), .int .i64 0]) ∧ TaskAt w' F tb p16 T16 X ∧ (∀ k, F k → W3.heap.size ≤ k) ∧ Below W3.heap.size W3 w' := by
    have := new_any W3 _ (fun k hk => hk.2) p16 _ _ _ hpv p16_small 0 (by decide) rfl (by decide) 3 (by omega) 2 100 4 (by omega) (by omega) (by omega) (by rw [w40]; omega) (fun w => by rw [w40]; exact fit24 w)
    rw [w40] at this
    exact this
  have HW := Lib.hid hW
  have HS3 := Lib.hid s3
  clear r0 r1 r2 b1 b2 b3 s1 s2 s3 h1 h2 h3 hpv hW
  have NW := Lib.hid nw; clear nw
  have HB := Lib.hid hb; clear hb
  go_enter Tryz.func10, Tryz.ntmps10
  go_upto_region 2 with fail
  rw [HW.out]
  go_wp2_with fail
  refine NW.out.mono ?_
  rintro e w4 ⟨tb, F, X, rfl, hT, hF, hb4⟩
  have hlen : T16.parts.length = 1 := rfl
  have hml : T16.marks.length = 1 := rfl
  have hok : TkOk T16 := ⟨by decide, by decide, by decide, fun q hq => by
    have h1 : q = ⟨((0 : Nat) : Int), 0, ((0 : Nat) : Int), -1, none, 0, 0⟩ := by
      have : q ∈ ([⟨((0 : Nat) : Int), 0, ((0 : Nat) : Int), -1, none, 0, 0⟩] : List Part) := hq
      simpa using this
    rw [h1]
    decide⟩
  have hsp : ∀ wr, Below w4.heap.size w4 wr → ∀ d : Nat, d < T16.parts.length → Calls Tryz.prog 63 #[.pointer (some ⟨tb, 0, none⟩), .int .i64 d] wr fun e w' => ∃ s : SpotV, e = .returned (.agg #[.int .i64 s.x0, .int .i64 s.x1, .int .i64 s.x2, .bool s.b3, .bool s.b4, .int .i64 s.x5, .bool s.b6, .slice s.a7 2 s.c7, .slice s.a8 s.n8 s.c8]) ∧ Below wr.heap.size wr w' := fun wr hw d hd => by
    obtain rfl : d = 0 := by have : d < 1 := hd; omega
    refine (spot_any wr F tb p16 T16 X (hT.below hw) p16_small hok 0 (by decide) (by decide) 0 (by decide) rfl 2 rfl 0 rfl (by rw [w40]; decide)).mono ?_
    rintro e w' ⟨x0, x1, x2, b3, b4, x5, b6, a7, c7, a8, n8, c8, rfl, hb⟩
    exact ⟨⟨x0, x1, x2, b3, b4, x5, b6, a7, 2, c7, a8, n8, c8⟩, rfl, hb⟩
  have lf := life_any w4 F tb p16 T16 X hT (by decide) (fun q hq => by
    have : q ∈ ([⟨((0 : Nat) : Int), 0, ((0 : Nat) : Int), -1, none, 0, 0⟩] : List Part) := hq
    simp at this
    rw [this]) 2 hsp
  have hb5 := HB.out.trans (hb4.mono HB.out.size)
  rw [show T16.base = 1073766400 from rfl, show T16.words.length = 4 from rfl, hlen] at lf
  clear hsp hb4 k0 k1 k2
  have LF := Lib.hid lf; clear lf
  have HT := Lib.hid hT; clear hT
  have HF := Lib.hid hF; clear hF
  have HOK := Lib.hid hok; clear hok
  have HB5 := Lib.hid hb5; clear hb5
  have HLEN := Lib.hid hlen; clear hlen
  have HML := Lib.hid hml; clear hml
  go_wp2_with fail
  refine LF.out.mono ?_
  rintro e w5 ⟨fr, v, g1, g2, g3, rfl, hfr, hfl, hn7, hb6⟩
  obtain ⟨fa, fc, rfl, hel⟩ := own_elems hfr
  obtain ⟨fb, rfl, how, hc⟩ := hel 0 (by omega)
  have hc7 : w5.cell? ⟨fb, 7, none⟩ = some (.slice fr[0].a7 fr[0].n7 fr[0].c7) := hc 7 _ rfl
  rw [hn7 _ (List.getElem_mem _)] at hc7
  have hfb := (hfr.lt how).1
  rw [hfl]
  generalize fr[0].a7 = q7 at hc7
  generalize fr[0].c7 = q8 at hc7
  have hT := HT.out
  have hflt := hT.flt
  have hb7 := hb6.alloc hb6.size (.cells #[.int .i64 0, .int .i64 1073766400, .int .i64 4, .slice (some ⟨fb, 0, none⟩) 1 fc, .slice g1 g2 g3, .slice none 0 0, .bool false] 47)
  have hr := heap_new w5 (.cells #[.int .i64 0, .int .i64 1073766400, .int .i64 4, .slice (some ⟨fb, 0, none⟩) 1 fc, .slice g1 g2 g3, .slice none 0 0, .bool false] 47)
  have hc7 := below_cell ((Below.refl w5.heap.size w5).alloc (Nat.le_refl _) (.cells #[.int .i64 0, .int .i64 1073766400, .int .i64 4, .slice (some ⟨fb, 0, none⟩) 1 fc, .slice g1 g2 g3, .slice none 0 0, .bool false] 47)) hc7
  have hbl := hb6.size
  obtain ⟨lb, hlb⟩ : ∃ lb, lb = w5.heap.size := ⟨_, rfl⟩
  obtain ⟨w6, hw6⟩ : ∃ w6, w6 = w5.alloc (.cells #[.int .i64 0, .int .i64 1073766400, .int .i64 4, .slice (some ⟨fb, 0, none⟩) 1 fc, .slice g1 g2 g3, .slice none 0 0, .bool false] 47) := ⟨_, rfl⟩
  have HW6 := Lib.hid hw6
  rw [← hw6] at hb7 hr hc7
  rw [← hlb] at hr hbl
  have hT6 := hT.below hb7
  have hTT : ∀ wr, Below w6.heap.size w6 wr → TaskAt wr F tb p16 T16 X := fun wr hw => hT6.below hw
  have dp : ∀ wr, Below w6.heap.size w6 wr → Calls Tryz.prog 34 #[.pointer (some ⟨tb, 0, none⟩)] wr fun e w' => e = .returned (.int .i64 1) ∧ wr = w' := fun wr hw => depth_any wr F tb p16 T16 X (hTT wr hw)
  have us : ∀ wr, Below w6.heap.size w6 wr → Calls Tryz.prog 22 #[.pointer (some ⟨tb, 0, none⟩)] wr fun e w' => e = .returned (.int .i64 4) ∧ Below wr.heap.size wr w' := fun wr hw => used_any wr F tb p16 T16 X (hTT wr hw) p16_small HOK.out
  have cp : ∀ wr, Below w6.heap.size w6 wr → Calls Tryz.prog 37 #[.pointer (some ⟨tb, 0, none⟩)] wr fun e w' => e = .returned (.int .i64 4) ∧ wr = w' := fun wr hw => cap_any wr F tb p16 T16 X (hTT wr hw)
  have st : ∀ wr, Below w6.heap.size w6 wr → Calls Tryz.prog 18 #[.pointer (some ⟨tb, 0, none⟩), .int .i64 1, .int .i64 7] wr fun e w' => e = .returned (.bool true) ∧ TaskAt w' F tb p16 ⟨1073766400, [0, 0, 0, 7], T16.parts, T16.marks⟩ X ∧ Fr F wr w' := fun wr hw => set_in wr F tb p16 T16 X (hTT wr hw) HOK.out 0 rfl 0 (by decide) rfl 0 rfl 1 (by decide) (by omega) (by decide) 7
  have sl : ∀ wr, TaskAt wr F tb p16 ⟨1073766400, [0, 0, 0, 7], T16.parts, T16.marks⟩ X → Calls Tryz.prog 33 #[.pointer (some ⟨tb, 0, none⟩), .int .i64 1] wr fun e w' => e = .returned (.int .i64 7) ∧ Below wr.heap.size wr w' := fun wr hw => slot_in wr F tb p16 ⟨1073766400, [0, 0, 0, 7], T16.parts, T16.marks⟩ X hw ⟨HOK.out.1, HOK.out.2.1, by decide, HOK.out.2.2.2⟩ 0 rfl 0 (by decide) rfl 0 rfl 1 (by decide) (by omega) (by decide)
  have hF6 : ¬ F lb := fun h => by have := hflt lb h; omega
  have hF7 : ¬ F fb := fun h => by have := hflt fb h; omega
  have hw0 := Below.refl w6.heap.size w6
  have hb8 := HB5.out.trans (hb7.mono HB5.out.size)
  have hlo := HF.out
  have hWS : w.heap.size ≤ W3.heap.size := HB.out.size
  have HLB := Lib.hid hlb
  clear hfr hn7 hel hc hb6 hT hT6 hflt hb7 hlb hw6
  have DP := Lib.hid dp; clear dp
  have US := Lib.hid us; clear us
  have CP := Lib.hid cp; clear cp
  have ST := Lib.hid st; clear st
  have SL := Lib.hid sl; clear sl
  have HR := Lib.hid hr; clear hr
  have HC7 := Lib.hid hc7; clear hc7
  have HF6 := Lib.hid hF6; clear hF6
  have HF7 := Lib.hid hF7; clear hF7
  have HW0 := Lib.hid hw0; clear hw0
  have HB8 := Lib.hid hb8; clear hb8
  have HLO := Lib.hid hlo; clear hlo
  have HWS := Lib.hid hWS; clear hWS
  go_wp2_with fail
  rw [← HW6.out, ← HLB.out]
  go_wp2_with fail
  refine (DP.out _ HW0.out).mono ?_
  rintro e wq ⟨rfl, rfl⟩
  go_wp2_with fail
  refine (US.out _ HW0.out).mono ?_
  rintro e w7 ⟨rfl, hb7⟩
  have hb9 := HW0.out.trans (hb7.mono HW0.out.size)
  have HB7 := Lib.hid hb9
  clear hb7 hb9
  go_wp2_with fail
  refine (CP.out _ HB7.out).mono ?_
  rintro e wq ⟨rfl, rfl⟩
  go_wp2_with fail
  refine (ST.out _ HB7.out).mono ?_
  rintro e w8 ⟨rfl, hT8, hf8⟩
  have HT8 := Lib.hid hT8
  have HF8 := Lib.hid hf8
  clear hT8 hf8
  go_wp2_with fail
  refine (SL.out _ HT8.out).mono ?_
  rintro e w9 ⟨rfl, hb9⟩
  have hrr := (Fr.of_below HB7.out (fun _ => False)).heap HR.out (fun h => h)
  have hrr := HF8.out.heap hrr HF6.out
  have hrr := (Fr.of_below hb9 (fun _ => False)).heap hrr (fun h => h)
  have hcc := HF8.out.cell (below_cell HB7.out HC7.out) HF7.out
  have hcc := below_cell hb9 hcc
  have d1 : w9.cell? ⟨lb, 1, none⟩ = some (.int .i64 1073766400) := (row_cell hrr 1).1
  have d3 : w9.cell? ⟨lb, 3, none⟩ = some (.slice (some ⟨fb, 0, none⟩) 1 fc) := (row_cell hrr 3).1
  have hbz := HB8.out.trans (HB7.out.mono HB8.out.size)
  have hbz := hbz.trans (HF8.out.below hbz.size (fun k hk => Nat.le_trans HWS.out (HLO.out k hk)))
  have HBZ := Lib.hid (hbz.trans (hb9.mono hbz.size))
  clear hrr hb9 hbz
  go_wp2_with fail
  go_ret
  exact ⟨rfl, HBZ.out⟩
end Go.Proofs.YthkhgihjigmkoaaGreat.Tk
