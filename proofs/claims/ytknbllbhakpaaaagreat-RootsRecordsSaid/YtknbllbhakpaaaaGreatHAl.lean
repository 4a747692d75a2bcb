/- Walks: shape.Places, check.places, slices.IndexFunc and ContainsFunc of it. Walk: check.look's kinds. -/
import Derived.Test.YtknbllbhakpaaaaGreatHAg
import Derived.Test.YtknbllbhakpaaaaGreatHAb
import Derived.Test.YtknbllbhakpaaaaGreatHAk
set_option linter.unusedVariables false
set_option linter.unusedSimpArgs false
namespace Go.Proofs.YtknbllbhakpaaaaGreat
open Go.ChangeShapes Go.WideShapes Go.ChangeAt Go.RowKit
set_option maxRecDepth 100000 in
theorem placesS_any (w : World) (x : Int) :
    Calls Tryz.prog 128 #[.int .i64 x] w fun e w' => ∃ y : Int, e = .returned (.tuple #[.int .i64 y, .bool (isLocB x)]) ∧ w = w' := by
  unfold isLocB
  by_cases h : x < 64
  · have h1 : decide (64 ≤ x) = false := by simpa using h
    rw [h1, Bool.false_and]
    clear h1
    go_enter Tryz.func128, Tryz.ntmps128
    go_wp2_with fail
    go_ret2
    first | exact ⟨0, rfl, rfl⟩ | exact ⟨⟨0, rfl⟩, rfl⟩ | exact ⟨⟨x - 64, rfl⟩, rfl⟩ | exact ⟨x - 64, rfl, rfl⟩
  · have h1 : decide (64 ≤ x) = true := by simpa using h
    rw [h1, Bool.true_and]
    clear h1
    by_cases h2 : 80 ≤ x
    · have h3 : decide (x < 80) = false := by simpa using h2
      rw [h3]
      clear h3
      go_enter Tryz.func128, Tryz.ntmps128
      go_wp2_with fail
      go_ret2
      first | exact ⟨0, rfl, rfl⟩ | exact ⟨⟨0, rfl⟩, rfl⟩ | exact ⟨⟨x - 64, rfl⟩, rfl⟩ | exact ⟨x - 64, rfl, rfl⟩
    · have h3 : decide (x < 80) = true := by simpa using h2
      rw [h3]
      clear h3
      have i1 : IntKind.i64.wrap (x - 64) = x - 64 := IntWalk.i64_in _ (by omega)
      go_enter Tryz.func128, Tryz.ntmps128
      go_wp2_with fail
      go_ret2
      first | exact ⟨0, rfl, rfl⟩ | exact ⟨⟨0, rfl⟩, rfl⟩ | exact ⟨⟨x - 64, rfl⟩, rfl⟩ | exact ⟨x - 64, rfl, rfl⟩
set_option maxRecDepth 100000 in
theorem places_any (w : World) (x : Int) :
    Calls Tryz.prog 163 #[.int .i64 x] w fun e w' => e = .returned (.bool (isLocB x)) ∧ w = w' := by
  have pl := placesS_any w x
  generalize isLocB x = z at *
  have PL := Lib.hid pl; clear pl
  go_enter Tryz.func163, Tryz.ntmps163
  go_wp2_with fail
  refine PL.out.mono ?_
  rintro e w' ⟨y, rfl, rfl⟩
  go_wp2_with fail
  go_ret
  exact ⟨rfl, rfl⟩
set_option maxRecDepth 100000 in
set_option maxHeartbeats 800000 in
theorem indexFunc_any (w : World) (D : Nat → Prop) (a : Option Addr) (l : List Int) (c : Nat) (hsl : IntSl w D a l) (hn : l.length ≤ 100000) :
    Calls Tryz.prog 186 #[.slice a l.length c, .func (.func 163) #[] #[]] w fun e w' => ∃ k : Int, e = .returned (.int .i64 k) ∧ decide (0 ≤ k) = l.any isLocB ∧ w = w' := by
  have pl := fun x => places_any w x
  have PL := Lib.hid pl; clear pl
  have HSL := Lib.hid hsl; clear hsl
  go_enter Tryz.func186, Tryz.ntmps186
  go_wp2_with fail
  go_loopw [8] (fun i wr => ∃ k : Nat, k ≤ l.length ∧ i = .int .i64 k ∧ wr = w ∧ (l.take k).any isLocB = false) (fun i _ => l.length - (intOf i).toNat)
  case atStart => exact ⟨0, Nat.zero_le _, by first | rfl | trivial, by first | rfl | trivial, by first | rfl | trivial | simp⟩
  case round =>
    obtain ⟨k, hk, rfl, rfl, hall⟩ := hrel
    by_cases hlt : k < l.length
    · obtain ⟨b', o', rfl, _, hx⟩ := HSL.out k hlt
      have hsn := take_snoc l k hlt
      have hmem := List.getElem_mem hlt
      generalize l[k] = x at *
      have WX := Lib.hid (PL.out x)
      cases hw : isLocB x
      · have hno : (l.take (k + 1)).any isLocB = false := by
          rw [hsn, List.any_append, hall]; simp [hw]
        rw [hw] at WX
        clear hsn hmem hall hw
        have HNO := Lib.hid hno; clear hno
        go_wp2_with fail
        refine WX.out.mono ?_
        rintro e w9 ⟨rfl, rfl⟩
        go_wp2_with fail
        go_roundw
        case rel => exact ⟨k + 1, by omega, by go_num, by first | rfl | trivial, HNO.out⟩
        case measure => simp [intOf]; omega
      · have hyes : l.any isLocB = true := by
          rw [List.any_eq_true]; exact ⟨x, hmem, hw⟩
        have hk0 : decide ((0 : Int) ≤ (k : Int)) = true := by simp
        rw [hw] at WX
        clear hsn hmem hall hw
        have HYES := Lib.hid hyes; clear hyes
        have HK0 := Lib.hid hk0; clear hk0
        go_wp2_with fail
        refine WX.out.mono ?_
        rintro e w9 ⟨rfl, rfl⟩
        go_wp2_with fail
        go_ret
        exact ⟨k, rfl, by rw [HYES.out]; exact HK0.out, by first | rfl | trivial⟩
    · have hk' : k = l.length := by omega
      subst hk'
      rw [List.take_length] at hall
      have HALL := Lib.hid hall; clear hall
      go_wp2_with fail
      go_ret
      exact ⟨-1, rfl, by rw [HALL.out]; rfl, by first | rfl | trivial⟩
set_option maxRecDepth 100000 in
theorem containsFunc_any (w : World) (D : Nat → Prop) (a : Option Addr) (l : List Int) (c : Nat) (hsl : IntSl w D a l) (hn : l.length ≤ 100000) :
    Calls Tryz.prog 162 #[.slice a l.length c, .func (.func 163) #[] #[]] w fun e w' => e = .returned (.bool (l.any isLocB)) ∧ w = w' := by
  have ix := indexFunc_any w D a l c hsl hn
  clear hsl
  generalize l.any isLocB = z at *
  have IX := Lib.hid ix; clear ix
  go_enter Tryz.func162, Tryz.ntmps162
  go_wp2_with fail
  refine IX.out.mono ?_
  rintro e w' ⟨k, rfl, hk, rfl⟩
  have HK := Lib.hid hk; clear hk
  go_wp2_with fail
  go_ret
  exact ⟨by rw [← HK.out]; rfl, rfl⟩
end Go.Proofs.YtknbllbhakpaaaaGreat
namespace Go.Proofs.YtknbllbhakpaaaaGreat
open Go.ChangeShapes Go.WideShapes Go.ChangeAt Go.RowKit
/-- kinds, by what callee answers -/
def kindsV (p : Prg) (i : Ins) : Bool := if i.op = 23 ∨ i.op = 24 then (calleeG p i).result == 0 && !(calleeG p i).args.any isLocB else if i.op = 25 ∨ i.op = 26 then decide (0 < p.shapes.length) else true
theorem kinds_eq (p : Prg) (i : Ins) : kindsV p i = kindsB p i := by
  unfold kindsV kindsB calleeG
  cases calleeF p i <;> rfl
set_option maxRecDepth 100000 in
set_option maxHeartbeats 1600000 in
theorem kindsL_any (w : World) (D : Nat → Prop) (hD : ∀ k, D k → k < w.heap.size) (p : Prg) (c0 c1 c2 d0 d3 d4 : Value) (r s : Int) (i : Ins) (fn pc : Int) (hv : PrgVal w D p c0 c1 c2) (hln : (calleeG p i).args.length ≤ 3000) :
    Calls Tryz.prog 142 #[.agg (lookC c0 c1 c2 d0 d3 d4 r s i fn pc)] w fun e w' => e = .returned (.bool (kindsV p i)) ∧ Below w.heap.size w w' := by
  obtain ⟨op, a, b, c⟩ := i
  have ca := fun W h1 h2 => callee_any W D h1 p c0 c1 c2 d0 d3 d4 r s ⟨op, a, b, c⟩ fn pc h2
  unfold CalleePost at ca
  have hC0 := (Below.refl w.heap.size w).alloc (Nat.le_refl _) (.cells (lookC c0 c1 c2 d0 d3 d4 r s ⟨op, a, b, c⟩ fn pc) 204)
  have hbx := box1 w (lookC c0 c1 c2 d0 d3 d4 r s ⟨op, a, b, c⟩ fn pc) 204 _ (Below.refl _ _)
  have hz0 : (w.alloc (.cells (lookC c0 c1 c2 d0 d3 d4 r s ⟨op, a, b, c⟩ fn pc) 204)).heap.size = w.heap.size + 1 := by simp
  obtain ⟨W, hW⟩ : ∃ W, W = w.alloc (.cells (lookC c0 c1 c2 d0 d3 d4 r s ⟨op, a, b, c⟩ fn pc) 204) := ⟨_, rfl⟩
  rw [← hW] at hC0 hbx hz0
  have q : ∀ W', Below W.heap.size W W' → ∀ j u, (lookC c0 c1 c2 d0 d3 d4 r s ⟨op, a, b, c⟩ fn pc)[j]? = some u → W'.cell? ⟨w.heap.size, j, none⟩ = some u := fun W' h j u hj => below_cell h (hbx.1 j u hj)
  clear hbx
  have HW := Lib.hid hW
  clear hW
  have hvW : ∀ W', Below W.heap.size W W' → PrgVal W' D p c0 c1 c2 := fun W' h => hv.fr (Fr.of_below (hC0.trans (h.mono hC0.size)) (fun _ => False)) (fun _ _ h => h)
  have hDW : ∀ k, D k → k < W.heap.size := fun k hk => by have := hD k hk; omega
  have HQQ := Lib.hid q
  clear q
  have HC0 := Lib.hid hC0; clear hC0
  have HVW := Lib.hid hvW; clear hvW
  have HDW := Lib.hid hDW; clear hDW
  have HZ0 := Lib.hid hz0; clear hz0
  by_cases h23 : op = 23
  · subst h23
    have hkv : kindsV p ⟨23, a, b, c⟩ = ((calleeG p ⟨23, a, b, c⟩).result == 0 && !(calleeG p ⟨23, a, b, c⟩).args.any isLocB) := by simp [kindsV]
    rw [hkv]
    clear hkv
    generalize (calleeG p ⟨23, a, b, c⟩) = G at *
    generalize (calleeF p ⟨23, a, b, c⟩).isSome = is at *
    generalize hgr : G.result = gr at *
    generalize hgs : G.slots = gs at *
    generalize hgn : G.args = ga at *
    clear hgr hgs
    have hln' : ga.length ≤ 3000 := hln
    clear hln
    have HGN := Lib.hid hgn; clear hgn
    obtain ⟨z, hzq⟩ : ∃ z, z = ga.any isLocB := ⟨_, rfl⟩
    rw [← hzq]
    have HZQ := Lib.hid hzq; clear hzq
    have CA := Lib.hid (ca W HDW.out (HVW.out W (Below.refl _ _)))
    clear ca hv hD
    unfold lookC at *
    go_enter Tryz.func142, Tryz.ntmps142
    go_upto_region 1 with fail
    rw [← HW.out]
    have p0 : W.cell? ⟨w.heap.size, 0, none⟩ = some _ := HQQ.out _ (Below.refl _ _) 0 _ rfl
    have p1 : W.cell? ⟨w.heap.size, 1, none⟩ = some _ := HQQ.out _ (Below.refl _ _) 1 _ rfl
    have p2 : W.cell? ⟨w.heap.size, 2, none⟩ = some _ := HQQ.out _ (Below.refl _ _) 2 _ rfl
    have p3 : W.cell? ⟨w.heap.size, 3, none⟩ = some _ := HQQ.out _ (Below.refl _ _) 3 _ rfl
    have p4 : W.cell? ⟨w.heap.size, 4, none⟩ = some _ := HQQ.out _ (Below.refl _ _) 4 _ rfl
    have p5 : W.cell? ⟨w.heap.size, 5, none⟩ = some _ := HQQ.out _ (Below.refl _ _) 5 _ rfl
    have p6 : W.cell? ⟨w.heap.size, 6, none⟩ = some _ := HQQ.out _ (Below.refl _ _) 6 _ rfl
    have p7 : W.cell? ⟨w.heap.size, 7, none⟩ = some _ := HQQ.out _ (Below.refl _ _) 7 _ rfl
    have p8 : W.cell? ⟨w.heap.size, 8, none⟩ = some _ := HQQ.out _ (Below.refl _ _) 8 _ rfl
    have p9 : W.cell? ⟨w.heap.size, 9, none⟩ = some _ := HQQ.out _ (Below.refl _ _) 9 _ rfl
    have p10 : W.cell? ⟨w.heap.size, 10, none⟩ = some _ := HQQ.out _ (Below.refl _ _) 10 _ rfl
    have p11 : W.cell? ⟨w.heap.size, 11, none⟩ = some _ := HQQ.out _ (Below.refl _ _) 11 _ rfl
    have p12 : W.cell? ⟨w.heap.size, 12, none⟩ = some _ := HQQ.out _ (Below.refl _ _) 12 _ rfl
    have p13 : W.cell? ⟨w.heap.size, 13, none⟩ = some _ := HQQ.out _ (Below.refl _ _) 13 _ rfl
    go_wp2_with fail
    refine CA.out.mono ?_
    rintro e w1 ⟨x0, x3, x4, rfl, hfv, hb1⟩
    obtain ⟨hq1, hq2, ⟨g0, g1, rfl, hsl⟩, ⟨g2, g3, rfl, _⟩, g4, g5, rfl, _⟩ := hfv
    clear hq1 hq2
    rw [HGN.out] at *
    clear p0 p1 p2 p3 p4 p5 p6 p7 p8 p9 p10 p11 p12 p13
    obtain ⟨y, hy⟩ : ∃ y, y = w1.heap.size := ⟨_, rfl⟩
    have hly := heap_new w1 (.cells #[.slice g0 ga.length g1, .int .i64 gr, .int .i64 gs, .slice g2 G.objects.length g3, .slice g4 G.code.length g5] 31)
    have hb3 := (Below.refl w1.heap.size w1).alloc (Nat.le_refl _) (.cells #[.slice g0 ga.length g1, .int .i64 gr, .int .i64 gs, .slice g2 G.objects.length g3, .slice g4 G.code.length g5] 31)
    obtain ⟨W3, hW3⟩ : ∃ W3, W3 = w1.alloc (.cells #[.slice g0 ga.length g1, .int .i64 gr, .int .i64 gs, .slice g2 G.objects.length g3, .slice g4 G.code.length g5] 31) := ⟨_, rfl⟩
    rw [← hW3] at hb3
    rw [← hW3, ← hy] at hly
    obtain ⟨⟨y0, y1, y2, y3, y4⟩, _⟩ := five_cells hly
    have hbw := hb1.trans (hb3.mono hb1.size)
    have p0 : W3.cell? ⟨w.heap.size, 0, none⟩ = some _ := HQQ.out _ hbw 0 _ rfl
    have p1 : W3.cell? ⟨w.heap.size, 1, none⟩ = some _ := HQQ.out _ hbw 1 _ rfl
    have p2 : W3.cell? ⟨w.heap.size, 2, none⟩ = some _ := HQQ.out _ hbw 2 _ rfl
    have p3 : W3.cell? ⟨w.heap.size, 3, none⟩ = some _ := HQQ.out _ hbw 3 _ rfl
    have p4 : W3.cell? ⟨w.heap.size, 4, none⟩ = some _ := HQQ.out _ hbw 4 _ rfl
    have p5 : W3.cell? ⟨w.heap.size, 5, none⟩ = some _ := HQQ.out _ hbw 5 _ rfl
    have p6 : W3.cell? ⟨w.heap.size, 6, none⟩ = some _ := HQQ.out _ hbw 6 _ rfl
    have p7 : W3.cell? ⟨w.heap.size, 7, none⟩ = some _ := HQQ.out _ hbw 7 _ rfl
    have p8 : W3.cell? ⟨w.heap.size, 8, none⟩ = some _ := HQQ.out _ hbw 8 _ rfl
    have p9 : W3.cell? ⟨w.heap.size, 9, none⟩ = some _ := HQQ.out _ hbw 9 _ rfl
    have p10 : W3.cell? ⟨w.heap.size, 10, none⟩ = some _ := HQQ.out _ hbw 10 _ rfl
    have p11 : W3.cell? ⟨w.heap.size, 11, none⟩ = some _ := HQQ.out _ hbw 11 _ rfl
    have p12 : W3.cell? ⟨w.heap.size, 12, none⟩ = some _ := HQQ.out _ hbw 12 _ rfl
    have p13 : W3.cell? ⟨w.heap.size, 13, none⟩ = some _ := HQQ.out _ hbw 13 _ rfl
    have HB2 := Lib.hid (HC0.out.trans (hbw.mono HC0.out.size))
    have HW3 := Lib.hid hW3
    have HY := Lib.hid hy
    clear hW3 hy hly hb1 hbw
    have cf := containsFunc_any W3 _ g0 ga g1 (hsl.fr (Fr.of_below hb3 (fun _ => False)) (fun _ _ h => h)) (by omega)
    clear hsl hb3
    rw [← HZQ.out] at cf
    have CF := Lib.hid cf; clear cf
    go_upto_region 2 with fail
    rw [← HW3.out, ← HY.out]
    by_cases h4 : gr = 0
    · subst h4
      go_wp2_with fail
      refine CF.out.mono ?_
      rintro e w9 ⟨rfl, rfl⟩
      cases z
      · go_wp2_with fail
        go_ret
        exact ⟨rfl, HB2.out⟩
      · go_wp2_with fail
        go_ret
        exact ⟨rfl, HB2.out⟩
    · have h4' : (gr == 0) = false := by simpa using h4
      clear h4
      go_wp2_with fail
      go_ret
      exact ⟨by rw [h4']; rfl, HB2.out⟩
  by_cases h24 : op = 24
  · subst h24
    have hkv : kindsV p ⟨24, a, b, c⟩ = ((calleeG p ⟨24, a, b, c⟩).result == 0 && !(calleeG p ⟨24, a, b, c⟩).args.any isLocB) := by simp [kindsV]
    rw [hkv]
    clear hkv
    generalize (calleeG p ⟨24, a, b, c⟩) = G at *
    generalize (calleeF p ⟨24, a, b, c⟩).isSome = is at *
    generalize hgr : G.result = gr at *
    generalize hgs : G.slots = gs at *
    generalize hgn : G.args = ga at *
    clear hgr hgs
    have hln' : ga.length ≤ 3000 := hln
    clear hln
    have HGN := Lib.hid hgn; clear hgn
    obtain ⟨z, hzq⟩ : ∃ z, z = ga.any isLocB := ⟨_, rfl⟩
    rw [← hzq]
    have HZQ := Lib.hid hzq; clear hzq
    have CA := Lib.hid (ca W HDW.out (HVW.out W (Below.refl _ _)))
    clear ca hv hD
    unfold lookC at *
    go_enter Tryz.func142, Tryz.ntmps142
    go_upto_region 1 with fail
    rw [← HW.out]
    have p0 : W.cell? ⟨w.heap.size, 0, none⟩ = some _ := HQQ.out _ (Below.refl _ _) 0 _ rfl
    have p1 : W.cell? ⟨w.heap.size, 1, none⟩ = some _ := HQQ.out _ (Below.refl _ _) 1 _ rfl
    have p2 : W.cell? ⟨w.heap.size, 2, none⟩ = some _ := HQQ.out _ (Below.refl _ _) 2 _ rfl
    have p3 : W.cell? ⟨w.heap.size, 3, none⟩ = some _ := HQQ.out _ (Below.refl _ _) 3 _ rfl
    have p4 : W.cell? ⟨w.heap.size, 4, none⟩ = some _ := HQQ.out _ (Below.refl _ _) 4 _ rfl
    have p5 : W.cell? ⟨w.heap.size, 5, none⟩ = some _ := HQQ.out _ (Below.refl _ _) 5 _ rfl
    have p6 : W.cell? ⟨w.heap.size, 6, none⟩ = some _ := HQQ.out _ (Below.refl _ _) 6 _ rfl
    have p7 : W.cell? ⟨w.heap.size, 7, none⟩ = some _ := HQQ.out _ (Below.refl _ _) 7 _ rfl
    have p8 : W.cell? ⟨w.heap.size, 8, none⟩ = some _ := HQQ.out _ (Below.refl _ _) 8 _ rfl
    have p9 : W.cell? ⟨w.heap.size, 9, none⟩ = some _ := HQQ.out _ (Below.refl _ _) 9 _ rfl
    have p10 : W.cell? ⟨w.heap.size, 10, none⟩ = some _ := HQQ.out _ (Below.refl _ _) 10 _ rfl
    have p11 : W.cell? ⟨w.heap.size, 11, none⟩ = some _ := HQQ.out _ (Below.refl _ _) 11 _ rfl
    have p12 : W.cell? ⟨w.heap.size, 12, none⟩ = some _ := HQQ.out _ (Below.refl _ _) 12 _ rfl
    have p13 : W.cell? ⟨w.heap.size, 13, none⟩ = some _ := HQQ.out _ (Below.refl _ _) 13 _ rfl
    go_wp2_with fail
    refine CA.out.mono ?_
    rintro e w1 ⟨x0, x3, x4, rfl, hfv, hb1⟩
    obtain ⟨hq1, hq2, ⟨g0, g1, rfl, hsl⟩, ⟨g2, g3, rfl, _⟩, g4, g5, rfl, _⟩ := hfv
    clear hq1 hq2
    rw [HGN.out] at *
    clear p0 p1 p2 p3 p4 p5 p6 p7 p8 p9 p10 p11 p12 p13
    obtain ⟨y, hy⟩ : ∃ y, y = w1.heap.size := ⟨_, rfl⟩
    have hly := heap_new w1 (.cells #[.slice g0 ga.length g1, .int .i64 gr, .int .i64 gs, .slice g2 G.objects.length g3, .slice g4 G.code.length g5] 31)
    have hb3 := (Below.refl w1.heap.size w1).alloc (Nat.le_refl _) (.cells #[.slice g0 ga.length g1, .int .i64 gr, .int .i64 gs, .slice g2 G.objects.length g3, .slice g4 G.code.length g5] 31)
    obtain ⟨W3, hW3⟩ : ∃ W3, W3 = w1.alloc (.cells #[.slice g0 ga.length g1, .int .i64 gr, .int .i64 gs, .slice g2 G.objects.length g3, .slice g4 G.code.length g5] 31) := ⟨_, rfl⟩
    rw [← hW3] at hb3
    rw [← hW3, ← hy] at hly
    obtain ⟨⟨y0, y1, y2, y3, y4⟩, _⟩ := five_cells hly
    have hbw := hb1.trans (hb3.mono hb1.size)
    have p0 : W3.cell? ⟨w.heap.size, 0, none⟩ = some _ := HQQ.out _ hbw 0 _ rfl
    have p1 : W3.cell? ⟨w.heap.size, 1, none⟩ = some _ := HQQ.out _ hbw 1 _ rfl
    have p2 : W3.cell? ⟨w.heap.size, 2, none⟩ = some _ := HQQ.out _ hbw 2 _ rfl
    have p3 : W3.cell? ⟨w.heap.size, 3, none⟩ = some _ := HQQ.out _ hbw 3 _ rfl
    have p4 : W3.cell? ⟨w.heap.size, 4, none⟩ = some _ := HQQ.out _ hbw 4 _ rfl
    have p5 : W3.cell? ⟨w.heap.size, 5, none⟩ = some _ := HQQ.out _ hbw 5 _ rfl
    have p6 : W3.cell? ⟨w.heap.size, 6, none⟩ = some _ := HQQ.out _ hbw 6 _ rfl
    have p7 : W3.cell? ⟨w.heap.size, 7, none⟩ = some _ := HQQ.out _ hbw 7 _ rfl
    have p8 : W3.cell? ⟨w.heap.size, 8, none⟩ = some _ := HQQ.out _ hbw 8 _ rfl
    have p9 : W3.cell? ⟨w.heap.size, 9, none⟩ = some _ := HQQ.out _ hbw 9 _ rfl
    have p10 : W3.cell? ⟨w.heap.size, 10, none⟩ = some _ := HQQ.out _ hbw 10 _ rfl
    have p11 : W3.cell? ⟨w.heap.size, 11, none⟩ = some _ := HQQ.out _ hbw 11 _ rfl
    have p12 : W3.cell? ⟨w.heap.size, 12, none⟩ = some _ := HQQ.out _ hbw 12 _ rfl
    have p13 : W3.cell? ⟨w.heap.size, 13, none⟩ = some _ := HQQ.out _ hbw 13 _ rfl
    have HB2 := Lib.hid (HC0.out.trans (hbw.mono HC0.out.size))
    have HW3 := Lib.hid hW3
    have HY := Lib.hid hy
    clear hW3 hy hly hb1 hbw
    have cf := containsFunc_any W3 _ g0 ga g1 (hsl.fr (Fr.of_below hb3 (fun _ => False)) (fun _ _ h => h)) (by omega)
    clear hsl hb3
    rw [← HZQ.out] at cf
    have CF := Lib.hid cf; clear cf
    go_upto_region 2 with fail
    rw [← HW3.out, ← HY.out]
    by_cases h4 : gr = 0
    · subst h4
      go_wp2_with fail
      refine CF.out.mono ?_
      rintro e w9 ⟨rfl, rfl⟩
      cases z
      · go_wp2_with fail
        go_ret
        exact ⟨rfl, HB2.out⟩
      · go_wp2_with fail
        go_ret
        exact ⟨rfl, HB2.out⟩
    · have h4' : (gr == 0) = false := by simpa using h4
      clear h4
      go_wp2_with fail
      go_ret
      exact ⟨by rw [h4']; rfl, HB2.out⟩
  have hv2 := hv
  obtain ⟨⟨a0, m0, rfl, _⟩, ⟨a1, m1, rfl, _⟩, a2, m2, rfl, _⟩ := hv2
  have hkv : kindsV p ⟨op, a, b, c⟩ = if op = 25 ∨ op = 26 then decide (0 < p.shapes.length) else true := by simp [kindsV, h23, h24]
  rw [hkv]
  clear hkv
  have e23 : (op == 23) = false := by simpa using h23
  have e24 : (op == 24) = false := by simpa using h24
  generalize (calleeG p ⟨op, a, b, c⟩) = G at *
  generalize (calleeF p ⟨op, a, b, c⟩).isSome = is at *
  generalize hgr : G.result = gr at *
  generalize hgs : G.slots = gs at *
  generalize hgn : G.args = ga at *
  clear hgr hgs hln
  have HGN := Lib.hid hgn; clear hgn
  by_cases h25 : op = 25
  · subst h25
    rw [if_pos (.inl rfl)]
    clear h23 h24
    have CA := Lib.hid (ca W HDW.out (HVW.out W (Below.refl _ _)))
    clear ca hv hD
    unfold lookC at *
    go_enter Tryz.func142, Tryz.ntmps142
    go_upto_region 1 with fail
    rw [← HW.out]
    have p0 : W.cell? ⟨w.heap.size, 0, none⟩ = some _ := HQQ.out _ (Below.refl _ _) 0 _ rfl
    have p1 : W.cell? ⟨w.heap.size, 1, none⟩ = some _ := HQQ.out _ (Below.refl _ _) 1 _ rfl
    have p2 : W.cell? ⟨w.heap.size, 2, none⟩ = some _ := HQQ.out _ (Below.refl _ _) 2 _ rfl
    have p3 : W.cell? ⟨w.heap.size, 3, none⟩ = some _ := HQQ.out _ (Below.refl _ _) 3 _ rfl
    have p4 : W.cell? ⟨w.heap.size, 4, none⟩ = some _ := HQQ.out _ (Below.refl _ _) 4 _ rfl
    have p5 : W.cell? ⟨w.heap.size, 5, none⟩ = some _ := HQQ.out _ (Below.refl _ _) 5 _ rfl
    have p6 : W.cell? ⟨w.heap.size, 6, none⟩ = some _ := HQQ.out _ (Below.refl _ _) 6 _ rfl
    have p7 : W.cell? ⟨w.heap.size, 7, none⟩ = some _ := HQQ.out _ (Below.refl _ _) 7 _ rfl
    have p8 : W.cell? ⟨w.heap.size, 8, none⟩ = some _ := HQQ.out _ (Below.refl _ _) 8 _ rfl
    have p9 : W.cell? ⟨w.heap.size, 9, none⟩ = some _ := HQQ.out _ (Below.refl _ _) 9 _ rfl
    have p10 : W.cell? ⟨w.heap.size, 10, none⟩ = some _ := HQQ.out _ (Below.refl _ _) 10 _ rfl
    have p11 : W.cell? ⟨w.heap.size, 11, none⟩ = some _ := HQQ.out _ (Below.refl _ _) 11 _ rfl
    have p12 : W.cell? ⟨w.heap.size, 12, none⟩ = some _ := HQQ.out _ (Below.refl _ _) 12 _ rfl
    have p13 : W.cell? ⟨w.heap.size, 13, none⟩ = some _ := HQQ.out _ (Below.refl _ _) 13 _ rfl
    go_wp2_with fail
    refine CA.out.mono ?_
    rintro e w1 ⟨x0, x3, x4, rfl, hfv, hb1⟩
    obtain ⟨hq1, hq2, ⟨g0, g1, rfl, hsl⟩, ⟨g2, g3, rfl, _⟩, g4, g5, rfl, _⟩ := hfv
    clear hq1 hq2
    rw [HGN.out] at *
    clear p0 p1 p2 p3 p4 p5 p6 p7 p8 p9 p10 p11 p12 p13
    obtain ⟨y, hy⟩ : ∃ y, y = w1.heap.size := ⟨_, rfl⟩
    have hly := heap_new w1 (.cells #[.slice g0 ga.length g1, .int .i64 gr, .int .i64 gs, .slice g2 G.objects.length g3, .slice g4 G.code.length g5] 31)
    have hb3 := (Below.refl w1.heap.size w1).alloc (Nat.le_refl _) (.cells #[.slice g0 ga.length g1, .int .i64 gr, .int .i64 gs, .slice g2 G.objects.length g3, .slice g4 G.code.length g5] 31)
    obtain ⟨W3, hW3⟩ : ∃ W3, W3 = w1.alloc (.cells #[.slice g0 ga.length g1, .int .i64 gr, .int .i64 gs, .slice g2 G.objects.length g3, .slice g4 G.code.length g5] 31) := ⟨_, rfl⟩
    rw [← hW3] at hb3
    rw [← hW3, ← hy] at hly
    obtain ⟨⟨y0, y1, y2, y3, y4⟩, _⟩ := five_cells hly
    have hbw := hb1.trans (hb3.mono hb1.size)
    have p0 : W3.cell? ⟨w.heap.size, 0, none⟩ = some _ := HQQ.out _ hbw 0 _ rfl
    have p1 : W3.cell? ⟨w.heap.size, 1, none⟩ = some _ := HQQ.out _ hbw 1 _ rfl
    have p2 : W3.cell? ⟨w.heap.size, 2, none⟩ = some _ := HQQ.out _ hbw 2 _ rfl
    have p3 : W3.cell? ⟨w.heap.size, 3, none⟩ = some _ := HQQ.out _ hbw 3 _ rfl
    have p4 : W3.cell? ⟨w.heap.size, 4, none⟩ = some _ := HQQ.out _ hbw 4 _ rfl
    have p5 : W3.cell? ⟨w.heap.size, 5, none⟩ = some _ := HQQ.out _ hbw 5 _ rfl
    have p6 : W3.cell? ⟨w.heap.size, 6, none⟩ = some _ := HQQ.out _ hbw 6 _ rfl
    have p7 : W3.cell? ⟨w.heap.size, 7, none⟩ = some _ := HQQ.out _ hbw 7 _ rfl
    have p8 : W3.cell? ⟨w.heap.size, 8, none⟩ = some _ := HQQ.out _ hbw 8 _ rfl
    have p9 : W3.cell? ⟨w.heap.size, 9, none⟩ = some _ := HQQ.out _ hbw 9 _ rfl
    have p10 : W3.cell? ⟨w.heap.size, 10, none⟩ = some _ := HQQ.out _ hbw 10 _ rfl
    have p11 : W3.cell? ⟨w.heap.size, 11, none⟩ = some _ := HQQ.out _ hbw 11 _ rfl
    have p12 : W3.cell? ⟨w.heap.size, 12, none⟩ = some _ := HQQ.out _ hbw 12 _ rfl
    have p13 : W3.cell? ⟨w.heap.size, 13, none⟩ = some _ := HQQ.out _ hbw 13 _ rfl
    have HB2 := Lib.hid (HC0.out.trans (hbw.mono HC0.out.size))
    have HW3 := Lib.hid hW3
    have HY := Lib.hid hy
    clear hW3 hy hly hb1 hbw
    clear hsl hb3
    go_upto_region 2 with fail
    rw [← HW3.out, ← HY.out]
    go_wp2_with fail
    go_ret
    exact ⟨rfl, HB2.out⟩
  by_cases h26 : op = 26
  · subst h26
    rw [if_pos (.inr rfl)]
    clear h23 h24
    have CA := Lib.hid (ca W HDW.out (HVW.out W (Below.refl _ _)))
    clear ca hv hD
    unfold lookC at *
    go_enter Tryz.func142, Tryz.ntmps142
    go_upto_region 1 with fail
    rw [← HW.out]
    have p0 : W.cell? ⟨w.heap.size, 0, none⟩ = some _ := HQQ.out _ (Below.refl _ _) 0 _ rfl
    have p1 : W.cell? ⟨w.heap.size, 1, none⟩ = some _ := HQQ.out _ (Below.refl _ _) 1 _ rfl
    have p2 : W.cell? ⟨w.heap.size, 2, none⟩ = some _ := HQQ.out _ (Below.refl _ _) 2 _ rfl
    have p3 : W.cell? ⟨w.heap.size, 3, none⟩ = some _ := HQQ.out _ (Below.refl _ _) 3 _ rfl
    have p4 : W.cell? ⟨w.heap.size, 4, none⟩ = some _ := HQQ.out _ (Below.refl _ _) 4 _ rfl
    have p5 : W.cell? ⟨w.heap.size, 5, none⟩ = some _ := HQQ.out _ (Below.refl _ _) 5 _ rfl
    have p6 : W.cell? ⟨w.heap.size, 6, none⟩ = some _ := HQQ.out _ (Below.refl _ _) 6 _ rfl
    have p7 : W.cell? ⟨w.heap.size, 7, none⟩ = some _ := HQQ.out _ (Below.refl _ _) 7 _ rfl
    have p8 : W.cell? ⟨w.heap.size, 8, none⟩ = some _ := HQQ.out _ (Below.refl _ _) 8 _ rfl
    have p9 : W.cell? ⟨w.heap.size, 9, none⟩ = some _ := HQQ.out _ (Below.refl _ _) 9 _ rfl
    have p10 : W.cell? ⟨w.heap.size, 10, none⟩ = some _ := HQQ.out _ (Below.refl _ _) 10 _ rfl
    have p11 : W.cell? ⟨w.heap.size, 11, none⟩ = some _ := HQQ.out _ (Below.refl _ _) 11 _ rfl
    have p12 : W.cell? ⟨w.heap.size, 12, none⟩ = some _ := HQQ.out _ (Below.refl _ _) 12 _ rfl
    have p13 : W.cell? ⟨w.heap.size, 13, none⟩ = some _ := HQQ.out _ (Below.refl _ _) 13 _ rfl
    go_wp2_with fail
    refine CA.out.mono ?_
    rintro e w1 ⟨x0, x3, x4, rfl, hfv, hb1⟩
    obtain ⟨hq1, hq2, ⟨g0, g1, rfl, hsl⟩, ⟨g2, g3, rfl, _⟩, g4, g5, rfl, _⟩ := hfv
    clear hq1 hq2
    rw [HGN.out] at *
    clear p0 p1 p2 p3 p4 p5 p6 p7 p8 p9 p10 p11 p12 p13
    obtain ⟨y, hy⟩ : ∃ y, y = w1.heap.size := ⟨_, rfl⟩
    have hly := heap_new w1 (.cells #[.slice g0 ga.length g1, .int .i64 gr, .int .i64 gs, .slice g2 G.objects.length g3, .slice g4 G.code.length g5] 31)
    have hb3 := (Below.refl w1.heap.size w1).alloc (Nat.le_refl _) (.cells #[.slice g0 ga.length g1, .int .i64 gr, .int .i64 gs, .slice g2 G.objects.length g3, .slice g4 G.code.length g5] 31)
    obtain ⟨W3, hW3⟩ : ∃ W3, W3 = w1.alloc (.cells #[.slice g0 ga.length g1, .int .i64 gr, .int .i64 gs, .slice g2 G.objects.length g3, .slice g4 G.code.length g5] 31) := ⟨_, rfl⟩
    rw [← hW3] at hb3
    rw [← hW3, ← hy] at hly
    obtain ⟨⟨y0, y1, y2, y3, y4⟩, _⟩ := five_cells hly
    have hbw := hb1.trans (hb3.mono hb1.size)
    have p0 : W3.cell? ⟨w.heap.size, 0, none⟩ = some _ := HQQ.out _ hbw 0 _ rfl
    have p1 : W3.cell? ⟨w.heap.size, 1, none⟩ = some _ := HQQ.out _ hbw 1 _ rfl
    have p2 : W3.cell? ⟨w.heap.size, 2, none⟩ = some _ := HQQ.out _ hbw 2 _ rfl
    have p3 : W3.cell? ⟨w.heap.size, 3, none⟩ = some _ := HQQ.out _ hbw 3 _ rfl
    have p4 : W3.cell? ⟨w.heap.size, 4, none⟩ = some _ := HQQ.out _ hbw 4 _ rfl
    have p5 : W3.cell? ⟨w.heap.size, 5, none⟩ = some _ := HQQ.out _ hbw 5 _ rfl
    have p6 : W3.cell? ⟨w.heap.size, 6, none⟩ = some _ := HQQ.out _ hbw 6 _ rfl
    have p7 : W3.cell? ⟨w.heap.size, 7, none⟩ = some _ := HQQ.out _ hbw 7 _ rfl
    have p8 : W3.cell? ⟨w.heap.size, 8, none⟩ = some _ := HQQ.out _ hbw 8 _ rfl
    have p9 : W3.cell? ⟨w.heap.size, 9, none⟩ = some _ := HQQ.out _ hbw 9 _ rfl
    have p10 : W3.cell? ⟨w.heap.size, 10, none⟩ = some _ := HQQ.out _ hbw 10 _ rfl
    have p11 : W3.cell? ⟨w.heap.size, 11, none⟩ = some _ := HQQ.out _ hbw 11 _ rfl
    have p12 : W3.cell? ⟨w.heap.size, 12, none⟩ = some _ := HQQ.out _ hbw 12 _ rfl
    have p13 : W3.cell? ⟨w.heap.size, 13, none⟩ = some _ := HQQ.out _ hbw 13 _ rfl
    have HB2 := Lib.hid (HC0.out.trans (hbw.mono HC0.out.size))
    have HW3 := Lib.hid hW3
    have HY := Lib.hid hy
    clear hW3 hy hly hb1 hbw
    clear hsl hb3
    go_upto_region 2 with fail
    rw [← HW3.out, ← HY.out]
    go_wp2_with fail
    go_ret
    exact ⟨rfl, HB2.out⟩
  rw [if_neg (by omega)]
  have e25 : (op == 25) = false := by simpa using h25
  have e26 : (op == 26) = false := by simpa using h26
  clear h23 h24 h25 h26
  have CA := Lib.hid (ca W HDW.out (HVW.out W (Below.refl _ _)))
  clear ca hv hD
  unfold lookC at *
  go_enter Tryz.func142, Tryz.ntmps142
  go_upto_region 1 with fail
  rw [← HW.out]
  have p0 : W.cell? ⟨w.heap.size, 0, none⟩ = some _ := HQQ.out _ (Below.refl _ _) 0 _ rfl
  have p1 : W.cell? ⟨w.heap.size, 1, none⟩ = some _ := HQQ.out _ (Below.refl _ _) 1 _ rfl
  have p2 : W.cell? ⟨w.heap.size, 2, none⟩ = some _ := HQQ.out _ (Below.refl _ _) 2 _ rfl
  have p3 : W.cell? ⟨w.heap.size, 3, none⟩ = some _ := HQQ.out _ (Below.refl _ _) 3 _ rfl
  have p4 : W.cell? ⟨w.heap.size, 4, none⟩ = some _ := HQQ.out _ (Below.refl _ _) 4 _ rfl
  have p5 : W.cell? ⟨w.heap.size, 5, none⟩ = some _ := HQQ.out _ (Below.refl _ _) 5 _ rfl
  have p6 : W.cell? ⟨w.heap.size, 6, none⟩ = some _ := HQQ.out _ (Below.refl _ _) 6 _ rfl
  have p7 : W.cell? ⟨w.heap.size, 7, none⟩ = some _ := HQQ.out _ (Below.refl _ _) 7 _ rfl
  have p8 : W.cell? ⟨w.heap.size, 8, none⟩ = some _ := HQQ.out _ (Below.refl _ _) 8 _ rfl
  have p9 : W.cell? ⟨w.heap.size, 9, none⟩ = some _ := HQQ.out _ (Below.refl _ _) 9 _ rfl
  have p10 : W.cell? ⟨w.heap.size, 10, none⟩ = some _ := HQQ.out _ (Below.refl _ _) 10 _ rfl
  have p11 : W.cell? ⟨w.heap.size, 11, none⟩ = some _ := HQQ.out _ (Below.refl _ _) 11 _ rfl
  have p12 : W.cell? ⟨w.heap.size, 12, none⟩ = some _ := HQQ.out _ (Below.refl _ _) 12 _ rfl
  have p13 : W.cell? ⟨w.heap.size, 13, none⟩ = some _ := HQQ.out _ (Below.refl _ _) 13 _ rfl
  go_wp2_with fail
  refine CA.out.mono ?_
  rintro e w1 ⟨x0, x3, x4, rfl, hfv, hb1⟩
  obtain ⟨hq1, hq2, ⟨g0, g1, rfl, hsl⟩, ⟨g2, g3, rfl, _⟩, g4, g5, rfl, _⟩ := hfv
  clear hq1 hq2
  rw [HGN.out] at *
  clear p0 p1 p2 p3 p4 p5 p6 p7 p8 p9 p10 p11 p12 p13
  obtain ⟨y, hy⟩ : ∃ y, y = w1.heap.size := ⟨_, rfl⟩
  have hly := heap_new w1 (.cells #[.slice g0 ga.length g1, .int .i64 gr, .int .i64 gs, .slice g2 G.objects.length g3, .slice g4 G.code.length g5] 31)
  have hb3 := (Below.refl w1.heap.size w1).alloc (Nat.le_refl _) (.cells #[.slice g0 ga.length g1, .int .i64 gr, .int .i64 gs, .slice g2 G.objects.length g3, .slice g4 G.code.length g5] 31)
  obtain ⟨W3, hW3⟩ : ∃ W3, W3 = w1.alloc (.cells #[.slice g0 ga.length g1, .int .i64 gr, .int .i64 gs, .slice g2 G.objects.length g3, .slice g4 G.code.length g5] 31) := ⟨_, rfl⟩
  rw [← hW3] at hb3
  rw [← hW3, ← hy] at hly
  obtain ⟨⟨y0, y1, y2, y3, y4⟩, _⟩ := five_cells hly
  have hbw := hb1.trans (hb3.mono hb1.size)
  have p0 : W3.cell? ⟨w.heap.size, 0, none⟩ = some _ := HQQ.out _ hbw 0 _ rfl
  have p1 : W3.cell? ⟨w.heap.size, 1, none⟩ = some _ := HQQ.out _ hbw 1 _ rfl
  have p2 : W3.cell? ⟨w.heap.size, 2, none⟩ = some _ := HQQ.out _ hbw 2 _ rfl
  have p3 : W3.cell? ⟨w.heap.size, 3, none⟩ = some _ := HQQ.out _ hbw 3 _ rfl
  have p4 : W3.cell? ⟨w.heap.size, 4, none⟩ = some _ := HQQ.out _ hbw 4 _ rfl
  have p5 : W3.cell? ⟨w.heap.size, 5, none⟩ = some _ := HQQ.out _ hbw 5 _ rfl
  have p6 : W3.cell? ⟨w.heap.size, 6, none⟩ = some _ := HQQ.out _ hbw 6 _ rfl
  have p7 : W3.cell? ⟨w.heap.size, 7, none⟩ = some _ := HQQ.out _ hbw 7 _ rfl
  have p8 : W3.cell? ⟨w.heap.size, 8, none⟩ = some _ := HQQ.out _ hbw 8 _ rfl
  have p9 : W3.cell? ⟨w.heap.size, 9, none⟩ = some _ := HQQ.out _ hbw 9 _ rfl
  have p10 : W3.cell? ⟨w.heap.size, 10, none⟩ = some _ := HQQ.out _ hbw 10 _ rfl
  have p11 : W3.cell? ⟨w.heap.size, 11, none⟩ = some _ := HQQ.out _ hbw 11 _ rfl
  have p12 : W3.cell? ⟨w.heap.size, 12, none⟩ = some _ := HQQ.out _ hbw 12 _ rfl
  have p13 : W3.cell? ⟨w.heap.size, 13, none⟩ = some _ := HQQ.out _ hbw 13 _ rfl
  have HB2 := Lib.hid (HC0.out.trans (hbw.mono HC0.out.size))
  have HW3 := Lib.hid hW3
  have HY := Lib.hid hy
  clear hW3 hy hly hb1 hbw
  clear hsl hb3
  go_upto_region 2 with fail
  rw [← HW3.out, ← HY.out]
  go_wp2_with fail
  go_ret
  exact ⟨rfl, HB2.out⟩
end Go.Proofs.YtknbllbhakpaaaaGreat
