/- Walks: check.look's quiet, form. Walks: check.look's form, things. -/
import Derived.Test.YtknbllbhakpaaaaGreatHAi
import Derived.Test.YtknbllbhakpaaaaGreatHAf
set_option linter.unusedVariables false
set_option linter.unusedSimpArgs false
namespace Go.Proofs.YtknbllbhakpaaaaGreat
open Go.ChangeShapes Go.WideShapes Go.ChangeAt Go.RowKit
/-- quiet, by what callee answers -/
def quietV (p : Prg) (r : Int) (i : Ins) : Bool := (i.op == 22 && r == 0) || (i.op == 21 && (calleeF p i).isSome && (calleeG p i).result == 0)
theorem quiet_eq (p : Prg) (f : Fun) (i : Ins) : quietV p f.result i = quietB p f i := by
  unfold quietV quietB calleeG
  cases calleeF p i with
  | none => simp
  | some g => simp
set_option maxRecDepth 100000 in
set_option maxHeartbeats 1600000 in
theorem quiet_any (w : World) (D : Nat → Prop) (hD : ∀ k, D k → k < w.heap.size) (p : Prg) (c0 c1 c2 d0 d3 d4 : Value) (r s : Int) (i : Ins) (fn pc : Int) (hv : PrgVal w D p c0 c1 c2) (hd0 : d0.oneCell' = true) (hd3 : d3.oneCell' = true) (hd4 : d4.oneCell' = true) :
    Calls Tryz.prog 158 #[.agg (lookC c0 c1 c2 d0 d3 d4 r s i fn pc)] w fun e w' => e = .returned (.bool (quietV p r i)) ∧ Below w.heap.size w w' := by
  obtain ⟨op, a, b, c⟩ := i
  have ca := fun W h1 h2 => callee_any W D h1 p c0 c1 c2 d0 d3 d4 r s ⟨op, a, b, c⟩ fn pc h2
  unfold CalleePost at ca
  have hC0 := (Below.refl w.heap.size w).alloc (Nat.le_refl _) (.cells (lookC c0 c1 c2 d0 d3 d4 r s ⟨op, a, b, c⟩ fn pc) 204)
  have hbx := box1 w (lookC c0 c1 c2 d0 d3 d4 r s ⟨op, a, b, c⟩ fn pc) 204 _ (Below.refl _ _)
  have hz0 : (w.alloc (.cells (lookC c0 c1 c2 d0 d3 d4 r s ⟨op, a, b, c⟩ fn pc) 204)).heap.size = w.heap.size + 1 := by simp
  obtain ⟨W, hW⟩ : ∃ W, W = w.alloc (.cells (lookC c0 c1 c2 d0 d3 d4 r s ⟨op, a, b, c⟩ fn pc) 204) := ⟨_, rfl⟩
  rw [← hW] at hC0 hbx hz0
  have q : ∀ W', Below W.heap.size W W' → ∀ j u, (lookC c0 c1 c2 d0 d3 d4 r s ⟨op, a, b, c⟩ fn pc)[j]? = some u → W'.cell? ⟨w.heap.size, j, none⟩ = some u := fun W' h j u hj => below_cell h (hbx.1 j u hj)
  clear hbx
  have HW := Lib.hid hW
  clear hW
  have hvW : ∀ W', Below W.heap.size W W' → PrgVal W' D p c0 c1 c2 := fun W' h => hv.fr (Fr.of_below (hC0.trans (h.mono hC0.size)) (fun _ => False)) (fun _ _ h => h)
  have hDW : ∀ k, D k → k < W.heap.size := fun k hk => by have := hD k hk; omega
  have HQQ := Lib.hid q
  clear q
  have HC0 := Lib.hid hC0; clear hC0
  have HVW := Lib.hid hvW; clear hvW
  have HDW := Lib.hid hDW; clear hDW
  have HZ0 := Lib.hid hz0; clear hz0
  unfold quietV
  dsimp only
  generalize (calleeG p ⟨op, a, b, c⟩) = G at *
  generalize (calleeF p ⟨op, a, b, c⟩).isSome = is at *
  generalize hgr : G.result = gr at *
  generalize hgs : G.slots = gs at *
  clear hgr hgs
  have CA := Lib.hid (ca W HDW.out (HVW.out W (Below.refl _ _)))
  clear ca hv hD
  unfold lookC at *
  go_enter Tryz.func158, Tryz.ntmps158
  go_upto_region 1 with fail
  rw [← HW.out]
  have p0 : W.cell? ⟨w.heap.size, 0, none⟩ = some c0 := HQQ.out _ (Below.refl _ _) 0 _ rfl
  have p1 : W.cell? ⟨w.heap.size, 1, none⟩ = some c1 := HQQ.out _ (Below.refl _ _) 1 _ rfl
  have p2 : W.cell? ⟨w.heap.size, 2, none⟩ = some c2 := HQQ.out _ (Below.refl _ _) 2 _ rfl
  have p3 : W.cell? ⟨w.heap.size, 3, none⟩ = some d0 := HQQ.out _ (Below.refl _ _) 3 _ rfl
  have p4 : W.cell? ⟨w.heap.size, 4, none⟩ = some (.int .i64 r) := HQQ.out _ (Below.refl _ _) 4 _ rfl
  have p5 : W.cell? ⟨w.heap.size, 5, none⟩ = some (.int .i64 s) := HQQ.out _ (Below.refl _ _) 5 _ rfl
  have p6 : W.cell? ⟨w.heap.size, 6, none⟩ = some d3 := HQQ.out _ (Below.refl _ _) 6 _ rfl
  have p7 : W.cell? ⟨w.heap.size, 7, none⟩ = some d4 := HQQ.out _ (Below.refl _ _) 7 _ rfl
  have p8 : W.cell? ⟨w.heap.size, 8, none⟩ = some (.int .i64 op) := HQQ.out _ (Below.refl _ _) 8 _ rfl
  have p9 : W.cell? ⟨w.heap.size, 9, none⟩ = some (.int .i64 a) := HQQ.out _ (Below.refl _ _) 9 _ rfl
  have p10 : W.cell? ⟨w.heap.size, 10, none⟩ = some (.int .i64 b) := HQQ.out _ (Below.refl _ _) 10 _ rfl
  have p11 : W.cell? ⟨w.heap.size, 11, none⟩ = some (.int .i64 c) := HQQ.out _ (Below.refl _ _) 11 _ rfl
  have p12 : W.cell? ⟨w.heap.size, 12, none⟩ = some (.int .i64 fn) := HQQ.out _ (Below.refl _ _) 12 _ rfl
  have p13 : W.cell? ⟨w.heap.size, 13, none⟩ = some (.int .i64 pc) := HQQ.out _ (Below.refl _ _) 13 _ rfl
  go_wp2_with fail
  refine CA.out.mono ?_
  rintro e w1 ⟨x0, x3, x4, rfl, hfv, hb1⟩
  obtain ⟨hq1, hq2, ⟨g0, g1, rfl, _⟩, ⟨g2, g3, rfl, _⟩, g4, g5, rfl, _⟩ := hfv
  clear hq1 hq2
  clear p0 p1 p2 p3 p4 p5 p6 p7 p8 p9 p10 p11 p12 p13
  have p0 : w1.cell? ⟨w.heap.size, 0, none⟩ = some c0 := HQQ.out _ hb1 0 _ rfl
  have p1 : w1.cell? ⟨w.heap.size, 1, none⟩ = some c1 := HQQ.out _ hb1 1 _ rfl
  have p2 : w1.cell? ⟨w.heap.size, 2, none⟩ = some c2 := HQQ.out _ hb1 2 _ rfl
  have p3 : w1.cell? ⟨w.heap.size, 3, none⟩ = some d0 := HQQ.out _ hb1 3 _ rfl
  have p4 : w1.cell? ⟨w.heap.size, 4, none⟩ = some (.int .i64 r) := HQQ.out _ hb1 4 _ rfl
  have p5 : w1.cell? ⟨w.heap.size, 5, none⟩ = some (.int .i64 s) := HQQ.out _ hb1 5 _ rfl
  have p6 : w1.cell? ⟨w.heap.size, 6, none⟩ = some d3 := HQQ.out _ hb1 6 _ rfl
  have p7 : w1.cell? ⟨w.heap.size, 7, none⟩ = some d4 := HQQ.out _ hb1 7 _ rfl
  have p8 : w1.cell? ⟨w.heap.size, 8, none⟩ = some (.int .i64 op) := HQQ.out _ hb1 8 _ rfl
  have p9 : w1.cell? ⟨w.heap.size, 9, none⟩ = some (.int .i64 a) := HQQ.out _ hb1 9 _ rfl
  have p10 : w1.cell? ⟨w.heap.size, 10, none⟩ = some (.int .i64 b) := HQQ.out _ hb1 10 _ rfl
  have p11 : w1.cell? ⟨w.heap.size, 11, none⟩ = some (.int .i64 c) := HQQ.out _ hb1 11 _ rfl
  have p12 : w1.cell? ⟨w.heap.size, 12, none⟩ = some (.int .i64 fn) := HQQ.out _ hb1 12 _ rfl
  have p13 : w1.cell? ⟨w.heap.size, 13, none⟩ = some (.int .i64 pc) := HQQ.out _ hb1 13 _ rfl
  have z0 := World.block_lt p0
  have hB2 := HC0.out.trans (((hb1.trans ((Below.refl w1.heap.size w1).alloc (Nat.le_refl _) (.cells #[.slice g0 G.args.length g1, .int .i64 gr, .int .i64 gs, .slice g2 G.objects.length g3, .slice g4 G.code.length g5] 31) |>.mono hb1.size))).mono HC0.out.size)
  clear hb1
  have HB2 := Lib.hid hB2; clear hB2
  go_upto_region 2 with fail
  by_cases h1 : op = 22
  · subst h1
    by_cases h2 : r = 0
    · subst h2
      go_wp2_with fail
      go_ret
      exact ⟨by simp [*], HB2.out⟩
    · have h2' : (r == 0) = false := by simpa using h2
      clear h2
      go_wp2_with fail
      go_ret
      exact ⟨by simp [*], HB2.out⟩
  · have h1' : (op == 22) = false := by simpa using h1
    clear h1
    by_cases h3 : op = 21
    · subst h3
      cases is
      · skip
        go_wp2_with fail
        go_ret
        exact ⟨by simp [*], HB2.out⟩
      · by_cases h4 : gr = 0
        · subst h4
          go_wp2_with fail
          go_ret
          exact ⟨by simp [*], HB2.out⟩
        · have h4' : (gr == 0) = false := by simpa using h4
          clear h4
          go_wp2_with fail
          go_ret
          exact ⟨by simp [*], HB2.out⟩
    · have h3' : (op == 21) = false := by simpa using h3
      clear h3
      go_wp2_with fail
      go_ret
      exact ⟨by simp [*], HB2.out⟩
end Go.Proofs.YtknbllbhakpaaaaGreat
namespace Go.Proofs.YtknbllbhakpaaaaGreat
open Go.ChangeShapes Go.WideShapes Go.ChangeAt Go.RowKit
set_option maxRecDepth 100000 in
set_option maxHeartbeats 1600000 in
theorem form_any (w : World) (D : Nat → Prop) (hD : ∀ k, D k → k < w.heap.size) (p : Prg) (c0 c1 c2 d0 d3 d4 : Value) (r s : Int) (i : Ins) (fn pc : Int) (hv : PrgVal w D p c0 c1 c2) (hd0 : d0.oneCell' = true) (hd3 : d3.oneCell' = true) (hd4 : d4.oneCell' = true) :
    Calls Tryz.prog 139 #[.agg (lookC c0 c1 c2 d0 d3 d4 r s i fn pc)] w fun e w' => e = .returned (.bool (knownS i.op && mayB i.a ((usesS i.op).1 && !quietV p r i) && mayB i.b (usesS i.op).2.1 && mayB i.c (usesS i.op).2.2)) ∧ Below w.heap.size w w' := by
  obtain ⟨op, a, b, c⟩ := i
  have qu := fun W h1 h2 => quiet_any W D h1 p c0 c1 c2 d0 d3 d4 r s ⟨op, a, b, c⟩ fn pc h2 hd0 hd3 hd4
  have hC0 := (Below.refl w.heap.size w).alloc (Nat.le_refl _) (.cells (lookC c0 c1 c2 d0 d3 d4 r s ⟨op, a, b, c⟩ fn pc) 204)
  have hbx := box1 w (lookC c0 c1 c2 d0 d3 d4 r s ⟨op, a, b, c⟩ fn pc) 204 _ (Below.refl _ _)
  have hz0 : (w.alloc (.cells (lookC c0 c1 c2 d0 d3 d4 r s ⟨op, a, b, c⟩ fn pc) 204)).heap.size = w.heap.size + 1 := by simp
  obtain ⟨W, hW⟩ : ∃ W, W = w.alloc (.cells (lookC c0 c1 c2 d0 d3 d4 r s ⟨op, a, b, c⟩ fn pc) 204) := ⟨_, rfl⟩
  rw [← hW] at hC0 hbx hz0
  have q : ∀ W', Below W.heap.size W W' → ∀ j u, (lookC c0 c1 c2 d0 d3 d4 r s ⟨op, a, b, c⟩ fn pc)[j]? = some u → W'.cell? ⟨w.heap.size, j, none⟩ = some u := fun W' h j u hj => below_cell h (hbx.1 j u hj)
  clear hbx
  have HW := Lib.hid hW
  clear hW
  have hvW : ∀ W', Below W.heap.size W W' → PrgVal W' D p c0 c1 c2 := fun W' h => hv.fr (Fr.of_below (hC0.trans (h.mono hC0.size)) (fun _ => False)) (fun _ _ h => h)
  have hDW : ∀ k, D k → k < W.heap.size := fun k hk => by have := hD k hk; omega
  have HQQ := Lib.hid q
  clear q
  have HC0 := Lib.hid hC0; clear hC0
  have HVW := Lib.hid hvW; clear hvW
  have HDW := Lib.hid hDW; clear hDW
  have HZ0 := Lib.hid hz0; clear hz0
  dsimp only
  have us := fun W => uses_any W op
  unfold UsesSaid at us
  have kn := known_any op
  generalize usesS op = U at *
  obtain ⟨v0, v1, v2⟩ := U
  generalize knownS op = kb at *
  generalize quietV p r ⟨op, a, b, c⟩ = qb at *
  dsimp only at us ⊢
  have QU := Lib.hid (qu W HDW.out (HVW.out W (Below.refl _ _)))
  clear qu hv hD
  have US := Lib.hid us; clear us
  have KN := Lib.hid kn; clear kn
  unfold lookC mayB at *
  go_enter Tryz.func139, Tryz.ntmps139
  go_upto_region 1 with fail
  rw [← HW.out]
  have p0 : W.cell? ⟨w.heap.size, 0, none⟩ = some c0 := HQQ.out _ (Below.refl _ _) 0 _ rfl
  have p1 : W.cell? ⟨w.heap.size, 1, none⟩ = some c1 := HQQ.out _ (Below.refl _ _) 1 _ rfl
  have p2 : W.cell? ⟨w.heap.size, 2, none⟩ = some c2 := HQQ.out _ (Below.refl _ _) 2 _ rfl
  have p3 : W.cell? ⟨w.heap.size, 3, none⟩ = some d0 := HQQ.out _ (Below.refl _ _) 3 _ rfl
  have p4 : W.cell? ⟨w.heap.size, 4, none⟩ = some (.int .i64 r) := HQQ.out _ (Below.refl _ _) 4 _ rfl
  have p5 : W.cell? ⟨w.heap.size, 5, none⟩ = some (.int .i64 s) := HQQ.out _ (Below.refl _ _) 5 _ rfl
  have p6 : W.cell? ⟨w.heap.size, 6, none⟩ = some d3 := HQQ.out _ (Below.refl _ _) 6 _ rfl
  have p7 : W.cell? ⟨w.heap.size, 7, none⟩ = some d4 := HQQ.out _ (Below.refl _ _) 7 _ rfl
  have p8 : W.cell? ⟨w.heap.size, 8, none⟩ = some (.int .i64 op) := HQQ.out _ (Below.refl _ _) 8 _ rfl
  have p9 : W.cell? ⟨w.heap.size, 9, none⟩ = some (.int .i64 a) := HQQ.out _ (Below.refl _ _) 9 _ rfl
  have p10 : W.cell? ⟨w.heap.size, 10, none⟩ = some (.int .i64 b) := HQQ.out _ (Below.refl _ _) 10 _ rfl
  have p11 : W.cell? ⟨w.heap.size, 11, none⟩ = some (.int .i64 c) := HQQ.out _ (Below.refl _ _) 11 _ rfl
  have p12 : W.cell? ⟨w.heap.size, 12, none⟩ = some (.int .i64 fn) := HQQ.out _ (Below.refl _ _) 12 _ rfl
  have p13 : W.cell? ⟨w.heap.size, 13, none⟩ = some (.int .i64 pc) := HQQ.out _ (Below.refl _ _) 13 _ rfl
  go_wp2_with fail
  refine (US.out _).mono ?_
  rintro e w1 ⟨rfl, rfl⟩
  cases v0
  · have HB2 := Lib.hid HC0.out
    go_wp2_with fail
    cases kb
    · skip
      refine (KN.out _).mono ?_; rintro e wq ⟨rfl, rfl⟩
      go_wp2_with fail
      go_ret
      exact ⟨by simp [*], HB2.out⟩
    · skip
      by_cases ha : a = 0
      · subst ha
        cases v1
        · by_cases hb : b = 0
          · subst hb
            cases v2
            · by_cases hc : c = 0
              · subst hc
                refine (KN.out _).mono ?_; rintro e wq ⟨rfl, rfl⟩
                go_wp2_with fail
                go_ret
                exact ⟨by simp [*], HB2.out⟩
              · have hc' : (c == 0) = false := by simpa using hc
                clear hc
                refine (KN.out _).mono ?_; rintro e wq ⟨rfl, rfl⟩
                go_wp2_with fail
                go_ret
                exact ⟨by simp [*], HB2.out⟩
            · skip
              refine (KN.out _).mono ?_; rintro e wq ⟨rfl, rfl⟩
              go_wp2_with fail
              go_ret
              exact ⟨by simp [*], HB2.out⟩
          · have hb' : (b == 0) = false := by simpa using hb
            clear hb
            refine (KN.out _).mono ?_; rintro e wq ⟨rfl, rfl⟩
            go_wp2_with fail
            go_ret
            exact ⟨by simp [*], HB2.out⟩
        · skip
          cases v2
          · by_cases hc : c = 0
            · subst hc
              refine (KN.out _).mono ?_; rintro e wq ⟨rfl, rfl⟩
              go_wp2_with fail
              go_ret
              exact ⟨by simp [*], HB2.out⟩
            · have hc' : (c == 0) = false := by simpa using hc
              clear hc
              refine (KN.out _).mono ?_; rintro e wq ⟨rfl, rfl⟩
              go_wp2_with fail
              go_ret
              exact ⟨by simp [*], HB2.out⟩
          · skip
            refine (KN.out _).mono ?_; rintro e wq ⟨rfl, rfl⟩
            go_wp2_with fail
            go_ret
            exact ⟨by simp [*], HB2.out⟩
      · have ha' : (a == 0) = false := by simpa using ha
        clear ha
        refine (KN.out _).mono ?_; rintro e wq ⟨rfl, rfl⟩
        go_wp2_with fail
        go_ret
        exact ⟨by simp [*], HB2.out⟩
  · go_wp2_with fail
    refine QU.out.mono ?_
    rintro e w1 ⟨rfl, hb1⟩
    have HB2 := Lib.hid (HC0.out.trans (hb1.mono HC0.out.size))
    clear p0 p1 p2 p3 p4 p5 p6 p7 p8 p9 p10 p11 p12 p13
    have p0 : w1.cell? ⟨w.heap.size, 0, none⟩ = some c0 := HQQ.out _ hb1 0 _ rfl
    have p1 : w1.cell? ⟨w.heap.size, 1, none⟩ = some c1 := HQQ.out _ hb1 1 _ rfl
    have p2 : w1.cell? ⟨w.heap.size, 2, none⟩ = some c2 := HQQ.out _ hb1 2 _ rfl
    have p3 : w1.cell? ⟨w.heap.size, 3, none⟩ = some d0 := HQQ.out _ hb1 3 _ rfl
    have p4 : w1.cell? ⟨w.heap.size, 4, none⟩ = some (.int .i64 r) := HQQ.out _ hb1 4 _ rfl
    have p5 : w1.cell? ⟨w.heap.size, 5, none⟩ = some (.int .i64 s) := HQQ.out _ hb1 5 _ rfl
    have p6 : w1.cell? ⟨w.heap.size, 6, none⟩ = some d3 := HQQ.out _ hb1 6 _ rfl
    have p7 : w1.cell? ⟨w.heap.size, 7, none⟩ = some d4 := HQQ.out _ hb1 7 _ rfl
    have p8 : w1.cell? ⟨w.heap.size, 8, none⟩ = some (.int .i64 op) := HQQ.out _ hb1 8 _ rfl
    have p9 : w1.cell? ⟨w.heap.size, 9, none⟩ = some (.int .i64 a) := HQQ.out _ hb1 9 _ rfl
    have p10 : w1.cell? ⟨w.heap.size, 10, none⟩ = some (.int .i64 b) := HQQ.out _ hb1 10 _ rfl
    have p11 : w1.cell? ⟨w.heap.size, 11, none⟩ = some (.int .i64 c) := HQQ.out _ hb1 11 _ rfl
    have p12 : w1.cell? ⟨w.heap.size, 12, none⟩ = some (.int .i64 fn) := HQQ.out _ hb1 12 _ rfl
    have p13 : w1.cell? ⟨w.heap.size, 13, none⟩ = some (.int .i64 pc) := HQQ.out _ hb1 13 _ rfl
    clear hb1
    go_wp2_with fail
    cases qb
    · skip
      cases kb
      · skip
        refine (KN.out _).mono ?_; rintro e wq ⟨rfl, rfl⟩
        go_wp2_with fail
        go_ret
        exact ⟨by simp [*], HB2.out⟩
      · skip
        cases v1
        · by_cases hb : b = 0
          · subst hb
            cases v2
            · by_cases hc : c = 0
              · subst hc
                refine (KN.out _).mono ?_; rintro e wq ⟨rfl, rfl⟩
                go_wp2_with fail
                go_ret
                exact ⟨by simp [*], HB2.out⟩
              · have hc' : (c == 0) = false := by simpa using hc
                clear hc
                refine (KN.out _).mono ?_; rintro e wq ⟨rfl, rfl⟩
                go_wp2_with fail
                go_ret
                exact ⟨by simp [*], HB2.out⟩
            · skip
              refine (KN.out _).mono ?_; rintro e wq ⟨rfl, rfl⟩
              go_wp2_with fail
              go_ret
              exact ⟨by simp [*], HB2.out⟩
          · have hb' : (b == 0) = false := by simpa using hb
            clear hb
            refine (KN.out _).mono ?_; rintro e wq ⟨rfl, rfl⟩
            go_wp2_with fail
            go_ret
            exact ⟨by simp [*], HB2.out⟩
        · skip
          cases v2
          · by_cases hc : c = 0
            · subst hc
              refine (KN.out _).mono ?_; rintro e wq ⟨rfl, rfl⟩
              go_wp2_with fail
              go_ret
              exact ⟨by simp [*], HB2.out⟩
            · have hc' : (c == 0) = false := by simpa using hc
              clear hc
              refine (KN.out _).mono ?_; rintro e wq ⟨rfl, rfl⟩
              go_wp2_with fail
              go_ret
              exact ⟨by simp [*], HB2.out⟩
          · skip
            refine (KN.out _).mono ?_; rintro e wq ⟨rfl, rfl⟩
            go_wp2_with fail
            go_ret
            exact ⟨by simp [*], HB2.out⟩
    · skip
      cases kb
      · skip
        refine (KN.out _).mono ?_; rintro e wq ⟨rfl, rfl⟩
        go_wp2_with fail
        go_ret
        exact ⟨by simp [*], HB2.out⟩
      · skip
        by_cases ha : a = 0
        · subst ha
          cases v1
          · by_cases hb : b = 0
            · subst hb
              cases v2
              · by_cases hc : c = 0
                · subst hc
                  refine (KN.out _).mono ?_; rintro e wq ⟨rfl, rfl⟩
                  go_wp2_with fail
                  go_ret
                  exact ⟨by simp [*], HB2.out⟩
                · have hc' : (c == 0) = false := by simpa using hc
                  clear hc
                  refine (KN.out _).mono ?_; rintro e wq ⟨rfl, rfl⟩
                  go_wp2_with fail
                  go_ret
                  exact ⟨by simp [*], HB2.out⟩
              · skip
                refine (KN.out _).mono ?_; rintro e wq ⟨rfl, rfl⟩
                go_wp2_with fail
                go_ret
                exact ⟨by simp [*], HB2.out⟩
            · have hb' : (b == 0) = false := by simpa using hb
              clear hb
              refine (KN.out _).mono ?_; rintro e wq ⟨rfl, rfl⟩
              go_wp2_with fail
              go_ret
              exact ⟨by simp [*], HB2.out⟩
          · skip
            cases v2
            · by_cases hc : c = 0
              · subst hc
                refine (KN.out _).mono ?_; rintro e wq ⟨rfl, rfl⟩
                go_wp2_with fail
                go_ret
                exact ⟨by simp [*], HB2.out⟩
              · have hc' : (c == 0) = false := by simpa using hc
                clear hc
                refine (KN.out _).mono ?_; rintro e wq ⟨rfl, rfl⟩
                go_wp2_with fail
                go_ret
                exact ⟨by simp [*], HB2.out⟩
            · skip
              refine (KN.out _).mono ?_; rintro e wq ⟨rfl, rfl⟩
              go_wp2_with fail
              go_ret
              exact ⟨by simp [*], HB2.out⟩
        · have ha' : (a == 0) = false := by simpa using ha
          clear ha
          refine (KN.out _).mono ?_; rintro e wq ⟨rfl, rfl⟩
          go_wp2_with fail
          go_ret
          exact ⟨by simp [*], HB2.out⟩
end Go.Proofs.YtknbllbhakpaaaaGreat
