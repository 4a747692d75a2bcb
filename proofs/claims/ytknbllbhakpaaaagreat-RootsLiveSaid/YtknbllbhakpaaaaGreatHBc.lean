/- Walks: the questions that are asked of each place. -/
import Derived.Test.YtknbllbhakpaaaaGreatHBb
import Derived.Test.YtknbllbhakpaaaaGreatHAe
set_option linter.unusedVariables false
set_option linter.unusedSimpArgs false
namespace Go.Proofs.YtknbllbhakpaaaaGreat
open Go.ChangeShapes Go.WideShapes Go.ChangeAt Go.RowKit Go.Maps
theorem mem_any (l : List Int) (x : Int) : decide (x ∈ l) = l.any (fun m => m == x) := by
  induction l with
  | nil => rfl
  | cons y l ih =>
    rw [List.any_cons, ← ih]
    by_cases h : y = x
    · subst h; simp
    · have h' : x ≠ y := fun e => h e.symm
      simp [h, h']
set_option maxRecDepth 100000 in
set_option maxHeartbeats 6400000 in
theorem runsOut_any (w : World) (B wb b n : Nat) (V D : Nat → Prop) (c0 c1 c2 tv : Value) (j : Nat) (C : Pl → Option (List Int)) (l : List Int) (p : Prg) (hw : WalkV w B wb b n V c0 c1 c2 (j : Int) C tv l) (hB : B ≤ w.heap.size) (hD : ∀ k, D k → k < w.heap.size) (hv : PrgVal w D p c0 c1 c2) (hp : PrgB p) (hq : PrgR p) (hf : PrgFit p) (hj : j < p.funcs.length) (pc : Nat) (hpc : pc < p.funcs[j].code.length) :
    Calls Tryz.prog 32 #[.pointer (some ⟨wb, 0, none⟩), .agg #[.int .i64 j, .int .i64 pc]] w fun e w' => e = .returned (.bool ((nextK (insAt p.funcs[j] pc) pc).any (fun m => m == (p.funcs[j].code.length : Int)))) ∧ Below w.heap.size w w' := by
  have hfit := hf.fn _ (List.getElem_mem hj)
  have hpc64 : pc < 64 := by have := hfit.code2; omega
  have hj16 : j < 16 := by have := hf.funcs2; omega
  have hI64 : i64B (j : Int) ∧ i64B (pc : Int) := ⟨⟨by omega, by omega⟩, ⟨by omega, by omega⟩⟩
  have hb1 := (Below.refl w.heap.size w).alloc (Nat.le_refl _) (.cells #[.int .i64 j, .int .i64 pc] 50)
  have hly := heap_new w (.cells #[.int .i64 j, .int .i64 pc] 50)
  have hP : ∀ wr, Below w.heap.size w wr → PrgVal wr D p c0 c1 c2 := fun wr hb => hv.fr (Fr.of_below hb (fun _ => False)) (fun _ _ h => h)
  obtain ⟨y, hy⟩ : ∃ y, y = w.heap.size := ⟨_, rfl⟩
  obtain ⟨w1, hw1⟩ : ∃ w1, w1 = w.alloc (.cells #[.int .i64 j, .int .i64 pc] 50) := ⟨_, rfl⟩
  rw [← hw1] at hb1 hly
  rw [← hy] at hly
  have y0 : w1.cell? ⟨y, 0, none⟩ = some (.int .i64 j) := (row_cell hly 0).1
  have y1 : w1.cell? ⟨y, 1, none⟩ = some (.int .i64 pc) := (row_cell hly 1).1
  have hDs : ∀ W', Below w.heap.size w W' → ∀ k, D k → k < W'.heap.size := fun W' h k hk => by have := hD k hk; have := h.size; omega
  have hi : p.funcs[j].code[pc]? = some p.funcs[j].code[pc] := List.getElem?_eq_getElem hpc
  have hia : insAt p.funcs[j] pc = p.funcs[j].code[pc] := by unfold insAt; rw [hi]; rfl
  have hnx : nextA p (j : Int) (pc : Int) = nextK p.funcs[j].code[pc] pc := by unfold nextA; rw [iAt_at hj hi]
  rw [hia, ← mem_any]
  have nx := fun W' (h : Below w.heap.size w W') => next_any W' D (hDs W' h) p c0 c1 c2 (hP W' h) hp hq (j : Int) (pc : Int) hI64.1 hI64.2
  rw [hnx] at nx
  have hnl := nextK_len p.funcs[j].code[pc] pc
  generalize nextK p.funcs[j].code[pc] pc = NL at *
  obtain ⟨r0, r1, r2, r3, r4, r5, r6⟩ := (hw.below hb1).cells rfl
  have hv1 := hP w1 hb1
  obtain ⟨⟨a0, m0, rfl, _⟩, ⟨a1, m1, rfl, _⟩, a2, m2, rfl, hfs⟩ := hv1
  obtain ⟨bb, o, rfl, _, x0, x1, x2, x3, x4, g0, g1, g2, g3, g4, hfv⟩ := hfs j hj
  obtain ⟨_, _, _, _, e4, e5, rfl, _⟩ := hfv
  have hj1 : (j : Int) < p.funcs.length := by omega
  have HS := Lib.hid (show ∀ w', Below w1.heap.size w1 w' → w'.cell? ⟨wb, 0, none⟩ = some (.slice a0 p.globals.length m0) ∧ w'.cell? ⟨wb, 1, none⟩ = some (.slice a1 p.shapes.length m1) ∧ w'.cell? ⟨wb, 2, none⟩ = some (.slice (some ⟨bb, o, none⟩) p.funcs.length m2) ∧ w'.cell? ⟨wb, 3, none⟩ = some (.int .i64 j) ∧ w'.cell? ⟨y, 0, none⟩ = some (.int .i64 j) ∧ w'.cell? ⟨y, 1, none⟩ = some (.int .i64 pc) ∧ w'.cell? ⟨bb, o + j * 5 + 4, none⟩ = some (.slice e4 p.funcs[j].code.length e5) from fun w' h => ⟨below_cell h r0, below_cell h r1, below_cell h r2, below_cell h r3, below_cell h y0, below_cell h y1, below_cell h g4⟩)
  have HR0 := Lib.hid (hb1.drew)
  have HR1 := Lib.hid (Below.refl w1.heap.size w1).drew
  have HY := Lib.hid hy
  have HW1 := Lib.hid hw1
  have HNL := Lib.hid hnl
  have NX := Lib.hid nx
  unfold NextPost at NX
  clear hy hw1 nx hnl hw hB hD hv hp hq hf hpc hfit hP hfs hDs hnx hia hi g0 g1 g2 g3 g4 r0 r1 r2 r3 r4 r5 r6 y0 y1 hly hb1
  obtain ⟨N, hN⟩ : ∃ N, N = p.funcs[j].code.length := ⟨_, rfl⟩
  rw [← hN] at HS ⊢
  clear hN
  go_enter Tryz.func32, Tryz.ntmps32
  go_upto_region 1 with fail
  rw [← HY.out, ← HW1.out]
  have hSd := HS.out w1.drew HR1.out
  go_region_held3 (fun w' => w'.cell? ⟨wb, 0, none⟩ = some (.slice a0 p.globals.length m0) ∧ w'.cell? ⟨wb, 1, none⟩ = some (.slice a1 p.shapes.length m1) ∧ w'.cell? ⟨wb, 2, none⟩ = some (.slice (some ⟨bb, o, none⟩) p.funcs.length m2) ∧ w'.cell? ⟨wb, 3, none⟩ = some (.int .i64 j) ∧ w'.cell? ⟨y, 0, none⟩ = some (.int .i64 j) ∧ w'.cell? ⟨y, 1, none⟩ = some (.int .i64 pc) ∧ w'.cell? ⟨bb, o + j * 5 + 4, none⟩ = some (.slice e4 N e5)) (first | with_reducible exact hSd | with_reducible exact hS7 | go_keep) (first
    | (go_at_call 78
       refine (NX.out _ HR0.out).mono ?_
       rintro e w9 ⟨v9, rfl, ho9, hb9⟩
       obtain ⟨na, nc, rfl, hns⟩ := own_int ho9
       have hS7 := HS.out w9 (HR1.out.trans (hb9.mono HR1.out.size))
       have HNS := Lib.hid hns
       have HB9 := Lib.hid (HR0.out.trans (hb9.mono HR0.out.size))
       clear ho9 hb9 hns)
    | (go_at_call 79
       refine (contains_any _ _ na NL nc (N : Int) HNS.out (by have := HNL.out; omega)).mono ?_
       rintro e w10 ⟨rfl, rfl⟩))
  all_goals
    go_wp2_with fail
    go_ret
    exact ⟨rfl, HB9.out⟩
set_option maxRecDepth 100000 in
set_option maxHeartbeats 6400000 in
theorem wrong_any (w : World) (B wb b n : Nat) (V D : Nat → Prop) (c0 c1 c2 tv : Value) (j : Nat) (C : Pl → Option (List Int)) (l : List Int) (p : Prg) (hw : WalkV w B wb b n V c0 c1 c2 (j : Int) C tv l) (hB : B ≤ w.heap.size) (hD : ∀ k, D k → k < w.heap.size) (hv : PrgVal w D p c0 c1 c2) (hp : PrgB p) (hq : PrgR p) (hf : PrgFit p) (hj : j < p.funcs.length) (pc : Nat) (hpc : pc < p.funcs[j].code.length)
    (K : List Int) (hC : ∀ h, C ⟨((j : Int), (pc : Int)), h⟩ = some K) (hK : K.length = p.funcs[j].slots.toNat) :
    Calls Tryz.prog 33 #[.pointer (some ⟨wb, 0, none⟩), .agg #[.int .i64 j, .int .i64 pc]] w fun e w' => e = .returned (.bool (!readsK p p.funcs[j].result (insAt p.funcs[j] pc) K)) ∧ Below w.heap.size w w' := by
  have hfit := hf.fn _ (List.getElem_mem hj)
  have hpc64 : pc < 64 := by have := hfit.code2; omega
  have hj16 : j < 16 := by have := hf.funcs2; omega
  have hI64 : i64B (j : Int) ∧ i64B (pc : Int) := ⟨⟨by omega, by omega⟩, ⟨by omega, by omega⟩⟩
  have hb1 := (Below.refl w.heap.size w).alloc (Nat.le_refl _) (.cells #[.int .i64 j, .int .i64 pc] 50)
  have hly := heap_new w (.cells #[.int .i64 j, .int .i64 pc] 50)
  have hP : ∀ wr, Below w.heap.size w wr → PrgVal wr D p c0 c1 c2 := fun wr hb => hv.fr (Fr.of_below hb (fun _ => False)) (fun _ _ h => h)
  obtain ⟨y, hy⟩ : ∃ y, y = w.heap.size := ⟨_, rfl⟩
  obtain ⟨w1, hw1⟩ : ∃ w1, w1 = w.alloc (.cells #[.int .i64 j, .int .i64 pc] 50) := ⟨_, rfl⟩
  rw [← hw1] at hb1 hly
  rw [← hy] at hly
  have y0 : w1.cell? ⟨y, 0, none⟩ = some (.int .i64 j) := (row_cell hly 0).1
  have y1 : w1.cell? ⟨y, 1, none⟩ = some (.int .i64 pc) := (row_cell hly 1).1
  have hDs : ∀ W', Below w.heap.size w W' → ∀ k, D k → k < W'.heap.size := fun W' h k hk => by have := hD k hk; have := h.size; omega
  have hi : p.funcs[j].code[pc]? = some p.funcs[j].code[pc] := List.getElem?_eq_getElem hpc
  have hia : insAt p.funcs[j] pc = p.funcs[j].code[pc] := by unfold insAt; rw [hi]; rfl
  have hfa : fnAt p ((j : Int)).toNat = p.funcs[j] := by unfold fnAt; simp [hj]
  have hst : (stepA p (j : Int) (pc : Int) K).1 = if readsK p p.funcs[j].result p.funcs[j].code[pc] K = true then 0 else 3 := by
    unfold stepA
    rw [iAt_at hj hi, hfa]
    dsimp only
    rw [if_neg (by have := hfit.args; omega)]
    split <;> rfl
  obtain ⟨ka, kc, hks, hlk⟩ := (hw.below hb1).map.some_runs _ K (hC hI64)
  have hlk : ∀ W', Below w1.heap.size w1 W' → (Instr.lookup 90 (.map (some b)) (.agg #[.int .i64 j, .int .i64 pc]) false).run Tryz.prog W' = .ok (.slice ka K.length kc) W' := fun W' h => (hlk W' h).2
  have sp := fun W' (h : Below w1.heap.size w1 W') => step_any W' (fun k => k < w1.heap.size) (fun k hk => Nat.lt_of_lt_of_le hk h.size) p c0 c1 c2 ((hP W' (hb1.trans (h.mono hb1.size))).wide (hDs w1 hb1)) hp hq hf (j : Int) (pc : Int) hI64.1 hI64.2 ka K kc ((hks.fr (Fr.of_below h (fun _ => False)) (fun _ _ h => h)).wide (fun k hk => ((hw.below hb1).vlo k hk).2.1)) (by have := hfit.slots; omega)
  unfold StepPost at sp
  rw [hst] at sp
  rw [hia]
  generalize readsK p p.funcs[j].result p.funcs[j].code[pc] K = R at *
  generalize (stepA p (j : Int) (pc : Int) K).2 = L2 at *
  obtain ⟨E, hE⟩ : ∃ E : Int, E = if R = true then 0 else 3 := ⟨_, rfl⟩
  rw [← hE] at sp
  have hres : (E != 0) = !R := by rw [hE]; cases R <;> rfl
  obtain ⟨r0, r1, r2, r3, r4, r5, r6⟩ := (hw.below hb1).cells rfl
  have hv1 := hP w1 hb1
  obtain ⟨⟨a0, m0, rfl, _⟩, ⟨a1, m1, rfl, _⟩, a2, m2, rfl, _⟩ := hv1
  have HS := Lib.hid (show ∀ w', Below w1.heap.size w1 w' → w'.cell? ⟨wb, 0, none⟩ = some (.slice a0 p.globals.length m0) ∧ w'.cell? ⟨wb, 1, none⟩ = some (.slice a1 p.shapes.length m1) ∧ w'.cell? ⟨wb, 2, none⟩ = some (.slice a2 p.funcs.length m2) ∧ w'.cell? ⟨wb, 4, none⟩ = some (.map (some b)) ∧ w'.cell? ⟨y, 0, none⟩ = some (.int .i64 j) ∧ w'.cell? ⟨y, 1, none⟩ = some (.int .i64 pc) ∧ (Instr.lookup 90 (.map (some b)) (.agg #[.int .i64 j, .int .i64 pc]) false).run Tryz.prog w' = .ok (.slice ka K.length kc) w' from fun w' h => ⟨below_cell h r0, below_cell h r1, below_cell h r2, below_cell h r4, below_cell h y0, below_cell h y1, hlk w' h⟩)
  have HR0 := Lib.hid (hb1.drew)
  have HR1 := Lib.hid (Below.refl w1.heap.size w1).drew
  have HY := Lib.hid hy
  have HW1 := Lib.hid hw1
  have SP := Lib.hid sp
  have HRES := Lib.hid hres
  clear hy hw1 sp hw hB hD hv hp hq hf hpc hfit hP hDs hia hi r0 r1 r2 r3 r4 r5 r6 y0 y1 hly hb1 hst hfa hC hK hks hlk hE hres
  clear hj
  go_enter Tryz.func33, Tryz.ntmps33
  go_upto_region 1 with fail
  rw [← HY.out, ← HW1.out]
  have hSd := HS.out w1.drew HR1.out
  go_cut [6] (fun s wx => s = .int .i64 E ∧ Below w.heap.size w wx)
  case first =>
    go_region_held3 (fun w' => w'.cell? ⟨wb, 0, none⟩ = some (.slice a0 p.globals.length m0) ∧ w'.cell? ⟨wb, 1, none⟩ = some (.slice a1 p.shapes.length m1) ∧ w'.cell? ⟨wb, 2, none⟩ = some (.slice a2 p.funcs.length m2) ∧ w'.cell? ⟨wb, 4, none⟩ = some (.map (some b)) ∧ w'.cell? ⟨y, 0, none⟩ = some (.int .i64 j) ∧ w'.cell? ⟨y, 1, none⟩ = some (.int .i64 pc) ∧ (Instr.lookup 90 (.map (some b)) (.agg #[.int .i64 j, .int .i64 pc]) false).run Tryz.prog w' = .ok (.slice ka K.length kc) w') (first | with_reducible exact hSd | with_reducible exact hS7 | go_keep) (first
      | (go_at_call 80
         refine (SP.out _ HR1.out).mono ?_
         rintro e w9 ⟨v9, rfl, _, hb9⟩
         have hS7 := HS.out w9 (HR1.out.trans (hb9.mono HR1.out.size))
         have HB9 := Lib.hid (HR0.out.trans (hb9.mono HR0.out.size))
         clear hb9))
    all_goals
      go_wp2_with fail
      go_meet
      exact ⟨rfl, HB9.out⟩
  case rest =>
    obtain ⟨rfl, hb9⟩ := hcut
    have HB9 := Lib.hid hb9
    clear hb9 hSd
    go_wp2_with fail
    go_ret
    exact ⟨by rw [← HRES.out]; rfl, HB9.out⟩
end Go.Proofs.YtknbllbhakpaaaaGreat
