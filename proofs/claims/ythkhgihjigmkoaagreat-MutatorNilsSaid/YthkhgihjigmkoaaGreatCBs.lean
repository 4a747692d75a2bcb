import Derived.Test.YthkhgihjigmkoaaGreatCBr
import Derived.Test.YthkhgihjigmkoaaGreatCAe
set_option linter.unusedVariables false
set_option linter.unusedSimpArgs false
namespace Go.Proofs.YthkhgihjigmkoaaGreat
open Go.ChangeShapes Go.WideShapes Go.ChangeAt Go.RowKit Go.Maps
theorem mem_any (l : List Int) (x : Int) : decide (x ∈ l) = l.any (fun m => m == x) := by
 induction l with
 | nil => rfl
 | cons y l ih =>
  rw [List.any_cons, ← ih]
  by_cases h : y = x
  ·subst h; simp
  ·have h' : x ≠ y := fun e => h e.symm
   simp [h, h']
set_option maxRecDepth 100000 in
set_option maxHeartbeats 6400000 in
theorem runsOut_any (w : World) (B wb b n : Nat) (V D : Nat → Prop) (c0 c1 c2 tv : Value) (j : Nat) (C : Pl → Option (List Int)) (l : List Int) (p : Prg) (hw : WalkV w B wb b n V c0 c1 c2 (j : Int) C tv l) (hB : B ≤ w.heap.size) (hD : ∀ k, D k → k < w.heap.size) (hv : PrgVal w D p c0 c1 c2) (hp : PrgB p) (hq : PrgR p) (hf : PrgFit p) (hj : j < p.funcs.length) (pc : Nat) (hpc : pc < p.funcs[j].code.length) :
  Calls Tryz.prog 42 #[.pointer (some ⟨wb, 0, none⟩), .agg #[.int .i64 j, .int .i64 pc]] w fun e w' => e = .returned (.bool ((nextK (insAt p.funcs[j] pc) pc).any (fun m => m == (p.funcs[j].code.length : Int)))) ∧ Below w.heap.size w w' := by
 have hfit := hf.fn _ (List.getElem_mem hj)
 have hpc64 : pc < 64 := by have := hfit.code2; omega
 have hj16 : j < 16 := by have := hf.funcs2; omega
 have hI64 : i64B (j : Int) ∧ i64B (pc : Int) := ⟨⟨by omega, by omega⟩, ⟨by omega, by omega⟩⟩
 have hb1 := (Below.refl w.heap.size w).alloc (Nat.le_refl _) (.cells #[.int .i64 j, .int .i64 pc] 32)
 have hly := heap_new w (.cells #[.int .i64 j, .int .i64 pc] 32)
 have hP : ∀ wr, Below w.heap.size w wr → PrgVal wr D p c0 c1 c2 := fun wr hb => hv.fr (Fr.of_below hb (fun _ => False)) (fun _ _ h => h)
 obtain ⟨y, hy⟩ : ∃ y, y = w.heap.size := ⟨_, rfl⟩
 obtain ⟨w1, hw1⟩ : ∃ w1, w1 = w.alloc (.cells #[.int .i64 j, .int .i64 pc] 32) := ⟨_, rfl⟩
 rw [← hw1] at hb1 hly
 rw [← hy] at hly
 have y0 : w1.cell? ⟨y, 0, none⟩ = some (.int .i64 j) := (row_cell hly 0).1
 have y1 : w1.cell? ⟨y, 1, none⟩ = some (.int .i64 pc) := (row_cell hly 1).1
 have hDs : ∀ W', Below w.heap.size w W' → ∀ k, D k → k < W'.heap.size := fun W' h k hk => by have := hD k hk; have := h.size; omega
 have hi : p.funcs[j].code[pc]? = some p.funcs[j].code[pc] := List.getElem?_eq_getElem hpc
 have hia : insAt p.funcs[j] pc = p.funcs[j].code[pc] := by unfold insAt; rw [hi]; rfl
 have hnx : nextA p (j : Int) (pc : Int) = nextK p.funcs[j].code[pc] pc := by unfold nextA; rw [iAt_at hj hi]
 rw [hia, ← mem_any]
 have nx := fun W' (h : Below w.heap.size w W') => next_any W' D (hDs W' h) p c0 c1 c2 (hP W' h) hp hq (j : Int) (pc : Int) hI64.1 hI64.2
 rw [hnx] at nx
 have hnl := nextK_len p.funcs[j].code[pc] pc
 generalize nextK p.funcs[j].code[pc] pc = NL at *
 obtain ⟨r0, r1, r2, r3, r4, r5, r6⟩ := (hw.below hb1).cells rfl
 have hv1 := hP w1 hb1
 obtain ⟨⟨a0, m0, rfl, _⟩, ⟨a1, m1, rfl, _⟩, a2, m2, rfl, hfs⟩ := hv1
 obtain ⟨bb, o, rfl, _, x0, x1, x2, x3, x4, g0, g1, g2, g3, g4, hfv⟩ := hfs j hj
 obtain ⟨_, _, _, _, e4, e5, rfl, _⟩ := hfv
 have hj1 : (j : Int) < p.funcs.length := by omega
 have HS := Lib.hid (show ∀ w', Below w1.heap.size w1 w' → w'.cell? ⟨wb, 0, none⟩ = some (.slice a0 p.globals.length m0) ∧ w'.cell? ⟨wb, 1, none⟩ = some (.slice a1 p.shapes.length m1) ∧ w'.cell? ⟨wb, 2, none⟩ = some (.slice (some ⟨bb, o, none⟩) p.funcs.length m2) ∧ w'.cell? ⟨wb, 3, none⟩ = some (.int .i64 j) ∧ w'.cell? ⟨y, 0, none⟩ = some (.int .i64 j) ∧ w'.cell? ⟨y, 1, none⟩ = some (.int .i64 pc) ∧ w'.cell? ⟨bb, o + j * 5 + 4, none⟩ = some (.slice e4 p.funcs[j].code.length e5) from fun w' h => ⟨below_cell h r0, below_cell h r1, below_cell h r2, below_cell h r3, below_cell h y0, below_cell h y1, below_cell h g4⟩)
 have HR0 := Lib.hid (hb1.drew)
 have HR1 := Lib.hid (Below.refl w1.heap.size w1).drew
 have HY := Lib.hid hy
 have HW1 := Lib.hid hw1
 have HNL := Lib.hid hnl
 have NX := Lib.hid nx
 unfold NextPost at NX
 clear hy hw1 nx hnl hw hB hD hv hp hq hf hpc hfit hP hfs hDs hnx hia hi g0 g1 g2 g3 g4 r0 r1 r2 r3 r4 r5 r6 y0 y1 hly hb1
 obtain ⟨N, hN⟩ : ∃ N, N = p.funcs[j].code.length := ⟨_, rfl⟩
 rw [← hN] at HS ⊢
 clear hN
 go_enter Tryz.func42, Tryz.ntmps42
 go_upto_region 1 with fail
 rw [← HY.out, ← HW1.out]
 have hSd := HS.out w1.drew HR1.out
 go_region_held3 (fun w' => w'.cell? ⟨wb, 0, none⟩ = some (.slice a0 p.globals.length m0) ∧ w'.cell? ⟨wb, 1, none⟩ = some (.slice a1 p.shapes.length m1) ∧ w'.cell? ⟨wb, 2, none⟩ = some (.slice (some ⟨bb, o, none⟩) p.funcs.length m2) ∧ w'.cell? ⟨wb, 3, none⟩ = some (.int .i64 j) ∧ w'.cell? ⟨y, 0, none⟩ = some (.int .i64 j) ∧ w'.cell? ⟨y, 1, none⟩ = some (.int .i64 pc) ∧ w'.cell? ⟨bb, o + j * 5 + 4, none⟩ = some (.slice e4 N e5)) (first | with_reducible exact hSd | with_reducible exact hS7 | go_keep) (first
  | (go_at_call 76
     refine (NX.out _ HR0.out).mono ?_
     rintro e w9 ⟨v9, rfl, ho9, hb9⟩
     obtain ⟨na, nc, rfl, hns⟩ := own_int ho9
     have hS7 := HS.out w9 (HR1.out.trans (hb9.mono HR1.out.size))
     have HNS := Lib.hid hns
     have HB9 := Lib.hid (HR0.out.trans (hb9.mono HR0.out.size))
     clear ho9 hb9 hns)
  | (go_at_call 77
     refine (contains_any _ _ na NL nc (N : Int) HNS.out (by have := HNL.out; omega)).mono ?_
     rintro e w10 ⟨rfl, rfl⟩))
 all_goals
  go_wp2_with fail
  go_ret
  exact ⟨rfl, HB9.out⟩
set_option maxRecDepth 100000 in
set_option maxHeartbeats 6400000 in
theorem wrong_any (w : World) (B wb b n : Nat) (V D : Nat → Prop) (c0 c1 c2 tv : Value) (j : Nat) (C : Pl → Option (List Int)) (l : List Int) (p : Prg) (hw : WalkV w B wb b n V c0 c1 c2 (j : Int) C tv l) (hB : B ≤ w.heap.size) (hD : ∀ k, D k → k < w.heap.size) (hv : PrgVal w D p c0 c1 c2) (hp : PrgB p) (hq : PrgR p) (hf : PrgFit p) (hj : j < p.funcs.length) (pc : Nat) (hpc : pc < p.funcs[j].code.length)
  (K : List Int) (hC : ∀ h, C ⟨((j : Int), (pc : Int)), h⟩ = some K) (hK : K.length = p.funcs[j].slots.toNat) :
  Calls Tryz.prog 43 #[.pointer (some ⟨wb, 0, none⟩), .agg #[.int .i64 j, .int .i64 pc]] w fun e w' => e = .returned (.bool (!readsK p p.funcs[j].result (insAt p.funcs[j] pc) K)) ∧ Below w.heap.size w w' := by
 have hfit := hf.fn _ (List.getElem_mem hj)
 have hpc64 : pc < 64 := by have := hfit.code2; omega
 have hj16 : j < 16 := by have := hf.funcs2; omega
 have hI64 : i64B (j : Int) ∧ i64B (pc : Int) := ⟨⟨by omega, by omega⟩, ⟨by omega, by omega⟩⟩
 have hb1 := (Below.refl w.heap.size w).alloc (Nat.le_refl _) (.cells #[.int .i64 j, .int .i64 pc] 32)
 have hly := heap_new w (.cells #[.int .i64 j, .int .i64 pc] 32)
 have hP : ∀ wr, Below w.heap.size w wr → PrgVal wr D p c0 c1 c2 := fun wr hb => hv.fr (Fr.of_below hb (fun _ => False)) (fun _ _ h => h)
 obtain ⟨y, hy⟩ : ∃ y, y = w.heap.size := ⟨_, rfl⟩
 obtain ⟨w1, hw1⟩ : ∃ w1, w1 = w.alloc (.cells #[.int .i64 j, .int .i64 pc] 32) := ⟨_, rfl⟩
 rw [← hw1] at hb1 hly
 rw [← hy] at hly
 have y0 : w1.cell? ⟨y, 0, none⟩ = some (.int .i64 j) := (row_cell hly 0).1
 have y1 : w1.cell? ⟨y, 1, none⟩ = some (.int .i64 pc) := (row_cell hly 1).1
 have hDs : ∀ W', Below w.heap.size w W' → ∀ k, D k → k < W'.heap.size := fun W' h k hk => by have := hD k hk; have := h.size; omega
 have hi : p.funcs[j].code[pc]? = some p.funcs[j].code[pc] := List.getElem?_eq_getElem hpc
 have hia : insAt p.funcs[j] pc = p.funcs[j].code[pc] := by unfold insAt; rw [hi]; rfl
 have hfa : fnAt p ((j : Int)).toNat = p.funcs[j] := by unfold fnAt; simp [hj]
 have hst : (stepA p (j : Int) (pc : Int) K).1 = if readsK p p.funcs[j].result p.funcs[j].code[pc] K = true then 0 else 3 := by
  unfold stepA
  rw [iAt_at hj hi, hfa]
  dsimp only
  rw [if_neg (by have := hfit.args; omega)]
  split <;> rfl
 obtain ⟨ka, kc, hks, hlk⟩ := (hw.below hb1).map.some_runs _ K (hC hI64)
 have hlk : ∀ W', Below w1.heap.size w1 W' → (Instr.lookup 79 (.map (some b)) (.agg #[.int .i64 j, .int .i64 pc]) false).run Tryz.prog W' = .ok (.slice ka K.length kc) W' := fun W' h => (hlk W' h).2
 have sp := fun W' (h : Below w1.heap.size w1 W') => step_any W' (fun k => k < w1.heap.size) (fun k hk => Nat.lt_of_lt_of_le hk h.size) p c0 c1 c2 ((hP W' (hb1.trans (h.mono hb1.size))).wide (hDs w1 hb1)) hp hq hf (j : Int) (pc : Int) hI64.1 hI64.2 ka K kc ((hks.fr (Fr.of_below h (fun _ => False)) (fun _ _ h => h)).wide (fun k hk => ((hw.below hb1).vlo k hk).2.1)) (by have := hfit.slots; omega)
 unfold StepPost at sp
 rw [hst] at sp
 rw [hia]
 generalize readsK p p.funcs[j].result p.funcs[j].code[pc] K = R at *
 generalize (stepA p (j : Int) (pc : Int) K).2 = L2 at *
 obtain ⟨E, hE⟩ : ∃ E : Int, E = if R = true then 0 else 3 := ⟨_, rfl⟩
 rw [← hE] at sp
 have hres : (E != 0) = !R := by rw [hE]; cases R <;> rfl
 obtain ⟨r0, r1, r2, r3, r4, r5, r6⟩ := (hw.below hb1).cells rfl
 have hv1 := hP w1 hb1
 obtain ⟨⟨a0, m0, rfl, _⟩, ⟨a1, m1, rfl, _⟩, a2, m2, rfl, _⟩ := hv1
 have HS := Lib.hid (show ∀ w', Below w1.heap.size w1 w' → w'.cell? ⟨wb, 0, none⟩ = some (.slice a0 p.globals.length m0) ∧ w'.cell? ⟨wb, 1, none⟩ = some (.slice a1 p.shapes.length m1) ∧ w'.cell? ⟨wb, 2, none⟩ = some (.slice a2 p.funcs.length m2) ∧ w'.cell? ⟨wb, 4, none⟩ = some (.map (some b)) ∧ w'.cell? ⟨y, 0, none⟩ = some (.int .i64 j) ∧ w'.cell? ⟨y, 1, none⟩ = some (.int .i64 pc) ∧ (Instr.lookup 79 (.map (some b)) (.agg #[.int .i64 j, .int .i64 pc]) false).run Tryz.prog w' = .ok (.slice ka K.length kc) w' from fun w' h => ⟨below_cell h r0, below_cell h r1, below_cell h r2, below_cell h r4, below_cell h y0, below_cell h y1, hlk w' h⟩)
 have HR0 := Lib.hid (hb1.drew)
 have HR1 := Lib.hid (Below.refl w1.heap.size w1).drew
 have HY := Lib.hid hy
 have HW1 := Lib.hid hw1
 have SP := Lib.hid sp
 have HRES := Lib.hid hres
 clear hy hw1 sp hw hB hD hv hp hq hf hpc hfit hP hDs hia hi r0 r1 r2 r3 r4 r5 r6 y0 y1 hly hb1 hst hfa hC hK hks hlk hE hres
 clear hj
 go_enter Tryz.func43, Tryz.ntmps43
 go_upto_region 1 with fail
 rw [← HY.out, ← HW1.out]
 have hSd := HS.out w1.drew HR1.out
 go_cut [6] (fun s wx => s = .int .i64 E ∧ Below w.heap.size w wx)
 case first =>
  go_region_held3 (fun w' => w'.cell? ⟨wb, 0, none⟩ = some (.slice a0 p.globals.length m0) ∧ w'.cell? ⟨wb, 1, none⟩ = some (.slice a1 p.shapes.length m1) ∧ w'.cell? ⟨wb, 2, none⟩ = some (.slice a2 p.funcs.length m2) ∧ w'.cell? ⟨wb, 4, none⟩ = some (.map (some b)) ∧ w'.cell? ⟨y, 0, none⟩ = some (.int .i64 j) ∧ w'.cell? ⟨y, 1, none⟩ = some (.int .i64 pc) ∧ (Instr.lookup 79 (.map (some b)) (.agg #[.int .i64 j, .int .i64 pc]) false).run Tryz.prog w' = .ok (.slice ka K.length kc) w') (first | with_reducible exact hSd | with_reducible exact hS7 | go_keep) (first
   | (go_at_call 78
      refine (SP.out _ HR1.out).mono ?_
      rintro e w9 ⟨v9, rfl, _, hb9⟩
      have hS7 := HS.out w9 (HR1.out.trans (hb9.mono HR1.out.size))
      have HB9 := Lib.hid (HR0.out.trans (hb9.mono HR0.out.size))
      clear hb9))
  all_goals
   go_wp2_with fail
   go_meet
   exact ⟨rfl, HB9.out⟩
 case rest =>
  obtain ⟨rfl, hb9⟩ := hcut
  have HB9 := Lib.hid hb9
  clear hb9 hSd
  go_wp2_with fail
  go_ret
  exact ⟨by rw [← HRES.out]; rfl, HB9.out⟩
end Go.Proofs.YthkhgihjigmkoaaGreat
namespace Go.Proofs.YthkhgihjigmkoaaGreat
open Go.ChangeShapes Go.WideShapes Go.ChangeAt Go.RowKit Go.Maps
def LookPost (j : Nat) (r : Option Nat) (w : World) (e : Ending) (w' : World) : Prop :=
 e = .returned (.tuple #[.agg #[.int .i64 (match r with | some _ => (j : Int) | none => 0), .int .i64 (match r with | some q => (q : Int) | none => 0)], .bool r.isSome]) ∧ Below w.heap.size w w'
theorem find_some {A : Nat → Bool} {N k : Nat} (hk : k < N) (h : ∀ q, q < k → A q = false) (hh : A k = true) : (List.range N).find? A = some k := by
 rw [List.find?_range_eq_some]
 exact ⟨hh, List.mem_range.2 hk, fun q hq => by simp [h q hq]⟩
theorem find_none {A : Nat → Bool} {N : Nat} (h : ∀ q, q < N → A q = false) : (List.range N).find? A = none := by
 rw [List.find?_eq_none]
 intro x hx
 simp [h x (List.mem_range.1 hx)]
theorem lookPost_some {j k : Nat} {r : Option Nat} (hr : r = some k) {w w' : World} (hb : Below w.heap.size w w') : LookPost j r w (.returned (.tuple #[.agg #[.int .i64 j, .int .i64 k], .bool true])) w' := by
 subst hr
 exact ⟨rfl, hb⟩
theorem lookPost_none {j : Nat} {r : Option Nat} (hr : r = none) {w w' : World} (hb : Below w.heap.size w w') : LookPost j r w (.returned (.tuple #[.agg #[.int .i64 0, .int .i64 0], .bool false])) w' := by
 subst hr
 exact ⟨rfl, hb⟩
set_option maxRecDepth 100000 in
set_option maxHeartbeats 6400000 in
theorem lookrunsOut_any (w : World) (B wb b n : Nat) (V D : Nat → Prop) (c0 c1 c2 tv : Value) (j : Nat) (C : Pl → Option (List Int)) (l : List Int) (p : Prg) (M : Flo) (A : Nat → Bool) (hw : WalkV w B wb b n V c0 c1 c2 (j : Int) C tv l) (hv : PrgVal w D p c0 c1 c2) (hf : PrgFit p) (hj : j < p.funcs.length)
  (hC : ∀ (q : Nat) h, C ⟨((j : Int), (q : Int)), h⟩ = M q) (hA : ∀ q, M q = none → A q = false)
  (qa : ∀ W', Below w.heap.size w W' → ∀ q, q < p.funcs[j].code.length → (M q).isSome = true → Calls Tryz.prog 42 #[.pointer (some ⟨wb, 0, none⟩), .agg #[.int .i64 j, .int .i64 q]] W' fun e w' => e = .returned (.bool (A q)) ∧ Below W'.heap.size W' w') :
  Calls Tryz.prog 41 #[.pointer (some ⟨wb, 0, none⟩), .func (.func 42) #[.pointer (some ⟨wb, 0, none⟩)] #[]] w (LookPost j ((List.range p.funcs[j].code.length).find? A) w) := by
 have hfit := hf.fn _ (List.getElem_mem hj)
 have hN64 := hfit.code2
 have hj16 : j < 16 := by have := hf.funcs2; omega
 obtain ⟨r, hr⟩ : ∃ r, r = (List.range p.funcs[j].code.length).find? A := ⟨_, rfl⟩
 rw [← hr]
 have hb1 := (Below.refl w.heap.size w).alloc (Nat.le_refl _) (.cells #[.int .i64 0, .int .i64 0] 32)
 have hly := heap_new w (.cells #[.int .i64 0, .int .i64 0] 32)
 obtain ⟨y, hy⟩ : ∃ y, y = w.heap.size := ⟨_, rfl⟩
 obtain ⟨w1, hw1⟩ : ∃ w1, w1 = w.alloc (.cells #[.int .i64 0, .int .i64 0] 32) := ⟨_, rfl⟩
 rw [← hw1] at hb1 hly
 rw [← hy] at hly
 obtain ⟨r0, r1, r2, r3, r4, r5, r6⟩ := (hw.below hb1).cells rfl
 have hv1 := hv.fr (Fr.of_below hb1 (fun _ => False)) (fun _ _ h => h)
 obtain ⟨⟨a0, m0, rfl, _⟩, ⟨a1, m1, rfl, _⟩, a2, m2, rfl, hfs⟩ := hv1
 obtain ⟨bb, o, rfl, _, x0, x1, x2, x3, x4, g0, g1, g2, g3, g4, hfv⟩ := hfs j hj
 obtain ⟨_, _, _, _, e4, e5, rfl, _⟩ := hfv
 have hj1 : (j : Int) < p.funcs.length := by omega
 have HWV := Lib.hid (hw.below hb1)
 have QA := Lib.hid (fun W' (h : Below w1.heap.size w1 W') => qa W' (hb1.trans (h.mono hb1.size)))
 have HY := Lib.hid hy
 have HW1 := Lib.hid hw1
 have HLY := Lib.hid hly
 have HB1 := Lib.hid hb1
 have HC := Lib.hid hC
 have HA := Lib.hid hA
 clear hy hw1 hly hb1 hC hA qa hw hv hfit hfs g0 g1 g2 g3 hf
 obtain ⟨N, hN⟩ : ∃ N, N = p.funcs[j].code.length := ⟨_, rfl⟩
 rw [← hN] at hr QA hN64 g4
 have HRE := Lib.hid hr
 clear hr hN
 go_enter Tryz.func41, Tryz.ntmps41
 go_upto_region 1 with fail
 rw [← HY.out, ← HW1.out]
 go_quiet (fail)
 obtain ⟨w2, hw2⟩ : ∃ w2, w2 = w1.drewN nq := ⟨_, rfl⟩
 have hb12 := below_drewN (Below.refl w1.heap.size w1) nq
 rw [← hw2] at hb12 ⊢
 clear hw2 r0 r1 r2 r3 r4 r5 r6 g4
 have HB12 := Lib.hid hb12
 clear hb12
 go_upto_region 2 with fail
 go_loopw [23] (fun i wr => ∃ k : Nat, k ≤ N ∧ i = .int .i64 k ∧ Below w1.heap.size w1 wr ∧ ∀ q, q < k → A q = false) (fun i _ => N - (intOf i).toNat)
 case atStart => exact ⟨0, Nat.zero_le _, rfl, HB12.out, fun q hq => absurd hq (Nat.not_lt_zero _)⟩
 case round =>
  obtain ⟨k, hk, rfl, hbr, hall⟩ := hrel
  by_cases hlt : k < N
  ·have hklt : (k : Int) < (N : Int) := by omega
   have i1 : IntKind.i64.wrap ((k : Int) + 1) = (k : Int) + 1 := IntWalk.i64_in _ (by omega)
   have hWr := HWV.out.below hbr
   obtain ⟨r0, r1, r2, r3, r4, r5, r6⟩ := hWr.cells rfl
   have hI64 : i64B (j : Int) ∧ i64B (k : Int) := ⟨⟨by omega, by omega⟩, ⟨by omega, by omega⟩⟩
   have hb5 := (Below.refl wr.heap.size wr).alloc (Nat.le_refl _) (.cells #[.int .i64 j, .int .i64 k] 32)
   have hl5 := heap_new wr (.cells #[.int .i64 j, .int .i64 k] 32)
   obtain ⟨z, hz⟩ : ∃ z, z = wr.heap.size := ⟨_, rfl⟩
   obtain ⟨w5, hw5⟩ : ∃ w5, w5 = wr.alloc (.cells #[.int .i64 j, .int .i64 k] 32) := ⟨_, rfl⟩
   rw [← hw5] at hb5 hl5
   rw [← hz] at hl5
   have hW5 := hWr.below hb5
   have hB5 := hbr.trans (hb5.mono hbr.size)
   have z0 : w5.cell? ⟨z, 0, none⟩ = some (.int .i64 j) := (row_cell hl5 0).1
   have z1 : w5.cell? ⟨z, 1, none⟩ = some (.int .i64 k) := (row_cell hl5 1).1
   have HZ := Lib.hid hz
   have HW5 := Lib.hid hw5
   have HB5 := Lib.hid hB5
   have HALL := Lib.hid hall
   cases hm : M k with
   | none =>
    have hlk : ∀ m, (Instr.lookup 79 (.map (some b)) (.agg #[.int .i64 j, .int .i64 k]) true).run Tryz.prog (w5.drewN m) = .ok (.tuple #[.slice none 0 0, .bool false]) (w5.drewN m) := fun m => ((hW5.below (below_drewN (Below.refl w5.heap.size w5) m)).map.none_run ⟨((j : Int), (k : Int)), hI64⟩ ((HC.out k hI64).trans hm)).1
    have hak := HA.out k hm
    have hall2 : ∀ q, q < k + 1 → A q = false := fun q hq => by
     by_cases e : q = k
     ·subst e; exact hak
     ·exact HALL.out q (by omega)
    obtain ⟨t0, t1, t2, t3, t4, t5, t6⟩ := hW5.cells rfl
    have hlkd := hlk 1
    clear hz hw5 hl5 hb5 hB5 hall hWr hW5 hbr hm hak hlk
    have HALL2 := Lib.hid hall2
    clear hall2
    go_upto_region 5 with fail
    rw [← HZ.out, ← HW5.out]
    have hlkd : (Instr.lookup 79 (.map (some b)) (.agg #[.int .i64 j, .int .i64 k]) true).run Tryz.prog w5.drew = .ok (.tuple #[.slice none 0 0, .bool false]) w5.drew := hlkd
    clear r0 r1 r2 r3 r4 r5 r6
    go_cut [8, 9] (fun s8 s9 wx => s9 = .bool false ∧ wx = w5.drew)
    case first =>
     go_region_law (fail)
     all_goals
      go_wp2_with fail
      go_meet
      exact ⟨rfl, rfl⟩
    case rest =>
     obtain ⟨rfl, rfl⟩ := hcut
     clear hlkd t0 t1 t2 t3 t4 t5 t6 z0 z1
     go_wp2_with fail
     go_roundw
     case rel => exact ⟨k + 1, hlt, by go_num, HB5.out.drew, HALL2.out⟩
     case measure => simp [intOf]; omega
   | some K =>
    obtain ⟨ka, kc, _, hlks⟩ := hW5.map.some_runs ⟨((j : Int), (k : Int)), hI64⟩ K ((HC.out k hI64).trans hm)
    have hlkd : (Instr.lookup 79 (.map (some b)) (.agg #[.int .i64 j, .int .i64 k]) true).run Tryz.prog w5.drew = .ok (.tuple #[.slice ka K.length kc, .bool true]) w5.drew := (hlks w5.drew (Below.refl w5.heap.size w5).drew).1
    clear hlks
    have qk := QA.out w5.drew HB5.out.drew k hlt (by rw [hm]; rfl)
    obtain ⟨t0, t1, t2, t3, t4, t5, t6⟩ := hW5.cells rfl
    clear hz hw5 hl5 hb5 hB5 hall hWr hW5 hbr hm
    have QK := Lib.hid qk
    clear qk
    go_upto_region 5 with fail
    rw [← HZ.out, ← HW5.out]
    clear r0 r1 r2 r3 r4 r5 r6
    go_cut [8, 9] (fun s8 s9 wx => s9 = .bool true ∧ wx = w5.drew)
    case first =>
     go_region_law (fail)
     all_goals
      go_wp2_with fail
      go_meet
      exact ⟨rfl, rfl⟩
    case rest =>
     obtain ⟨rfl, rfl⟩ := hcut
     replace z0 : w5.drew.cell? ⟨z, 0, none⟩ = some (.int .i64 j) := z0
     replace z1 : w5.drew.cell? ⟨z, 1, none⟩ = some (.int .i64 k) := z1
     clear hlkd t0 t1 t2 t3 t4 t5 t6
     go_wp2_with fail
     refine QK.out.mono ?_
     rintro e w6 ⟨rfl, hb6⟩
     replace z0 := below_cell hb6 z0
     replace z1 := below_cell hb6 z1
     have HB6 := Lib.hid (HB5.out.drew.trans (hb6.mono HB5.out.size))
     clear hb6
     cases hak : A k
     ·have hall2 : ∀ q, q < k + 1 → A q = false := fun q hq => by
       by_cases e : q = k
       ·subst e; exact hak
       ·exact HALL.out q (by omega)
      have HALL2 := Lib.hid hall2
      clear hall2 hak z0 z1
      go_wp2_with fail
      go_roundw
      case rel => exact ⟨k + 1, hlt, by go_num, HB6.out, HALL2.out⟩
      case measure => simp [intOf]; omega
     ·have hrr := HRE.out.trans (find_some hlt HALL.out hak)
      have hl6 := (Fr.of_below HB6.out (fun _ => False)).heap HLY.out (fun h => h)
      have y0 : w6.cell? ⟨y, 0, none⟩ = some (.int .i64 0) := (row_cell hl6 0).1
      have y1 : w6.cell? ⟨y, 1, none⟩ = some (.int .i64 0) := (row_cell hl6 1).1
      have f0 := (row_cell hl6 0).2
      have f1 := (row_cell hl6 1).2
      have hrw := row_set (row_set hl6 0 (.int .i64 (j : Int))) 1 (.int .i64 (k : Int))
      have hfx : Fr (onB y) w6 _ := ((Fr.refl (onB y) w6).setCell (p := ⟨y, 0, none⟩) (fun _ => rfl) (.int .i64 (j : Int))).setCell (p := ⟨y, 1, none⟩) (fun _ => rfl) (.int .i64 (k : Int))
      have hbx := (HB1.out.trans (HB6.out.mono HB1.out.size)).trans (hfx.below (HB1.out.trans (HB6.out.mono HB1.out.size)).size (fun q hq => by unfold onB at hq; have := HY.out; omega))
      have HRR := Lib.hid hrw
      have HPP := Lib.hid (lookPost_some (j := j) hrr hbx)
      clear hrr hl6 hrw hfx hbx hak
      go_wp2_with (with_reducible refine bodyPost_ret ?_ rfl HPP.out; have k0 := (row_cell HRR.out 0).1; have k1 := (row_cell HRR.out 1).1; simp at k0 k1; simp [results, Tryz.results41, go_sem, k0, k1])
  ·have hk' : k = N := by omega
   subst hk'
   have hrr := HRE.out.trans (find_none hall)
   have hl6 := (Fr.of_below hbr (fun _ => False)).heap HLY.out (fun h => h)
   have y0 : wr.cell? ⟨y, 0, none⟩ = some (.int .i64 0) := (row_cell hl6 0).1
   have y1 : wr.cell? ⟨y, 1, none⟩ = some (.int .i64 0) := (row_cell hl6 1).1
   have f0 := (row_cell hl6 0).2
   have f1 := (row_cell hl6 1).2
   have hrw := row_set (row_set hl6 0 (.int .i64 0)) 1 (.int .i64 0)
   have hfx : Fr (onB y) wr _ := ((Fr.refl (onB y) wr).setCell (p := ⟨y, 0, none⟩) (fun _ => rfl) (.int .i64 0)).setCell (p := ⟨y, 1, none⟩) (fun _ => rfl) (.int .i64 0)
   have hbx := (HB1.out.trans (hbr.mono HB1.out.size)).trans (hfx.below (HB1.out.trans (hbr.mono HB1.out.size)).size (fun q hq => by unfold onB at hq; have := HY.out; omega))
   have HRR := Lib.hid hrw
   have HPP := Lib.hid (lookPost_none (j := j) hrr hbx)
   clear hrr hl6 hrw hfx hbx hbr hall
   go_wp2_with (with_reducible refine bodyPost_ret ?_ rfl HPP.out; have k0 := (row_cell HRR.out 0).1; have k1 := (row_cell HRR.out 1).1; simp at k0 k1; simp [results, Tryz.results41, go_sem, k0, k1])
set_option maxRecDepth 100000 in
set_option maxHeartbeats 6400000 in
theorem lookwrong_any (w : World) (B wb b n : Nat) (V D : Nat → Prop) (c0 c1 c2 tv : Value) (j : Nat) (C : Pl → Option (List Int)) (l : List Int) (p : Prg) (M : Flo) (A : Nat → Bool) (hw : WalkV w B wb b n V c0 c1 c2 (j : Int) C tv l) (hv : PrgVal w D p c0 c1 c2) (hf : PrgFit p) (hj : j < p.funcs.length)
  (hC : ∀ (q : Nat) h, C ⟨((j : Int), (q : Int)), h⟩ = M q) (hA : ∀ q, M q = none → A q = false)
  (qa : ∀ W', Below w.heap.size w W' → ∀ q, q < p.funcs[j].code.length → (M q).isSome = true → Calls Tryz.prog 43 #[.pointer (some ⟨wb, 0, none⟩), .agg #[.int .i64 j, .int .i64 q]] W' fun e w' => e = .returned (.bool (A q)) ∧ Below W'.heap.size W' w') :
  Calls Tryz.prog 41 #[.pointer (some ⟨wb, 0, none⟩), .func (.func 43) #[.pointer (some ⟨wb, 0, none⟩)] #[]] w (LookPost j ((List.range p.funcs[j].code.length).find? A) w) := by
 have hfit := hf.fn _ (List.getElem_mem hj)
 have hN64 := hfit.code2
 have hj16 : j < 16 := by have := hf.funcs2; omega
 obtain ⟨r, hr⟩ : ∃ r, r = (List.range p.funcs[j].code.length).find? A := ⟨_, rfl⟩
 rw [← hr]
 have hb1 := (Below.refl w.heap.size w).alloc (Nat.le_refl _) (.cells #[.int .i64 0, .int .i64 0] 32)
 have hly := heap_new w (.cells #[.int .i64 0, .int .i64 0] 32)
 obtain ⟨y, hy⟩ : ∃ y, y = w.heap.size := ⟨_, rfl⟩
 obtain ⟨w1, hw1⟩ : ∃ w1, w1 = w.alloc (.cells #[.int .i64 0, .int .i64 0] 32) := ⟨_, rfl⟩
 rw [← hw1] at hb1 hly
 rw [← hy] at hly
 obtain ⟨r0, r1, r2, r3, r4, r5, r6⟩ := (hw.below hb1).cells rfl
 have hv1 := hv.fr (Fr.of_below hb1 (fun _ => False)) (fun _ _ h => h)
 obtain ⟨⟨a0, m0, rfl, _⟩, ⟨a1, m1, rfl, _⟩, a2, m2, rfl, hfs⟩ := hv1
 obtain ⟨bb, o, rfl, _, x0, x1, x2, x3, x4, g0, g1, g2, g3, g4, hfv⟩ := hfs j hj
 obtain ⟨_, _, _, _, e4, e5, rfl, _⟩ := hfv
 have hj1 : (j : Int) < p.funcs.length := by omega
 have HWV := Lib.hid (hw.below hb1)
 have QA := Lib.hid (fun W' (h : Below w1.heap.size w1 W') => qa W' (hb1.trans (h.mono hb1.size)))
 have HY := Lib.hid hy
 have HW1 := Lib.hid hw1
 have HLY := Lib.hid hly
 have HB1 := Lib.hid hb1
 have HC := Lib.hid hC
 have HA := Lib.hid hA
 clear hy hw1 hly hb1 hC hA qa hw hv hfit hfs g0 g1 g2 g3 hf
 obtain ⟨N, hN⟩ : ∃ N, N = p.funcs[j].code.length := ⟨_, rfl⟩
 rw [← hN] at hr QA hN64 g4
 have HRE := Lib.hid hr
 clear hr hN
 go_enter Tryz.func41, Tryz.ntmps41
 go_upto_region 1 with fail
 rw [← HY.out, ← HW1.out]
 go_quiet (fail)
 obtain ⟨w2, hw2⟩ : ∃ w2, w2 = w1.drewN nq := ⟨_, rfl⟩
 have hb12 := below_drewN (Below.refl w1.heap.size w1) nq
 rw [← hw2] at hb12 ⊢
 clear hw2 r0 r1 r2 r3 r4 r5 r6 g4
 have HB12 := Lib.hid hb12
 clear hb12
 go_upto_region 2 with fail
 go_loopw [23] (fun i wr => ∃ k : Nat, k ≤ N ∧ i = .int .i64 k ∧ Below w1.heap.size w1 wr ∧ ∀ q, q < k → A q = false) (fun i _ => N - (intOf i).toNat)
 case atStart => exact ⟨0, Nat.zero_le _, rfl, HB12.out, fun q hq => absurd hq (Nat.not_lt_zero _)⟩
 case round =>
  obtain ⟨k, hk, rfl, hbr, hall⟩ := hrel
  by_cases hlt : k < N
  ·have hklt : (k : Int) < (N : Int) := by omega
   have i1 : IntKind.i64.wrap ((k : Int) + 1) = (k : Int) + 1 := IntWalk.i64_in _ (by omega)
   have hWr := HWV.out.below hbr
   obtain ⟨r0, r1, r2, r3, r4, r5, r6⟩ := hWr.cells rfl
   have hI64 : i64B (j : Int) ∧ i64B (k : Int) := ⟨⟨by omega, by omega⟩, ⟨by omega, by omega⟩⟩
   have hb5 := (Below.refl wr.heap.size wr).alloc (Nat.le_refl _) (.cells #[.int .i64 j, .int .i64 k] 32)
   have hl5 := heap_new wr (.cells #[.int .i64 j, .int .i64 k] 32)
   obtain ⟨z, hz⟩ : ∃ z, z = wr.heap.size := ⟨_, rfl⟩
   obtain ⟨w5, hw5⟩ : ∃ w5, w5 = wr.alloc (.cells #[.int .i64 j, .int .i64 k] 32) := ⟨_, rfl⟩
   rw [← hw5] at hb5 hl5
   rw [← hz] at hl5
   have hW5 := hWr.below hb5
   have hB5 := hbr.trans (hb5.mono hbr.size)
   have z0 : w5.cell? ⟨z, 0, none⟩ = some (.int .i64 j) := (row_cell hl5 0).1
   have z1 : w5.cell? ⟨z, 1, none⟩ = some (.int .i64 k) := (row_cell hl5 1).1
   have HZ := Lib.hid hz
   have HW5 := Lib.hid hw5
   have HB5 := Lib.hid hB5
   have HALL := Lib.hid hall
   cases hm : M k with
   | none =>
    have hlk : ∀ m, (Instr.lookup 79 (.map (some b)) (.agg #[.int .i64 j, .int .i64 k]) true).run Tryz.prog (w5.drewN m) = .ok (.tuple #[.slice none 0 0, .bool false]) (w5.drewN m) := fun m => ((hW5.below (below_drewN (Below.refl w5.heap.size w5) m)).map.none_run ⟨((j : Int), (k : Int)), hI64⟩ ((HC.out k hI64).trans hm)).1
    have hak := HA.out k hm
    have hall2 : ∀ q, q < k + 1 → A q = false := fun q hq => by
     by_cases e : q = k
     ·subst e; exact hak
     ·exact HALL.out q (by omega)
    obtain ⟨t0, t1, t2, t3, t4, t5, t6⟩ := hW5.cells rfl
    have hlkd := hlk 1
    clear hz hw5 hl5 hb5 hB5 hall hWr hW5 hbr hm hak hlk
    have HALL2 := Lib.hid hall2
    clear hall2
    go_upto_region 5 with fail
    rw [← HZ.out, ← HW5.out]
    have hlkd : (Instr.lookup 79 (.map (some b)) (.agg #[.int .i64 j, .int .i64 k]) true).run Tryz.prog w5.drew = .ok (.tuple #[.slice none 0 0, .bool false]) w5.drew := hlkd
    clear r0 r1 r2 r3 r4 r5 r6
    go_cut [8, 9] (fun s8 s9 wx => s9 = .bool false ∧ wx = w5.drew)
    case first =>
     go_region_law (fail)
     all_goals
      go_wp2_with fail
      go_meet
      exact ⟨rfl, rfl⟩
    case rest =>
     obtain ⟨rfl, rfl⟩ := hcut
     clear hlkd t0 t1 t2 t3 t4 t5 t6 z0 z1
     go_wp2_with fail
     go_roundw
     case rel => exact ⟨k + 1, hlt, by go_num, HB5.out.drew, HALL2.out⟩
     case measure => simp [intOf]; omega
   | some K =>
    obtain ⟨ka, kc, _, hlks⟩ := hW5.map.some_runs ⟨((j : Int), (k : Int)), hI64⟩ K ((HC.out k hI64).trans hm)
    have hlkd : (Instr.lookup 79 (.map (some b)) (.agg #[.int .i64 j, .int .i64 k]) true).run Tryz.prog w5.drew = .ok (.tuple #[.slice ka K.length kc, .bool true]) w5.drew := (hlks w5.drew (Below.refl w5.heap.size w5).drew).1
    clear hlks
    have qk := QA.out w5.drew HB5.out.drew k hlt (by rw [hm]; rfl)
    obtain ⟨t0, t1, t2, t3, t4, t5, t6⟩ := hW5.cells rfl
    clear hz hw5 hl5 hb5 hB5 hall hWr hW5 hbr hm
    have QK := Lib.hid qk
    clear qk
    go_upto_region 5 with fail
    rw [← HZ.out, ← HW5.out]
    clear r0 r1 r2 r3 r4 r5 r6
    go_cut [8, 9] (fun s8 s9 wx => s9 = .bool true ∧ wx = w5.drew)
    case first =>
     go_region_law (fail)
     all_goals
      go_wp2_with fail
      go_meet
      exact ⟨rfl, rfl⟩
    case rest =>
     obtain ⟨rfl, rfl⟩ := hcut
     replace z0 : w5.drew.cell? ⟨z, 0, none⟩ = some (.int .i64 j) := z0
     replace z1 : w5.drew.cell? ⟨z, 1, none⟩ = some (.int .i64 k) := z1
     clear hlkd t0 t1 t2 t3 t4 t5 t6
     go_wp2_with fail
     refine QK.out.mono ?_
     rintro e w6 ⟨rfl, hb6⟩
     replace z0 := below_cell hb6 z0
     replace z1 := below_cell hb6 z1
     have HB6 := Lib.hid (HB5.out.drew.trans (hb6.mono HB5.out.size))
     clear hb6
     cases hak : A k
     ·have hall2 : ∀ q, q < k + 1 → A q = false := fun q hq => by
       by_cases e : q = k
       ·subst e; exact hak
       ·exact HALL.out q (by omega)
      have HALL2 := Lib.hid hall2
      clear hall2 hak z0 z1
      go_wp2_with fail
      go_roundw
      case rel => exact ⟨k + 1, hlt, by go_num, HB6.out, HALL2.out⟩
      case measure => simp [intOf]; omega
     ·have hrr := HRE.out.trans (find_some hlt HALL.out hak)
      have hl6 := (Fr.of_below HB6.out (fun _ => False)).heap HLY.out (fun h => h)
      have y0 : w6.cell? ⟨y, 0, none⟩ = some (.int .i64 0) := (row_cell hl6 0).1
      have y1 : w6.cell? ⟨y, 1, none⟩ = some (.int .i64 0) := (row_cell hl6 1).1
      have f0 := (row_cell hl6 0).2
      have f1 := (row_cell hl6 1).2
      have hrw := row_set (row_set hl6 0 (.int .i64 (j : Int))) 1 (.int .i64 (k : Int))
      have hfx : Fr (onB y) w6 _ := ((Fr.refl (onB y) w6).setCell (p := ⟨y, 0, none⟩) (fun _ => rfl) (.int .i64 (j : Int))).setCell (p := ⟨y, 1, none⟩) (fun _ => rfl) (.int .i64 (k : Int))
      have hbx := (HB1.out.trans (HB6.out.mono HB1.out.size)).trans (hfx.below (HB1.out.trans (HB6.out.mono HB1.out.size)).size (fun q hq => by unfold onB at hq; have := HY.out; omega))
      have HRR := Lib.hid hrw
      have HPP := Lib.hid (lookPost_some (j := j) hrr hbx)
      clear hrr hl6 hrw hfx hbx hak
      go_wp2_with (with_reducible refine bodyPost_ret ?_ rfl HPP.out; have k0 := (row_cell HRR.out 0).1; have k1 := (row_cell HRR.out 1).1; simp at k0 k1; simp [results, Tryz.results41, go_sem, k0, k1])
  ·have hk' : k = N := by omega
   subst hk'
   have hrr := HRE.out.trans (find_none hall)
   have hl6 := (Fr.of_below hbr (fun _ => False)).heap HLY.out (fun h => h)
   have y0 : wr.cell? ⟨y, 0, none⟩ = some (.int .i64 0) := (row_cell hl6 0).1
   have y1 : wr.cell? ⟨y, 1, none⟩ = some (.int .i64 0) := (row_cell hl6 1).1
   have f0 := (row_cell hl6 0).2
   have f1 := (row_cell hl6 1).2
   have hrw := row_set (row_set hl6 0 (.int .i64 0)) 1 (.int .i64 0)
   have hfx : Fr (onB y) wr _ := ((Fr.refl (onB y) wr).setCell (p := ⟨y, 0, none⟩) (fun _ => rfl) (.int .i64 0)).setCell (p := ⟨y, 1, none⟩) (fun _ => rfl) (.int .i64 0)
   have hbx := (HB1.out.trans (hbr.mono HB1.out.size)).trans (hfx.below (HB1.out.trans (hbr.mono HB1.out.size)).size (fun q hq => by unfold onB at hq; have := HY.out; omega))
   have HRR := Lib.hid hrw
   have HPP := Lib.hid (lookPost_none (j := j) hrr hbx)
   clear hrr hl6 hrw hfx hbx hbr hall
   go_wp2_with (with_reducible refine bodyPost_ret ?_ rfl HPP.out; have k0 := (row_cell HRR.out 0).1; have k1 := (row_cell HRR.out 1).1; simp at k0 k1; simp [results, Tryz.results41, go_sem, k0, k1])
end Go.Proofs.YthkhgihjigmkoaaGreat
