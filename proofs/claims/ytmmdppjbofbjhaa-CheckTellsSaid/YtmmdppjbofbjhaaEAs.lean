/- Walk: check.Program. Walk: the first call of chapter 11's statements. A law's end: it answered true, and below the heap's old size nothing has turned: then each argument reads as it did. Nothing of the program stands here. -/
import Derived.Test.YtmmdppjbofbjhaaEAr
import Derived.Deep.RegionHeld3
import Derived.Test.YtmmdppjbofbjhaaEAi
import Derived.Test.YtmmdppjbofbjhaaEAa
import Derived.ProofKit
namespace Go.Proofs.Ytmmdppjbofbjhaa
open Go.ChangeShapes Go.WideShapes Go.ChangeAt Go.RowKit Go.Maps

def ProgPost (p : Prg) (w : World) (e : Ending) (w' : World) : Prop :=
  e = .returned (.tuple #[.int .i64 (progS p).1, .agg #[.int .i64 (progS p).2.1, .int .i64 (progS p).2.2]]) ∧ Below w.heap.size w w'
theorem progPost_of {p : Prg} {E a b : Int} {x y : Nat} {w w' : World} (h : progS p = (E, x, y)) (hx : a = x) (hy : b = y) (hb : Below w.heap.size w w') : ProgPost p w (.returned (.tuple #[.int .i64 E, .agg #[.int .i64 a, .int .i64 b]])) w' := by
  unfold ProgPost
  rw [h, hx, hy]
  exact ⟨rfl, hb⟩
theorem progS_whole {p : Prg} (h : wholeS p ≠ 0) : progS p = (wholeS p, 0, 0) := by unfold progS; rw [if_pos h]
theorem progS_hit {p : Prg} (h : wholeS p = 0) (k : Nat) (hk : k < p.funcs.length) (hp : ∀ q : Nat, q < k → (funcS p (q : Int)).1 = 0) (hne : (funcS p k).1 ≠ 0) : progS p = ((funcS p k).1, k, (funcS p k).2) := by
  unfold progS
  rw [if_neg (by simpa using h), firstAt_hit (f := fun i : Nat => (funcS p i).1) (k := k) hk hp hne]
  simp only
  rw [if_neg hne]
theorem progS_ok {p : Prg} (h : wholeS p = 0) (hp : ∀ q : Nat, q < p.funcs.length → (funcS p (q : Int)).1 = 0) : progS p = (0, 0, 0) := by
  unfold progS
  rw [if_neg (by simpa using h), firstAt_none (f := fun i : Nat => (funcS p i).1) hp]
  rfl
set_option maxRecDepth 100000 in
set_option maxHeartbeats 3200000 in
theorem progC_any (w : World) (D : Nat → Prop) (hD : ∀ k, D k → k < w.heap.size) (p : Prg) (c0 c1 c2 : Value) (hv : PrgVal w D p c0 c1 c2) (hp : PrgB p) (hq : PrgR p) :
    Calls Try.prog 66 #[.agg #[c0, c1, c2]] w (ProgPost p w) := by
  have hPP : ∀ wr, Below w.heap.size w wr → PrgVal wr D p c0 c1 c2 := fun wr hb => hv.fr (Fr.of_below hb (fun _ => False)) (fun _ _ h => h)
  obtain ⟨⟨a0, m0, rfl, _⟩, ⟨a1, m1, rfl, _⟩, a2, m2, rfl, _⟩ := hv
  have hbx := fun wr h => box2 w #[.slice a0 p.globals.length m0, .slice a1 p.shapes.length m1, .slice a2 p.funcs.length m2] #[.int .i64 0, .int .i64 0] 71 88 wr h
  have hz0 : ((w.alloc (.cells #[.slice a0 p.globals.length m0, .slice a1 p.shapes.length m1, .slice a2 p.funcs.length m2] 71)).alloc (.cells #[.int .i64 0, .int .i64 0] 88)).heap.size = w.heap.size + 2 := by simp
  have hpl := heap_new (w.alloc (.cells #[.slice a0 p.globals.length m0, .slice a1 p.shapes.length m1, .slice a2 p.funcs.length m2] 71)) (.cells #[.int .i64 0, .int .i64 0] 88)
  rw [show (w.alloc (.cells #[.slice a0 p.globals.length m0, .slice a1 p.shapes.length m1, .slice a2 p.funcs.length m2] 71)).heap.size = w.heap.size + 1 from by simp] at hpl
  obtain ⟨W, hW⟩ : ∃ W, W = (w.alloc (.cells #[.slice a0 p.globals.length m0, .slice a1 p.shapes.length m1, .slice a2 p.funcs.length m2] 71)).alloc (.cells #[.int .i64 0, .int .i64 0] 88) := ⟨_, rfl⟩
  rw [← hW] at hbx hz0 hpl
  have hs : ∀ wr, Below W.heap.size W wr → wr.cell? ⟨w.heap.size, 0, none⟩ = some (.slice a0 p.globals.length m0) ∧ wr.cell? ⟨w.heap.size, 1, none⟩ = some (.slice a1 p.shapes.length m1) ∧ wr.cell? ⟨w.heap.size, 2, none⟩ = some (.slice a2 p.funcs.length m2) ∧ wr.heap[w.heap.size + 1]? = some (.cells #[.int .i64 0, .int .i64 0] 88) := fun wr h => by
    have hpl2 := (Fr.of_below h (fun _ => False)).heap hpl (fun h => h)
    rw [hz0] at h
    have hb := hbx wr h
    exact ⟨hb.1 0 _ rfl, hb.1 1 _ rfl, hb.1 2 _ rfl, hpl2⟩
  have hbw : ∀ wr, Below W.heap.size W wr → Below w.heap.size w wr := fun wr h => by rw [hz0] at h; exact (hbx wr h).2.2.1
  have hw0 := Below.refl W.heap.size W
  have wh := wholeC_any W D (fun k hk => Nat.lt_of_lt_of_le (hD k hk) (hbw W hw0).size) p _ _ _ (hPP W (hbw W hw0)) hp hq
  have fu := fun wr (h : Below W.heap.size W wr) (k : Nat) => funcC_any wr D (fun q hq => Nat.lt_of_lt_of_le (hD q hq) (hbw wr h).size) p _ _ _ (hPP wr (hbw wr h)) hp hq k
  have HW := Lib.hid hW
  have hfl := hq.2.2.1
  have hzw : w.heap.size + 1 < W.heap.size := by omega
  clear hW hbx hz0 hpl hPP hp hq hD
  have wnz := @progS_whole p
  have wzh := @progS_hit p
  have wzo := @progS_ok p
  generalize wholeS p = we at *
  have WNZ := Lib.hid wnz; clear wnz
  have WZH := Lib.hid wzh; clear wzh
  have WZO := Lib.hid wzo; clear wzo
  obtain ⟨k0, k1, k2, k3⟩ := hs W hw0
  have HZW := Lib.hid hzw
  clear hzw
  have HS := Lib.hid hs; clear hs
  have HBW := Lib.hid hbw; clear hbw
  have HW0 := Lib.hid hw0; clear hw0
  have WH := Lib.hid wh; clear wh
  have FU := Lib.hid fu; clear fu
  go_enter Try.func66, Try.ntmps66
  go_upto_region 1 with fail
  rw [← HW.out]
  go_wp2_with fail
  refine WH.out.mono ?_
  rintro e w1 ⟨rfl, hb1⟩
  have hbz := HBW.out w1 hb1
  clear k0 k1 k2 k3
  obtain ⟨k0, k1, k2, k3⟩ := HS.out w1 hb1
  by_cases hwe : we = 0
  case neg =>
    have hwe1 : (we != 0) = true := by simpa using hwe
    have hr := row_set (row_set k3 0 (.int .i64 0)) 1 (.int .i64 0)
    have hf : Fr (fun q => q = w.heap.size + 1) w1 _ := ((Fr.refl (fun q => q = w.heap.size + 1) w1).setCell (p := ⟨w.heap.size + 1, 0, none⟩) (fun _ => rfl) (.int .i64 0)).setCell (p := ⟨w.heap.size + 1, 1, none⟩) (fun _ => rfl) (.int .i64 0)
    have hb := hbz.trans (hf.below hbz.size (fun k hk => by omega))
    obtain ⟨_, _, f0, f1⟩ := two_cells k3
    have hP := progPost_of (WNZ.out hwe) rfl rfl hb
    clear k3 hbz hwe hb1
    have HR := Lib.hid hr; clear hr
    have HP := Lib.hid hP; clear hP
    clear hf hb
    go_wp2_with (with_reducible refine bodyPost_ret ?_ rfl HP.out; obtain ⟨k0, k1, _⟩ := two_cells HR.out; simp [results, Try.results66, go_sem, k0, k1])
    all_goals (try trivial)
  subst hwe
  have qWZH := WZH.out rfl
  clear WZH
  have WZH := Lib.hid qWZH
  clear qWZH
  have qWZO := WZO.out rfl
  clear WZO
  have WZO := Lib.hid qWZO
  clear qWZO
  have HB1 := Lib.hid hb1
  clear k3 hbz hb1
  go_wp2_with fail
  go_loopw [17] (fun i wr => ∃ k : Nat, k ≤ p.funcs.length ∧ i = .int .i64 k ∧ Below W.heap.size W wr ∧ ∀ q : Nat, q < k → (funcS p (q : Int)).1 = 0) (fun i _ => p.funcs.length - (intOf i).toNat)
  case atStart => exact ⟨0, Nat.zero_le _, rfl, HB1.out, fun q hq => absurd hq (by omega)⟩
  case round =>
    clear k0 k1 k2
    obtain ⟨k, hk, rfl, hR, hall⟩ := hrel
    have hbz := HBW.out wr hR
    obtain ⟨k0, k1, k2, k3⟩ := HS.out wr hR
    by_cases hlt : k < p.funcs.length
    · have fu := FU.out wr hR k
      have hhit := WZH.out k hlt hall
      have hsu : (funcS p k).1 = 0 → ∀ q : Nat, q < k + 1 → (funcS p (q : Int)).1 = 0 := fun h q hq => by
        by_cases he : q = k
        · subst he; exact h
        · exact hall q (by omega)
      unfold FuncPost placeS at fu
      generalize funcS p (k : Int) = fs at *
      obtain ⟨ie, n⟩ := fs
      dsimp only at fu hhit hsu
      clear k3 hbz hall
      have HHIT := Lib.hid hhit; clear hhit
      have HSU := Lib.hid hsu; clear hsu
      have HR := Lib.hid hR; clear hR
      by_cases hie : ie = 0
      · subst hie
        rw [if_pos rfl] at fu
        dsimp only at fu
        have hsv := HSU.out rfl
        clear HSU
        have FU := Lib.hid fu; clear fu
        have HSV := Lib.hid hsv; clear hsv
        go_wp2_with fail
        refine FU.out.mono ?_
        rintro e w9 ⟨rfl, hb9⟩
        have hR9 := HR.out.trans (hb9.mono HR.out.size)
        have hR10 := hR9.alloc hR9.size (.cells #[.int .i64 0, .int .i64 0] 88)
        clear hb9 hR9
        have HR10 := Lib.hid hR10; clear hR10
        go_wp2_with fail
        go_roundw
        case rel => exact ⟨k + 1, by omega, by go_num, HR10.out, HSV.out⟩
        case measure => simp [intOf]; omega
      · have hie1 : (ie != 0) = true := by simpa using hie
        rw [if_neg hie] at fu
        dsimp only at fu
        have hpr := HHIT.out hie
        clear HHIT HSU hie
        have FU := Lib.hid fu; clear fu
        have HPR := Lib.hid hpr; clear hpr
        go_wp2_with fail
        refine FU.out.mono ?_
        rintro e w9 ⟨rfl, hb9⟩
        have hR9 := HR.out.trans (hb9.mono HR.out.size)
        have hq0 : ∀ wz, Below (w9.heap.size + 1) (w9.alloc (.cells #[.int .i64 k, .int .i64 n] 88)) wz → wz.cell? ⟨w9.heap.size, 0, none⟩ = some (.int .i64 k) ∧ wz.cell? ⟨w9.heap.size, 1, none⟩ = some (.int .i64 n) := fun wz h => ⟨(box1 w9 _ _ wz h).1 0 _ rfl, (box1 w9 _ _ wz h).1 1 _ rfl⟩
        have hR10 := hR9.alloc hR9.size (.cells #[.int .i64 k, .int .i64 n] 88)
        have hsz : (w9.alloc (.cells #[.int .i64 k, .int .i64 n] 88)).heap.size = w9.heap.size + 1 := by simp
        clear hb9 hR9
        go_upto_region 9 with fail
        obtain ⟨w10, hw10⟩ : ∃ w10, w10 = w9.alloc (.cells #[.int .i64 k, .int .i64 n] 88) := ⟨_, rfl⟩
        rw [← hw10] at hq0 hR10 hsz ⊢
        clear hw10
        obtain ⟨l0, l1⟩ := hq0 w10 (by rw [← hsz]; exact Below.refl _ _)
        have hbz := HBW.out w10 hR10
        clear k0 k1 k2
        obtain ⟨k0, k1, k2, k3⟩ := HS.out w10 hR10
        have hr := row_set (row_set k3 0 (.int .i64 (k : Int))) 1 (.int .i64 (n : Int))
        have hf : Fr (fun q => q = w.heap.size + 1) w10 _ := ((Fr.refl (fun q => q = w.heap.size + 1) w10).setCell (p := ⟨w.heap.size + 1, 0, none⟩) (fun _ => rfl) (.int .i64 (k : Int))).setCell (p := ⟨w.heap.size + 1, 1, none⟩) (fun _ => rfl) (.int .i64 (n : Int))
        have hb := hbz.trans (hf.below hbz.size (fun k hk => by omega))
        obtain ⟨_, _, f0, f1⟩ := two_cells k3
        have hP := progPost_of HPR.out rfl rfl hb.drew
        have hr := (Fr.refl (fun _ => False) _).drew.heap hr (fun h => h)
        clear k3 hbz hR10 hq0
        have HR := Lib.hid hr; clear hr
        have HP := Lib.hid hP; clear hP
        clear hf hb
        go_region
        all_goals
          go_wp2_with (with_reducible refine bodyPost_ret ?_ rfl HP.out; obtain ⟨k0, k1, _⟩ := two_cells HR.out; simp [results, Try.results66, go_sem, k0, k1])
        all_goals (try trivial)
    · have hk' : k = p.funcs.length := by omega
      subst hk'
      have hzz := WZO.out hall
      have hr := row_set (row_set k3 0 (.int .i64 0)) 1 (.int .i64 0)
      have hf : Fr (fun q => q = w.heap.size + 1) wr _ := ((Fr.refl (fun q => q = w.heap.size + 1) wr).setCell (p := ⟨w.heap.size + 1, 0, none⟩) (fun _ => rfl) (.int .i64 0)).setCell (p := ⟨w.heap.size + 1, 1, none⟩) (fun _ => rfl) (.int .i64 0)
      have hb := hbz.trans (hf.below hbz.size (fun k hk => by omega))
      obtain ⟨_, _, f0, f1⟩ := two_cells k3
      have hP := progPost_of hzz rfl rfl hb
      clear k3 hbz hall hR hzz
      have HR := Lib.hid hr; clear hr
      have HP := Lib.hid hP; clear hP
      clear hf hb
      go_wp2_with (with_reducible refine bodyPost_ret ?_ rfl HP.out; obtain ⟨k0, k1, _⟩ := two_cells HR.out; simp [results, Try.results66, go_sem, k0, k1])
      all_goals (try trivial)
end Go.Proofs.Ytmmdppjbofbjhaa
namespace Go.Proofs.Ytmmdppjbofbjhaa
open Go.ChangeShapes Go.WideShapes Go.ChangeAt Go.RowKit Go.Maps

def pr1 : Prg := ⟨[], [], [⟨[], 0, 1, [], [⟨1, 0, 0, 0⟩, ⟨9, 0, 5, 0⟩]⟩]⟩
def wB (w : World) : World := ((w.alloc (.cells #[.int .i64 1, .int .i64 0, .int .i64 0, .int .i64 0, .int .i64 9, .int .i64 0, .int .i64 5, .int .i64 0] 58)).alloc (.cells #[.slice none 0 0, .int .i64 0, .int .i64 1, .slice none 0 0, .slice (some ⟨w.heap.size, 0, none⟩) 2 2] 86)).alloc (.cells #[.slice none 0 0, .slice none 0 0, .slice (some ⟨w.heap.size + 1, 0, none⟩) 1 1] 71)
theorem wB_size (w : World) : (wB w).heap.size = w.heap.size + 3 := by simp [wB]
theorem wB_below (w : World) : Below w.heap.size w (wB w) := (((Below.refl _ _).alloc (Nat.le_refl _) _).alloc (by simp) _).alloc (by simp; omega) _
theorem wB_cells (w : World) : (∀ j u, (#[Value.int .i64 1, .int .i64 0, .int .i64 0, .int .i64 0, .int .i64 9, .int .i64 0, .int .i64 5, .int .i64 0])[j]? = some u → (wB w).cell? ⟨w.heap.size, j, none⟩ = some u) ∧ (∀ j u, (#[Value.slice none 0 0, .int .i64 0, .int .i64 1, .slice none 0 0, .slice (some ⟨w.heap.size, 0, none⟩) 2 2])[j]? = some u → (wB w).cell? ⟨w.heap.size + 1, j, none⟩ = some u) := by
  refine ⟨fun j u h => ?_, fun j u h => ?_⟩
  · unfold wB
    rw [cell_under _ _ (by simp; omega), cell_under _ _ (by simp), cell_new]; exact h
  · unfold wB
    rw [cell_under _ _ (by simp)]
    rw [show w.heap.size + 1 = (w.alloc (.cells #[.int .i64 1, .int .i64 0, .int .i64 0, .int .i64 0, .int .i64 9, .int .i64 0, .int .i64 5, .int .i64 0] 58)).heap.size from by simp, cell_new]; exact h
theorem wB_prg (w : World) : PrgVal (wB w) (fun k => k < w.heap.size + 2) pr1 (.slice none 0 0) (.slice none 0 0) (.slice (some ⟨w.heap.size + 1, 0, none⟩) 1 1) := by
  obtain ⟨h1, h2⟩ := wB_cells w
  refine ⟨⟨none, 0, rfl, fun j hj => by cases hj⟩, ⟨none, 0, rfl, fun j hj => by cases hj⟩, _, 1, rfl, fun j hj => ?_⟩
  have hj0 : j = 0 := by have : j < 1 := hj; omega
  subst hj0
  refine ⟨w.heap.size + 1, 0, rfl, by show w.heap.size + 1 < w.heap.size + 2; omega, _, _, _, _, _, h2 0 _ rfl, h2 1 _ rfl, h2 2 _ rfl, h2 3 _ rfl, h2 4 _ rfl, rfl, rfl, ⟨none, 0, rfl, fun j hj => by cases hj⟩, ⟨none, 0, rfl, fun j hj => by cases hj⟩, _, 2, rfl, fun i hi => ?_⟩
  have hi0 : i = 0 ∨ i = 1 := by have : i < 2 := hi; omega
  rcases hi0 with rfl | rfl
  · exact ⟨w.heap.size, 0, rfl, by show w.heap.size < w.heap.size + 2; omega, h1 0 _ rfl, h1 1 _ rfl, h1 2 _ rfl, h1 3 _ rfl⟩
  · exact ⟨w.heap.size, 0, rfl, by show w.heap.size < w.heap.size + 2; omega, h1 4 _ rfl, h1 5 _ rfl, h1 6 _ rfl, h1 7 _ rfl⟩
theorem pr0_B : PrgB pr0 ∧ PrgR pr0 := by
  unfold PrgB PrgR FunB Ins.wf i64B pr0
  simp
theorem pr1_B : PrgB pr1 ∧ PrgR pr1 := by
  unfold PrgB PrgR FunB Ins.wf i64B pr1
  simp
theorem pr0_S : progS pr0 = (0, 0, 0) := by decide +kernel
theorem pr1_S : progS pr1 = (4, 0, 1) := by decide +kernel
set_option maxRecDepth 100000 in
set_option maxHeartbeats 3200000 in
theorem alive11 (w : World) :
    Calls Try.prog 65 #[] w fun e w' => e = .returned (.bool true) ∧ Below w.heap.size w w' := by
  have hB := (wA_below w).trans ((wB_below (wA w)).mono (by rw [wA_size]; omega))
  have p0 := (wA_prg w).fr (Fr.of_below (wB_below (wA w)) (fun _ => False)) (fun _ _ h => h)
  have p1 := wB_prg (wA w)
  have hsz : (wB (wA w)).heap.size = w.heap.size + 6 := by rw [wB_size, wA_size]
  rw [wA_size] at p1
  have c0 := fun wr (h : Below (wB (wA w)).heap.size (wB (wA w)) wr) => progC_any wr _ (fun k hk => by have := h.size; have : k < w.heap.size + 2 := hk; omega) pr0 _ _ _ (p0.fr (Fr.of_below h (fun _ => False)) (fun _ _ h => h)) pr0_B.1 pr0_B.2
  have c1 := fun wr (h : Below (wB (wA w)).heap.size (wB (wA w)) wr) => progC_any wr _ (fun k hk => by have := h.size; have : k < w.heap.size + 3 + 2 := hk; omega) pr1 _ _ _ (p1.fr (Fr.of_below h (fun _ => False)) (fun _ _ h => h)) pr1_B.1 pr1_B.2
  unfold ProgPost at c0 c1
  rw [pr0_S] at c0
  rw [pr1_S] at c1
  dsimp only at c0 c1
  have hl0 : (wB (wA w)).cell? ⟨w.heap.size + 2, 0, none⟩ = some (.slice none 0 0) ∧ (wB (wA w)).cell? ⟨w.heap.size + 2, 1, none⟩ = some (.slice none 0 0) ∧ (wB (wA w)).cell? ⟨w.heap.size + 2, 2, none⟩ = some (.slice (some ⟨w.heap.size + 1, 0, none⟩) 1 1) := by
    have hq : ∀ j u, (#[Value.slice none 0 0, .slice none 0 0, .slice (some ⟨w.heap.size + 1, 0, none⟩) 1 1])[j]? = some u → (wA w).cell? ⟨w.heap.size + 2, j, none⟩ = some u := fun j u h => by
      unfold wA
      rw [show w.heap.size + 2 = ((w.alloc (.cells #[.int .i64 27, .int .i64 0, .int .i64 0, .int .i64 0] 58)).alloc (.cells #[.slice none 0 0, .int .i64 0, .int .i64 0, .slice none 0 0, .slice (some ⟨w.heap.size, 0, none⟩) 1 1] 86)).heap.size from by simp, cell_new]
      exact h
    exact ⟨below_cell (wB_below _) (hq 0 _ rfl), below_cell (wB_below _) (hq 1 _ rfl), below_cell (wB_below _) (hq 2 _ rfl)⟩
  have hl1 : (wB (wA w)).cell? ⟨w.heap.size + 5, 0, none⟩ = some (.slice none 0 0) ∧ (wB (wA w)).cell? ⟨w.heap.size + 5, 1, none⟩ = some (.slice none 0 0) ∧ (wB (wA w)).cell? ⟨w.heap.size + 5, 2, none⟩ = some (.slice (some ⟨w.heap.size + 3 + 1, 0, none⟩) 1 1) := by
    have hq : ∀ j u, (#[Value.slice none 0 0, .slice none 0 0, .slice (some ⟨(wA w).heap.size + 1, 0, none⟩) 1 1])[j]? = some u → (wB (wA w)).cell? ⟨(wA w).heap.size + 2, j, none⟩ = some u := fun j u h => by
      unfold wB
      rw [show (wA w).heap.size + 2 = (((wA w).alloc (.cells #[.int .i64 1, .int .i64 0, .int .i64 0, .int .i64 0, .int .i64 9, .int .i64 0, .int .i64 5, .int .i64 0] 58)).alloc (.cells #[.slice none 0 0, .int .i64 0, .int .i64 1, .slice none 0 0, .slice (some ⟨(wA w).heap.size, 0, none⟩) 2 2] 86)).heap.size from by simp, cell_new]
      exact h
    rw [wA_size] at hq
    exact ⟨hq 0 _ rfl, hq 1 _ rfl, hq 2 _ rfl⟩
  have hwa : wB (wA w) = wB (wA w) := rfl
  conv at hwa => rhs; unfold wB; rw [wA_size]; unfold wA
  generalize wB (wA w) = W at *
  have hw0 := Below.refl W.heap.size W
  clear p0 p1
  have C0 := Lib.hid c0; clear c0
  have C1 := Lib.hid c1; clear c1
  have HB := Lib.hid hB; clear hB
  have HWA := Lib.hid hwa; clear hwa
  have HL0 := Lib.hid hl0; clear hl0
  have HL1 := Lib.hid hl1; clear hl1
  have HW0 := Lib.hid hw0; clear hw0
  go_enter Try.func65, Try.ntmps65
  go_upto_region 3 with fail
  rw [← HWA.out]
  obtain ⟨l0, l1, l2⟩ := HL0.out
  go_wp2_with fail
  refine (C0.out W HW0.out).mono ?_
  rintro e w1 ⟨rfl, hb1⟩
  have hb2 := hb1.alloc hb1.size (.cells #[.int .i64 0, .int .i64 0] 88)
  go_upto_region 4 with fail
  obtain ⟨w2, hw2⟩ : ∃ w2, w2 = w1.alloc (.cells #[.int .i64 0, .int .i64 0] 88) := ⟨_, rfl⟩
  rw [← hw2] at hb2 ⊢
  have HW2 := Lib.hid hw2
  clear hw2 hb1 l0 l1 l2
  obtain ⟨l0, l1, l2⟩ := HL1.out
  have l0 := below_cell hb2 l0
  have l1 := below_cell hb2 l1
  have l2 := below_cell hb2 l2
  have HB2 := Lib.hid hb2
  clear hb2
  go_wp2_with fail
  refine (C1.out w2 HB2.out).mono ?_
  rintro e w3 ⟨rfl, hb3⟩
  have hb3 := HB2.out.trans (hb3.mono HB2.out.size)
  have hb4 := HB.out.trans ((hb3.alloc hb3.size (.cells #[.int .i64 0, .int .i64 1] 88)).mono HB.out.size)
  clear hb3 l0 l1 l2
  have HB4 := Lib.hid hb4; clear hb4
  go_wp2_with fail
  go_ret
  exact ⟨rfl, HB4.out⟩
end Go.Proofs.Ytmmdppjbofbjhaa
namespace Go.Proofs.Ytmmdppjbofbjhaa
open Go.RowKit

theorem trodAll_stays {H : Type} {enc : TypeId × Value → H} {P : Program} (hl : laidOutB P = true) {W W' : World} (hb : Below W.heap.size W W') :
    ∀ (ts : List TypeId) (vs : List Value) (ds : List (DataW H)) (ps : List MemPlace), (∀ t ∈ ts, P.readableRec t = true ∧ t < P.types.size) →
      DataW.TrodAll enc P W 0 (fun _ => true) true ts vs ds ps → (∀ x ∈ ps, x.block < W.heap.size) → DataW.TrodAll enc P W' 0 (fun b => decide (b < W.heap.size)) true ts vs ds ps
  | [], [], [], _, _, h, _ => h
  | t :: ts, v :: vs, d :: ds, _, ht, ⟨p, q, h1, h2, he⟩, hlt => by
    subst he
    exact ⟨p, q, Below.trod hl (ht t (List.mem_cons_self ..)).1 (ht t (List.mem_cons_self ..)).2 h1 hb (fun x hx => hlt x (List.mem_append_left _ hx)),
      trodAll_stays hl hb ts vs ds q (fun t' h' => ht t' (List.mem_cons_of_mem _ h')) h2 (fun x hx => hlt x (List.mem_append_right _ hx)), rfl⟩

theorem trodAll_length {H : Type} {enc : TypeId × Value → H} {P : Program} {W : World} {b : Nat} {sp : Nat → Bool} {hd : Bool} :
    ∀ (ts : List TypeId) (vs : List Value) (ds : List (DataW H)) (ps : List MemPlace), DataW.TrodAll enc P W b sp hd ts vs ds ps → ds.length = ts.length
  | [], [], [], _, _ => rfl
  | _ :: ts, _ :: vs, _ :: ds, _, ⟨_, q, _, h, _⟩ => congrArg (· + 1) (trodAll_length ts vs ds q h)

theorem law_post {H : Type} {enc : TypeId × Value → H} {P : Program} {f : Func} {s : ChangeSpec} {W W' : World} {args : Array Value} {ds gs : List (DataW H)} {before : List MemPlace} {T : TypeId}
    (hl : laidOutB P = true) (hps : f.params.toList.all (fun t => P.readableRec t && decide (t < P.types.size)) = true) (hrt : f.resultTypes = #[T]) (hT : P.underlying T = some .bool)
    (hW : DataW.Whole enc P f.params.toList s.vars false W args.toList ds gs before) (hv : s.vars = [])
    (hs : ∀ ds : List (DataW H), ds.length = f.params.toList.length → s.fn H ds = { results := [.lit (.bool true)], args := ds }) (hb : Below W.heap.size W W') :
    s.post enc P f false true false false W args (.bool true) W' := by
  have hW0 := hW
  obtain ⟨p, q, hA, hV, hpq, hz, hn⟩ := hW
  rw [hv] at hV
  match gs, hV with
  | [], hV =>
    have hq : q = [] := hV
    subst hq
    rw [List.append_nil] at hpq
    subst hpq
    have hfn := hs ds (trodAll_length _ _ _ _ hA)
    have hps' : ∀ t ∈ f.params.toList, P.readableRec t = true ∧ t < P.types.size := fun t ht => by
      have := List.all_eq_true.1 hps t ht
      simpa using this
    refine ⟨ds, [], before, [], before, [], hW0, ?_, ?_, ?_, ?_, fun h => by cases h⟩
    · rw [List.append_nil, hfn, hrt]
      exact ⟨[], [], ⟨1, by simp [DataW.trod, hT, Value.cells]⟩, rfl, rfl⟩
    · rw [List.append_nil, hfn]
      exact trodAll_stays hl hb _ _ _ _ hps' hA hW0.lt
    · rw [List.append_nil, hfn, hv]
      exact rfl
    · exact hb.frame _
  | _ :: _, hV => exact hV.elim
end Go.Proofs.Ytmmdppjbofbjhaa
