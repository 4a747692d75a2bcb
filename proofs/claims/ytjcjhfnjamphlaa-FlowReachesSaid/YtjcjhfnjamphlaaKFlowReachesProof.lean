/- FlowReaches: a place is reached just if a way of instructions leads there from the first one. No condition. -/
import Derived.Test.YtjcjhfnjamphlaaKBl
import Derived.Test.YtjcjhfnjamphlaaKBm
import Derived.Test.YtjcjhfnjamphlaaKAe
import Derived.Test.YtjcjhfnjamphlaaKAq
import Derived.Test.YtjcjhfnjamphlaaRows
set_option linter.unusedVariables false
set_option linter.unusedSimpArgs false
/- FlowReaches: a place is reached just if a way of instructions leads there from the first one. No condition. -/
namespace Go.Proofs.Ytjcjhfnjamphlaa.flowReaches
open Go.ChangeShapes Go.WideShapes Go.ChangeAt Go.RowKit Go.Maps
/-- the search as it lies -/
def SR (f : Fun) (M : Flo) (w0 : World) (g : Nat) (tv : Value) (wx : World) (n : Nat) : Prop :=
  n ≤ 1000 ∧ ∃ I Q, Srch f M I Q ∧ Que wx w0.heap.size tv Q ∧ wx.heap[g]? = some (.cells (boolsV I).toArray 4) ∧ tv.ownBlock ≠ some g ∧ Below w0.heap.size w0 wx ∧ msrS I Q = n
theorem sr_open {f : Fun} {M : Flo} {w0 : World} {g : Nat} {tv : Value} {wx : World} (h : ∃ n, SR f M w0 g tv wx n) : ∃ mm, leastN (SR f M w0 g tv wx) = mm ∧ SR f M w0 g tv wx mm := ⟨_, rfl, leastN_spec h⟩
set_option maxRecDepth 100000 in
set_option maxHeartbeats 6400000 in
theorem walk (w : World) (v : Value) (hv : ∃ (pr : Prg) (c0 c1 c2 : Value), v = .agg #[c0, c1, c2] ∧ PrgVal w (fun k => k < w.heap.size) pr c0 c1 c2 ∧ PrgB pr) :
    Calls Try.prog 6 #[v] w fun e w' => e = .returned (.bool true) ∧ Below w.heap.size w w' := by
  obtain ⟨p, c0, c1, c2, rfl, hp, hpb⟩ := hv
  have hPP : ∀ wr, Below w.heap.size w wr → PrgVal wr (fun k => k < w.heap.size) p c0 c1 c2 := fun wr hb => hp.fr (Fr.of_below hb (fun _ => False)) (fun _ _ h => h)
  obtain ⟨⟨a0, m0, rfl, _⟩, ⟨a1, m1, rfl, _⟩, a2, m2, rfl, hfn⟩ := hp
  have hbx := fun wr h => box1 w #[.slice a0 p.globals.length m0, .slice a1 p.shapes.length m1, .slice a2 p.funcs.length m2] 26 wr h
  have hz0 : (w.alloc (.cells #[.slice a0 p.globals.length m0, .slice a1 p.shapes.length m1, .slice a2 p.funcs.length m2] 26)).heap.size = w.heap.size + 1 := by simp
  obtain ⟨W, hW⟩ : ∃ W, W = (w.alloc (.cells #[.slice a0 p.globals.length m0, .slice a1 p.shapes.length m1, .slice a2 p.funcs.length m2] 26)) := ⟨_, rfl⟩
  rw [← hW] at hbx hz0
  have hs : ∀ wr, Below W.heap.size W wr → wr.cell? ⟨w.heap.size, 0, none⟩ = some (.slice a0 p.globals.length m0) ∧ wr.cell? ⟨w.heap.size, 1, none⟩ = some (.slice a1 p.shapes.length m1) ∧ wr.cell? ⟨w.heap.size, 2, none⟩ = some (.slice a2 p.funcs.length m2) := fun wr h => by
    rw [hz0] at h
    have hb := hbx wr h
    exact ⟨hb.1 0 _ rfl, hb.1 1 _ rfl, hb.1 2 _ rfl⟩
  have hbw : ∀ wr, Below W.heap.size W wr → Below w.heap.size w wr := fun wr h => by rw [hz0] at h; exact (hbx wr h).2.1
  have hw0 := Below.refl W.heap.size W
  have al := alive12
  have sm := small_any W _ p _ _ _ (hPP W (hbw W hw0))
  obtain ⟨k0, k1, k2⟩ := hs W hw0
  have HW := Lib.hid hW
  clear hW hbx hz0
  by_cases hsm : bulk p ≤ 3000
  case neg =>
    rw [decide_eq_false hsm] at sm
    clear hPP hfn hs hpb hsm
    have AL := Lib.hid al; clear al
    have SM := Lib.hid sm; clear sm
    have HBW := Lib.hid hbw; clear hbw
    have HW0 := Lib.hid hw0; clear hw0
    go_enter Try.func6, Try.ntmps6
    go_upto_region 1 with fail
    rw [← HW.out]
    go_wp2_with fail
    refine SM.out.mono ?_
    rintro e w1 ⟨rfl, hb1⟩
    have HB1 := Lib.hid hb1; clear hb1 k0 k1 k2
    go_wp2_with fail
    refine (AL.out _).mono ?_
    rintro e w2 ⟨rfl, hb2⟩
    have HB2 := Lib.hid (HBW.out _ (HB1.out.trans (hb2.mono HB1.out.size))); clear hb2
    go_wp2_with fail
    go_ret
    exact ⟨rfl, HB2.out⟩
  rw [decide_eq_true hsm] at sm
  have hpr := prgR_small hsm
  have hfn : ∀ wr, Below W.heap.size W wr → FnSl wr (fun k => k < w.heap.size) a2 p.funcs := fun wr h => hfn.fr (Fr.of_below (hbw wr h) (fun _ => False)) (fun _ _ h => h)
  have fp := fun wr (h : Below W.heap.size W wr) => flowProg_any wr (fun k => k < w.heap.size) (fun k hk => Nat.lt_of_lt_of_le hk (hbw wr h).size) p _ _ _ (hPP wr (hbw wr h)) hpb hpr
  have nx := fun wr (h : Below W.heap.size W wr) (fn pc : Int) hfn hpc => next_any wr (fun k => k < w.heap.size) (fun k hk => Nat.lt_of_lt_of_le hk (hbw wr h).size) p _ _ _ (hPP wr (hbw wr h)) hpb hpr fn pc hfn hpc
  clear hsm
  have AL := Lib.hid al; clear al
  have SM := Lib.hid sm; clear sm
  have HBW := Lib.hid hbw; clear hbw
  have HW0 := Lib.hid hw0; clear hw0
  have HS := Lib.hid hs; clear hs
  have HFN := Lib.hid hfn; clear hfn
  have FP := Lib.hid fp; clear fp
  have NX := Lib.hid nx; clear nx
  have HPP := Lib.hid hPP; clear hPP
  have HPB := Lib.hid hpb; clear hpb
  have HPR := Lib.hid hpr; clear hpr
  go_enter Try.func6, Try.ntmps6
  go_upto_region 1 with fail
  rw [← HW.out]
  go_wp2_with fail
  refine SM.out.mono ?_
  rintro e w1 ⟨rfl, hb1⟩
  have HB1 := Lib.hid hb1; clear hb1 k0 k1 k2
  go_wp2_with fail
  refine (AL.out _).mono ?_
  rintro e w2 ⟨rfl, hb2⟩
  have hb2 := HB1.out.trans (hb2.mono HB1.out.size)
  obtain ⟨k0, k1, k2⟩ := HS.out w2 hb2
  have HB2 := Lib.hid hb2
  clear hb2
  go_wp2_with fail
  refine (FP.out w2 HB2.out).mono ?_
  rintro e w3 ⟨hb3, ⟨E, ea, eb, ⟨hE, _⟩, rfl⟩ | ⟨h0, Ms, mb, b, nm, V, hms, rfl, hmp⟩⟩
  · have hEb : (E != 0) = true := by simpa using hE
    have hb3 := HB2.out.trans (hb3.mono HB2.out.size)
    have HB4 := Lib.hid (HBW.out _ (hb3.alloc hb3.size (.cells #[.int .i64 ea, .int .i64 eb] 34)))
    clear hb3 hE k0 k1 k2
    go_wp2_with fail
    go_ret
    exact ⟨rfl, HB4.out⟩
  have hfit := prgFit h0
  have hB3 := HB2.out.trans (hb3.mono HB2.out.size)
  have hB4 := hB3.alloc hB3.size (.cells #[.int .i64 0, .int .i64 0] 34)
  have hmp4 := hmp.below ((Below.refl w3.heap.size w3).alloc (Nat.le_refl _) (.cells #[.int .i64 0, .int .i64 0] 34))
  obtain ⟨Y, hY⟩ : ∃ Y, Y = w3.alloc (.cells #[.int .i64 0, .int .i64 0] 34) := ⟨_, rfl⟩
  rw [← hY] at hB4 hmp4
  have hcl := allM_len hfit rfl hms
  have HY := Lib.hid hY
  have HB4 := Lib.hid hB4
  have HMP := Lib.hid hmp4
  have HCL := Lib.hid hcl
  have HMS := Lib.hid hms
  have HFIT := Lib.hid hfit
  clear hY hB4 hmp4 hcl hms hfit hB3 hmp hb3 h0 k0 k1 k2
  go_upto_region 8 with fail
  rw [← HY.out]
  go_upto_region 9 with fail
  go_loopw [6] (fun i wr => ∃ k : Nat, k ≤ p.funcs.length ∧ i = .int .i64 k ∧ Below Y.heap.size Y wr) (fun i _ => p.funcs.length - (intOf i).toNat)
  case atStart => exact ⟨0, Nat.zero_le _, rfl, Below.refl _ _⟩
  case round =>
    obtain ⟨k, hk, rfl, hbr⟩ := hrel
    have hB5 := HB4.out.trans (hbr.mono HB4.out.size)
    by_cases hlt : k < p.funcs.length
    case neg =>
      have hk' : k = p.funcs.length := by omega
      subst hk'
      obtain ⟨k0, k1, k2⟩ := HS.out wr hB5
      have HB6 := Lib.hid (HBW.out _ hB5)
      clear hbr hB5
      go_wp2_with fail
      go_ret
      exact ⟨rfl, HB6.out⟩
    have hklt : (k : Int) < (p.funcs.length : Int) := by omega
    have hff := HFIT.out.fn _ (List.getElem_mem hlt)
    have hk16 : k < 16 := by have := HFIT.out.funcs2; omega
    have hfk : fnAt p k = p.funcs[k] := by unfold fnAt; simp [hlt]
    have hflow := (HMS.out k hlt).1
    rw [hfk] at hflow
    have hfs := HFN.out wr hB5 k hlt
    have hiat : ∀ (m : Nat) (i : Ins), p.funcs[k].code[m]? = some i → iAt p k m = some i := fun m i h => iAt_at hlt h
    obtain ⟨f, hfe⟩ : ∃ f, f = p.funcs[k] := ⟨_, rfl⟩
    rw [← hfe] at hff hflow hfs hiat
    clear hfk hfe
    obtain ⟨bb, o, rfl, _, y0, y1, y2, y3, y4, g0, g1, g2, g3, g4, hfv⟩ := hfs
    obtain ⟨rfl, rfl, ⟨e0, e1, rfl, _⟩, ⟨e2, e3, rfl, _⟩, e4, e5, rfl, _⟩ := hfv
    obtain ⟨sN, hsN⟩ : ∃ sN : Nat, f.slots = (sN : Int) := ⟨f.slots.toNat, by have := hff.args; omega⟩
    rw [hsN] at g2
    have hnp := fun (q : Nat) (hq : q < f.code.length) => next_pos HFIT.out hff hq
    have hcl1 := hff.code1
    have hcl2 := hff.code2
    have hwmk : ∀ wx, (Instr.makeSlice 55 (.int .i64 f.code.length) (.int .i64 f.code.length)).run Try.prog wx = .ok (.slice (some ⟨wx.heap.size, 0, none⟩) f.code.length f.code.length) (wx.alloc (.cells (boolsV (List.replicate f.code.length false)).toArray 4)) := fun wx => make_bools wx _ (by omega)
    obtain ⟨N, hN⟩ : ∃ N, N = f.code.length := ⟨_, rfl⟩
    rw [← hN] at g4 hwmk
    have hba := (Below.refl wr.heap.size wr).alloc (Nat.le_refl _) (.cells (boolsV (List.replicate N false)).toArray 4)
    have hra := heap_new wr (.cells (boolsV (List.replicate N false)).toArray 4)
    obtain ⟨g, hg⟩ : ∃ g, g = wr.heap.size := ⟨_, rfl⟩
    obtain ⟨wA, hwA⟩ : ∃ wA, wA = wr.alloc (.cells (boolsV (List.replicate N false)).toArray 4) := ⟨_, rfl⟩
    have hsA : wA.heap.size = g + 1 := by rw [hwA, hg]; simp
    rw [← hwA] at hba hra
    rw [← hg] at hra
    have hbt := hba.alloc hba.size (.cells #[.int .i64 0] 3)
    have hrt := heap_new wA (.cells #[.int .i64 0] 3)
    have hra2 := ((Fr.refl (fun _ => False) wA).alloc (.cells #[.int .i64 0] 3)).heap hra (fun h => h)
    obtain ⟨wI, hwI⟩ : ∃ wI, wI = wA.alloc (.cells #[.int .i64 0] 3) := ⟨_, rfl⟩
    rw [← hwI] at hbt hrt hra2
    rw [hsA] at hrt
    have hst : SR f (Ms k) wr g (.slice (some ⟨g + 1, 0, none⟩) 1 1) wI (msrS (List.replicate N false) [0]) := by
      refine ⟨by unfold msrS; have := List.countP_le_length (p := fun b => !b) (l := List.replicate N false); simp only [List.length_replicate] at this; simp only [List.length_singleton]; omega, _, [0], by rw [hN]; exact Srch.start hflow, Que.own (l := [0]) (by decide) (own_row (R := [0]) hrt rfl (by decide) (by omega)), hra2, fun e => ?_, hbt, rfl⟩
      injection e with e
      have e : g + 1 = g := e
      omega
    have HST := Lib.hid hst
    have HG := Lib.hid hg
    have HWA := Lib.hid hwA
    have HWI := Lib.hid hwI
    have HSA := Lib.hid hsA
    have HBR := Lib.hid hbr
    have HB5 := Lib.hid hB5
    have HFF := Lib.hid hff
    have HFLOW := Lib.hid hflow
    have HIAT := Lib.hid hiat
    have HNP := Lib.hid hnp
    have HSN := Lib.hid hsN
    have HN := Lib.hid hN
    have HG2 := Lib.hid g2
    have HG4 := Lib.hid g4
    have HK16 := Lib.hid hk16
    have HLT := Lib.hid hlt
    have hN64 : N ≤ 64 := by omega
    have hN0 : 0 < N := by omega
    obtain ⟨k0, k1, k2⟩ := HS.out wr hB5
    clear hst hg hwA hwI hsA hbr hB5 hff hflow hiat hnp hsN hN hk16 hba hra hbt hrt hra2 hcl1 hcl2 g0 g1 g2 g3
    go_upto_region 12 with fail
    rw [← HG.out, ← HWA.out]
    clear hwmk k0 k1 k2 g4
    go_upto_region 13 with fail
    rw [HSA.out, ← HWI.out]
    have HHR := Lib.hid (fun (u : World) (h : Below wr.heap.size wr u) => HS.out u (HB5.out.trans (h.mono HB5.out.size)))
    have HBW5 := Lib.hid (fun (u : World) (h : Below wr.heap.size wr u) => HB5.out.trans (h.mono HB5.out.size))
    have HGN := Lib.hid (show g = wr.heap.size from HG.out)
    generalize wr = wo at *
    go_loopw [8] (fun tv wx => ∃ n, SR f (Ms k) wo g tv wx n) (fun tv wx => leastN (SR f (Ms k) wo g tv wx))
    case atStart => exact ⟨_, HST.out⟩
    case round =>
      obtain ⟨mm, hmm, hm1, I, Q, hS, hQ, hrow, hne, hbx, hms⟩ := sr_open hrel
      have HMMM := Lib.hid hmm
      clear hmm hrel HST
      have hIl : I.length = N := by rw [HN.out]; exact hS.len
      cases Q with
      | nil =>
        obtain ⟨ta, tc, hv⟩ := hQ.slice
        rw [show ([] : List Int).length = 0 from rfl] at hv
        subst hv
        have hdone : ∀ q (h2 : q < I.length), (Ms k q).isSome = I[q] := fun q h2 => hS.done HFLOW.out HFF.out.args q (by rw [← HN.out, ← hIl]; exact h2) h2
        have HDONE := Lib.hid hdone
        have HIL := Lib.hid hIl
        have HBX := Lib.hid hbx
        have HROW := Lib.hid hrow
        clear hS hQ hne hbx hms hrow hdone hIl hm1
        go_upto_region 20 with fail
        generalize wr = w2 at *
        go_loopw [10] (fun i wr => ∃ j : Nat, j ≤ N ∧ i = .int .i64 j ∧ Below w2.heap.size w2 wr ∧ wr.heap[g]? = some (.cells (boolsV I).toArray 4)) (fun i _ => N - (intOf i).toNat)
        case atStart => exact ⟨0, Nat.zero_le _, rfl, Below.refl _ _, HROW.out⟩
        case round =>
          obtain ⟨j, hj, rfl, hbr, hrow⟩ := hrel
          have hbo := HBX.out.trans (hbr.mono HBX.out.size)
          have hbY := HBR.out.trans (hbo.mono HBR.out.size)
          by_cases hjl : j < N
          case neg =>
            have hj' : j = N := by omega
            subst hj'
            have HBY := Lib.hid hbY
            have i1 : IntKind.i64.wrap ((k : Int) + 1) = (k : Int) + 1 := IntWalk.i64_in _ (by have := HK16.out; omega)
            clear hbr hrow hbo hbY
            go_wp2_with fail
            go_roundw
            case rel => exact ⟨k + 1, HLT.out, by go_num, HBY.out⟩
            case measure => simp [intOf]; omega
          have hjI : j < I.length := by rw [HIL.out]; exact hjl
          have hjlt : (j : Int) < (N : Int) := by omega
          have hI : i64B (k : Int) ∧ i64B (j : Int) := ⟨⟨by omega, by have := HK16.out; omega⟩, ⟨by omega, by omega⟩⟩
          have i1 : IntKind.i64.wrap ((j : Int) + 1) = (j : Int) + 1 := IntWalk.i64_in _ (by omega)
          have hat := allM_at (Ms := Ms) HLT.out j hI
          have hd := HDONE.out j hjI
          have hmaps := HMP.out.below hbY
          have s0 := (bools_cell hrow j hjI).1
          have s1 := (HHR.out wr hbo).2.2
          have s2 := below_cell hbo HG2.out
          have rm := fun u (h : Below wr.heap.size wr u) => reachedM_any u _ mb b nm V _ (hmaps.below h) k j hI
          have hR0 := (Below.refl wr.heap.size wr).drew
          have hgl := heap_lt hrow
          cases hbv : I[j] with
          | false =>
            rw [hbv] at hd s0
            have hno : Ms k j = none := by
              cases h : Ms k j with
              | none => rfl
              | some K => rw [h] at hd; cases hd
            have km : ∀ u, Below wr.heap.size wr u → Calls Try.prog 21 #[.pointer (some ⟨mb, 0, none⟩), .int .i64 k, .int .i64 j] u fun e w' => ∃ va vc, e = .returned (.slice va 0 vc) ∧ Below u.heap.size u w' := fun u h => by
              refine (kindsM_any u _ mb b nm V _ (hmaps.below h) k j hI HCL.out).mono ?_
              rintro e w' ⟨v, rfl, ho, hb⟩
              rw [hat, hno] at ho
              obtain ⟨va, vc, rfl, _⟩ := own_int ho
              exact ⟨va, vc, rfl, hb⟩
            simp only [hat, hno] at rm
            have rm : ∀ u, Below wr.heap.size wr u → Calls Try.prog 20 #[.pointer (some ⟨mb, 0, none⟩), .int .i64 k, .int .i64 j] u fun e w' => e = .returned (.bool false) ∧ u = w' := rm
            have hS : ∀ u, Below wr.heap.size wr u → u.cell? ⟨g, j, none⟩ = some (.bool false) ∧ u.cell? ⟨w.heap.size, 2, none⟩ = some (.slice (some ⟨bb, o, none⟩) p.funcs.length m2) ∧ u.cell? ⟨bb, o + k * 5 + 2, none⟩ = some (.int .i64 sN) := fun u h => ⟨below_cell h s0, below_cell h s1, below_cell h s2⟩
            have HSS := Lib.hid hS
            have HR0 := Lib.hid hR0
            have HGL := Lib.hid hgl
            have HROW := Lib.hid hrow
            have HBRR := Lib.hid hbr
            have HJL := Lib.hid hjl
            have RM := Lib.hid rm
            have KM := Lib.hid km
            clear hS hR0 hgl hrow hbr hjl rm km hat hd hmaps hI hbo hbY hjI hbv
            go_upto_region 22 with fail
            have hSd : wr.drew.cell? ⟨g, j, none⟩ = some (.bool false) ∧ wr.drew.cell? ⟨w.heap.size, 2, none⟩ = some (.slice (some ⟨bb, o, none⟩) p.funcs.length m2) ∧ wr.drew.cell? ⟨bb, o + k * 5 + 2, none⟩ = some (.int .i64 sN) := HSS.out wr.drew HR0.out
            clear s0 s1 s2
            refine wp_region_held_drew (S := fun w' => w'.cell? ⟨g, j, none⟩ = some (.bool false) ∧ w'.cell? ⟨w.heap.size, 2, none⟩ = some (.slice (some ⟨bb, o, none⟩) p.funcs.length m2) ∧ w'.cell? ⟨bb, o + k * 5 + 2, none⟩ = some (.int .i64 sN)) (by kernel_rfl) hSd (fun hHeld => ?_)
            clear hSd
            refine wpAnyH_take (i := 0) (v := ?_) rfl (by kernel_rfl) (by kernel_rfl) (by kernel_rfl) (fun _ _ _ h => h) (Or.inl ⟨by rfl, ?_⟩) (by assumption) ?_
            rotate_left
            · intro w hSw
              (try dsimp only at hSw)
              go_simp
              first | done | with_reducible rfl
            show wpAnyH _ _ _ _ _ _ _ (Act.put _ (some 81) _) _
            try simp only [Act.put, List.setIfInBounds_toArray, List.set_cons_zero, List.set_cons_succ]
            refine wpAnyH_take (i := 1) (v := ?_) rfl (by kernel_rfl) (by kernel_rfl) (by kernel_rfl) (fun _ _ _ h => h) (Or.inl ⟨by rfl, ?_⟩) (by assumption) ?_
            rotate_left
            · intro w hSw
              (try dsimp only at hSw)
              go_simp
              first | done | with_reducible rfl
            show wpAnyH _ _ _ _ _ _ _ (Act.put _ (some 82) _) _
            try simp only [Act.put, List.setIfInBounds_toArray, List.set_cons_zero, List.set_cons_succ]
            refine wpAnyH_take (i := 2) (v := ?_) rfl (by kernel_rfl) (by kernel_rfl) (by kernel_rfl) (fun _ _ _ h => h) (Or.inl ⟨by rfl, ?_⟩) (by assumption) ?_
            rotate_left
            · intro w hSw
              (try dsimp only at hSw)
              go_simp
              first | done | with_reducible rfl
            show wpAnyH _ _ _ _ _ _ _ (Act.put _ (some 83) _) _
            try simp only [Act.put, List.setIfInBounds_toArray, List.set_cons_zero, List.set_cons_succ]
            refine wpAnyH_take (i := 4) (v := ?_) rfl (by kernel_rfl) (by kernel_rfl) (by kernel_rfl) (fun _ _ _ h => h) (Or.inl ⟨by rfl, ?_⟩) (by assumption) ?_
            rotate_left
            · intro w hSw
              (try dsimp only at hSw)
              go_simp
              first | done | with_reducible rfl
            show wpAnyH _ _ _ _ _ _ _ (Act.put _ (some 85) _) _
            try simp only [Act.put, List.setIfInBounds_toArray, List.set_cons_zero, List.set_cons_succ]
            refine wpAnyH_take (i := 5) (v := ?_) rfl (by kernel_rfl) (by kernel_rfl) (by kernel_rfl) (fun _ _ _ h => h) (Or.inl ⟨by rfl, ?_⟩) (by assumption) ?_
            rotate_left
            · intro w hSw
              (try dsimp only at hSw)
              go_simp
              first | done | with_reducible rfl
            show wpAnyH _ _ _ _ _ _ _ (Act.put _ (some 86) _) _
            try simp only [Act.put, List.setIfInBounds_toArray, List.set_cons_zero, List.set_cons_succ]
            refine wpAnyH_take (i := 6) (v := ?_) rfl (by kernel_rfl) (by kernel_rfl) (by kernel_rfl) (fun _ _ _ h => h) (Or.inl ⟨by rfl, ?_⟩) (by assumption) ?_
            rotate_left
            · intro w hSw
              (try dsimp only at hSw)
              go_simp
              first | done | with_reducible rfl
            show wpAnyH _ _ _ _ _ _ _ (Act.put _ (some 87) _) _
            try simp only [Act.put, List.setIfInBounds_toArray, List.set_cons_zero, List.set_cons_succ]
            refine wpAnyH_take (i := 7) (v := ?_) rfl (by kernel_rfl) (by kernel_rfl) (by kernel_rfl) (fun _ _ _ h => h) (Or.inl ⟨by rfl, ?_⟩) (by assumption) ?_
            rotate_left
            · intro w hSw
              (try dsimp only at hSw)
              go_simp
              first | done | with_reducible rfl
            show wpAnyH _ _ _ _ _ _ _ (Act.put _ (some 88) _) _
            try simp only [Act.put, List.setIfInBounds_toArray, List.set_cons_zero, List.set_cons_succ]
            refine wpAnyH_ready (rs := [3]) (by kernel_rfl) (by simp) ?_
            refine (AllReadyH.cons rfl (fun K hK => ?_) AllReadyH.nil)
            go_simp
            go_at_call 20
            refine (RM.out _ HR0.out).mono ?_
            rintro e w7 ⟨rfl, rfl⟩
            go_wp2_with fail
            have hSd := hHeld
            clear hHeld
            refine hK.out _ _ hSd (fun hHeld => ?_)
            clear hK K hSd
            try simp only [Act.put, List.setIfInBounds_toArray, List.set_cons_zero, List.set_cons_succ]
            refine wpAnyH_take (i := 8) (v := ?_) rfl (by kernel_rfl) (by kernel_rfl) (by kernel_rfl) (fun _ _ _ h => h) (Or.inl ⟨by rfl, ?_⟩) (by assumption) ?_
            rotate_left
            · intro w hSw
              (try dsimp only at hSw)
              go_simp
              first | done | with_reducible rfl
            show wpAnyH _ _ _ _ _ _ _ (Act.put _ (some 89) _) _
            try simp only [Act.put, List.setIfInBounds_toArray, List.set_cons_zero, List.set_cons_succ]
            refine wpAnyH_take (i := 9) (v := ?_) rfl (by kernel_rfl) (by kernel_rfl) (by kernel_rfl) (fun _ _ _ h => h) (Or.inl ⟨by rfl, ?_⟩) (by assumption) ?_
            rotate_left
            · intro w hSw
              (try dsimp only at hSw)
              go_simp
              first | done | with_reducible rfl
            show wpAnyH _ _ _ _ _ _ _ (Act.put _ (some 90) _) _
            try simp only [Act.put, List.setIfInBounds_toArray, List.set_cons_zero, List.set_cons_succ]
            refine wpAnyH_take (i := 10) (v := ?_) rfl (by kernel_rfl) (by kernel_rfl) (by kernel_rfl) (fun _ _ _ h => h) (Or.inl ⟨by rfl, ?_⟩) (by assumption) ?_
            rotate_left
            · intro w hSw
              (try dsimp only at hSw)
              go_simp
              first | done | with_reducible rfl
            show wpAnyH _ _ _ _ _ _ _ (Act.put _ (some 91) _) _
            try simp only [Act.put, List.setIfInBounds_toArray, List.set_cons_zero, List.set_cons_succ]
            refine wpAnyH_take (i := 11) (v := ?_) rfl (by kernel_rfl) (by kernel_rfl) (by kernel_rfl) (fun _ _ _ h => h) (Or.inl ⟨by rfl, ?_⟩) (by assumption) ?_
            rotate_left
            · intro w hSw
              (try dsimp only at hSw)
              go_simp
              first | done | with_reducible rfl
            show wpAnyH _ _ _ _ _ _ _ (Act.put _ (some 92) _) _
            try simp only [Act.put, List.setIfInBounds_toArray, List.set_cons_zero, List.set_cons_succ]
            refine wpAnyH_take (i := 12) (v := ?_) rfl (by kernel_rfl) (by kernel_rfl) (by kernel_rfl) (fun _ _ _ h => h) (Or.inl ⟨by rfl, ?_⟩) (by assumption) ?_
            rotate_left
            · intro w hSw
              (try dsimp only at hSw)
              go_simp
              first | done | with_reducible rfl
            show wpAnyH _ _ _ _ _ _ _ (Act.put _ (some 93) _) _
            try simp only [Act.put, List.setIfInBounds_toArray, List.set_cons_zero, List.set_cons_succ]
            refine wpAnyH_take (i := 13) (v := ?_) rfl (by kernel_rfl) (by kernel_rfl) (by kernel_rfl) (fun _ _ _ h => h) (Or.inl ⟨by rfl, ?_⟩) (by assumption) ?_
            rotate_left
            · intro w hSw
              (try dsimp only at hSw)
              go_simp
              first | done | with_reducible rfl
            show wpAnyH _ _ _ _ _ _ _ (Act.put _ (some 94) _) _
            try simp only [Act.put, List.setIfInBounds_toArray, List.set_cons_zero, List.set_cons_succ]
            refine wpAnyH_take (i := 14) (v := ?_) rfl (by kernel_rfl) (by kernel_rfl) (by kernel_rfl) (fun _ _ _ h => h) (Or.inl ⟨by rfl, ?_⟩) (by assumption) ?_
            rotate_left
            · intro w hSw
              (try dsimp only at hSw)
              go_simp
              first | done | with_reducible rfl
            show wpAnyH _ _ _ _ _ _ _ (Act.put _ (some 95) _) _
            try simp only [Act.put, List.setIfInBounds_toArray, List.set_cons_zero, List.set_cons_succ]
            refine wpAnyH_take (i := 15) (v := ?_) rfl (by kernel_rfl) (by kernel_rfl) (by kernel_rfl) (fun _ _ _ h => h) (Or.inl ⟨by rfl, ?_⟩) (by assumption) ?_
            rotate_left
            · intro w hSw
              (try dsimp only at hSw)
              go_simp
              first | done | with_reducible rfl
            show wpAnyH _ _ _ _ _ _ _ (Act.put _ (some 96) _) _
            try simp only [Act.put, List.setIfInBounds_toArray, List.set_cons_zero, List.set_cons_succ]
            refine wpAnyH_take (i := 16) (v := ?_) rfl (by kernel_rfl) (by kernel_rfl) (by kernel_rfl) (fun _ _ _ h => h) (Or.inl ⟨by rfl, ?_⟩) (by assumption) ?_
            rotate_left
            · intro w hSw
              (try dsimp only at hSw)
              go_simp
              first | done | with_reducible rfl
            show wpAnyH _ _ _ _ _ _ _ (Act.put _ (some 97) _) _
            try simp only [Act.put, List.setIfInBounds_toArray, List.set_cons_zero, List.set_cons_succ]
            refine wpAnyH_ready (rs := [17]) (by kernel_rfl) (by simp) ?_
            refine (AllReadyH.cons rfl (fun K hK => ?_) AllReadyH.nil)
            go_simp
            go_at_call 21
            refine (KM.out _ HR0.out).mono ?_
            rintro e w7 ⟨va, vc, rfl, hb7⟩
            have hb7 := HR0.out.trans (hb7.mono HR0.out.size)
            have hSd := HSS.out w7 hb7
            have HB7 := Lib.hid hb7
            go_wp2_with fail
            clear hHeld hb7
            refine hK.out _ _ hSd (fun hHeld => ?_)
            clear hK K hSd
            try simp only [Act.put, List.setIfInBounds_toArray, List.set_cons_zero, List.set_cons_succ]
            refine wpAnyH_take (i := 18) (v := ?_) rfl (by kernel_rfl) (by kernel_rfl) (by kernel_rfl) (fun _ _ _ h => h) (Or.inl ⟨by rfl, ?_⟩) (by assumption) ?_
            rotate_left
            · intro w hSw
              (try dsimp only at hSw)
              go_simp
              first | done | with_reducible rfl
            show wpAnyH _ _ _ _ _ _ _ (Act.put _ (some 99) _) _
            try simp only [Act.put, List.setIfInBounds_toArray, List.set_cons_zero, List.set_cons_succ]
            refine wpAnyH_take (i := 19) (v := ?_) rfl (by kernel_rfl) (by kernel_rfl) (by kernel_rfl) (fun _ _ _ h => h) (Or.inl ⟨by rfl, ?_⟩) (by assumption) ?_
            rotate_left
            · intro w hSw
              (try dsimp only at hSw)
              go_simp
              first | done | with_reducible rfl
            show wpAnyH _ _ _ _ _ _ _ (Act.put _ (some 100) _) _
            try simp only [Act.put, List.setIfInBounds_toArray, List.set_cons_zero, List.set_cons_succ]
            refine wpAnyH_take (i := 20) (v := ?_) rfl (by kernel_rfl) (by kernel_rfl) (by kernel_rfl) (fun _ _ _ h => h) (Or.inl ⟨by rfl, ?_⟩) (by assumption) ?_
            rotate_left
            · intro w hSw
              (try dsimp only at hSw)
              go_simp
              first | done | with_reducible rfl
            show wpAnyH _ _ _ _ _ _ _ (Act.put _ (some 101) _) _
            try simp only [Act.put, List.setIfInBounds_toArray, List.set_cons_zero, List.set_cons_succ]
            refine wpAnyH_take (i := 21) (v := ?_) rfl (by kernel_rfl) (by kernel_rfl) (by kernel_rfl) (fun _ _ _ h => h) (Or.inl ⟨by rfl, ?_⟩) (by assumption) ?_
            rotate_left
            · intro w hSw
              (try dsimp only at hSw)
              go_simp
              first | done | with_reducible rfl
            show wpAnyH _ _ _ _ _ _ _ (Act.put _ (some 102) _) _
            try simp only [Act.put, List.setIfInBounds_toArray, List.set_cons_zero, List.set_cons_succ]
            refine wpAnyH_take (i := 22) (v := ?_) rfl (by kernel_rfl) (by kernel_rfl) (by kernel_rfl) (fun _ _ _ h => h) (Or.inl ⟨by rfl, ?_⟩) (by assumption) ?_
            rotate_left
            · intro w hSw
              (try dsimp only at hSw)
              go_simp
              first | done | with_reducible rfl
            show wpAnyH _ _ _ _ _ _ _ (Act.put _ (some 103) _) _
            try simp only [Act.put, List.setIfInBounds_toArray, List.set_cons_zero, List.set_cons_succ]
            refine wpAnyH_take (i := 23) (v := ?_) rfl (by kernel_rfl) (by kernel_rfl) (by kernel_rfl) (fun _ _ _ h => h) (Or.inl ⟨by rfl, ?_⟩) (by assumption) ?_
            rotate_left
            · intro w hSw
              (try dsimp only at hSw)
              go_simp
              first | done | with_reducible rfl
            show wpAnyH _ _ _ _ _ _ _ (Act.put _ (some 104) _) _
            try simp only [Act.put, List.setIfInBounds_toArray, List.set_cons_zero, List.set_cons_succ]
            refine wpAnyH_take (i := 24) (v := ?_) rfl (by kernel_rfl) (by kernel_rfl) (by kernel_rfl) (fun _ _ _ h => h) (Or.inl ⟨by rfl, ?_⟩) (by assumption) ?_
            rotate_left
            · intro w hSw
              (try dsimp only at hSw)
              go_simp
              first | done | with_reducible rfl
            show wpAnyH _ _ _ _ _ _ _ (Act.put _ (some 105) _) _
            try simp only [Act.put, List.setIfInBounds_toArray, List.set_cons_zero, List.set_cons_succ]
            refine wpAnyH_take (i := 25) (v := ?_) rfl (by kernel_rfl) (by kernel_rfl) (by kernel_rfl) (fun _ _ _ h => h) (Or.inl ⟨by rfl, ?_⟩) (by assumption) ?_
            rotate_left
            · intro w hSw
              (try dsimp only at hSw)
              go_simp
              first | done | with_reducible rfl
            show wpAnyH _ _ _ _ _ _ _ (Act.put _ (some 106) _) _
            try simp only [Act.put, List.setIfInBounds_toArray, List.set_cons_zero, List.set_cons_succ]
            refine wpAnyH_take (i := 26) (v := undef) rfl (by kernel_rfl) (by kernel_rfl) (by kernel_rfl) (fun _ _ _ h => h) (Or.inr ⟨by rfl, rfl⟩) (by assumption) ?_
            show wpAnyH _ _ _ _ _ _ _ (Act.put _ (some 107) undef) _
            try simp only [Act.put, List.setIfInBounds_toArray, List.set_cons_zero, List.set_cons_succ]
            refine wpAnyH_take (i := 27) (v := undef) rfl (by kernel_rfl) (by kernel_rfl) (by kernel_rfl) (fun _ _ _ h => h) (Or.inr ⟨by rfl, rfl⟩) (by assumption) ?_
            show wpAnyH _ _ _ _ _ _ _ (Act.put _ (some 108) undef) _
            try simp only [Act.put, List.setIfInBounds_toArray, List.set_cons_zero, List.set_cons_succ]
            refine wpAnyH_take (i := 28) (v := undef) rfl (by kernel_rfl) (by kernel_rfl) (by kernel_rfl) (fun _ _ _ h => h) (Or.inr ⟨by rfl, rfl⟩) (by assumption) ?_
            show wpAnyH _ _ _ _ _ _ _ (Act.put _ (some 109) undef) _
            try simp only [Act.put, List.setIfInBounds_toArray, List.set_cons_zero, List.set_cons_succ]
            refine wpAnyH_take (i := 29) (v := undef) rfl (by kernel_rfl) (by kernel_rfl) (by kernel_rfl) (fun _ _ _ h => h) (Or.inr ⟨by rfl, rfl⟩) (by assumption) ?_
            show wpAnyH _ _ _ _ _ _ _ (Act.put _ (some 110) undef) _
            try simp only [Act.put, List.setIfInBounds_toArray, List.set_cons_zero, List.set_cons_succ]
            refine wpAnyH_take (i := 30) (v := undef) rfl (by kernel_rfl) (by kernel_rfl) (by kernel_rfl) (fun _ _ _ h => h) (Or.inr ⟨by rfl, rfl⟩) (by assumption) ?_
            show wpAnyH _ _ _ _ _ _ _ (Act.put _ (some 111) undef) _
            try simp only [Act.put, List.setIfInBounds_toArray, List.set_cons_zero, List.set_cons_succ]
            refine wpAnyH_take (i := 31) (v := undef) rfl (by kernel_rfl) (by kernel_rfl) (by kernel_rfl) (fun _ _ _ h => h) (Or.inr ⟨by rfl, rfl⟩) (by assumption) ?_
            show wpAnyH _ _ _ _ _ _ _ (Act.put _ (some 112) undef) _
            try simp only [Act.put, List.setIfInBounds_toArray, List.set_cons_zero, List.set_cons_succ]
            refine wpAnyH_take (i := 32) (v := undef) rfl (by kernel_rfl) (by kernel_rfl) (by kernel_rfl) (fun _ _ _ h => h) (Or.inr ⟨by rfl, rfl⟩) (by assumption) ?_
            show wpAnyH _ _ _ _ _ _ _ (Act.put _ (some 113) undef) _
            try simp only [Act.put, List.setIfInBounds_toArray, List.set_cons_zero, List.set_cons_succ]
            refine wpAnyH_take (i := 33) (v := ?_) rfl (by kernel_rfl) (by kernel_rfl) (by kernel_rfl) (fun _ _ _ h => h) (Or.inl ⟨by rfl, ?_⟩) (by assumption) ?_
            rotate_left
            · intro w hSw
              (try dsimp only at hSw)
              go_simp
              first | done | with_reducible rfl
            show wpAnyH _ _ _ _ _ _ _ (Act.put _ (some 114) _) _
            try simp only [Act.put, List.setIfInBounds_toArray, List.set_cons_zero, List.set_cons_succ]
            refine wpAnyH_take (i := 34) (v := ?_) rfl (by kernel_rfl) (by kernel_rfl) (by kernel_rfl) (fun _ _ _ h => h) (Or.inl ⟨by rfl, ?_⟩) (by assumption) ?_
            rotate_left
            · intro w hSw
              (try dsimp only at hSw)
              go_simp
              first | done | with_reducible rfl
            show wpAnyH _ _ _ _ _ _ _ (Act.put _ (some 115) _) _
            try simp only [Act.put, List.setIfInBounds_toArray, List.set_cons_zero, List.set_cons_succ]
            refine wpAnyH_take (i := 35) (v := ?_) rfl (by kernel_rfl) (by kernel_rfl) (by kernel_rfl) (fun _ _ _ h => h) (Or.inl ⟨by rfl, ?_⟩) (by assumption) ?_
            rotate_left
            · intro w hSw
              (try dsimp only at hSw)
              go_simp
              first | done | with_reducible rfl
            show wpAnyH _ _ _ _ _ _ _ (Act.put _ (some 116) _) _
            try simp only [Act.put, List.setIfInBounds_toArray, List.set_cons_zero, List.set_cons_succ]
            refine wpAnyH_take (i := 36) (v := ?_) rfl (by kernel_rfl) (by kernel_rfl) (by kernel_rfl) (fun _ _ _ h => h) (Or.inl ⟨by rfl, ?_⟩) (by assumption) ?_
            rotate_left
            · intro w hSw
              (try dsimp only at hSw)
              go_simp
              first | done | with_reducible rfl
            show wpAnyH _ _ _ _ _ _ _ (Act.put _ (some 117) _) _
            try simp only [Act.put, List.setIfInBounds_toArray, List.set_cons_zero, List.set_cons_succ]
            refine wpAnyH_done (by kernel_rfl) ?_ _
            go_wp2_with fail
            go_roundw
            case rel => exact ⟨j + 1, HJL.out, by go_num, HBRR.out.trans (HB7.out.mono HBRR.out.size), by rw [HB7.out.block _ HGL.out]; exact HROW.out⟩
            case measure => simp [intOf]; omega
          | true =>
            rw [hbv] at hd s0
            obtain ⟨K, hK⟩ := Option.isSome_iff_exists.1 hd
            have hKl : K.length = sN := by have := (HFLOW.out.1.len j K hK).2; have := HSN.out; omega
            have km : ∀ u, Below wr.heap.size wr u → Calls Try.prog 21 #[.pointer (some ⟨mb, 0, none⟩), .int .i64 k, .int .i64 j] u fun e w' => ∃ va vc, e = .returned (.slice va sN vc) ∧ Below u.heap.size u w' := fun u h => by
              refine (kindsM_any u _ mb b nm V _ (hmaps.below h) k j hI HCL.out).mono ?_
              rintro e w' ⟨v, rfl, ho, hb⟩
              rw [hat, hK] at ho
              obtain ⟨va, vc, rfl, _⟩ := own_int ho
              exact ⟨va, vc, by rw [← hKl]; rfl, hb⟩
            simp only [hat, hK] at rm
            have rm : ∀ u, Below wr.heap.size wr u → Calls Try.prog 20 #[.pointer (some ⟨mb, 0, none⟩), .int .i64 k, .int .i64 j] u fun e w' => e = .returned (.bool true) ∧ u = w' := rm
            have hHG2 := HG2
            clear HG2
            by_cases h0 : sN = 0
            · subst h0
              have s2 : wr.cell? ⟨bb, o + k * 5 + 2, none⟩ = some (.int .i64 0) := s2
              have hS : ∀ u, Below wr.heap.size wr u → u.cell? ⟨g, j, none⟩ = some (.bool true) ∧ u.cell? ⟨w.heap.size, 2, none⟩ = some (.slice (some ⟨bb, o, none⟩) p.funcs.length m2) ∧ u.cell? ⟨bb, o + k * 5 + 2, none⟩ = some (.int .i64 0) := fun u h => ⟨below_cell h s0, below_cell h s1, below_cell h s2⟩
              have HSS := Lib.hid hS
              have HR0 := Lib.hid hR0
              have HGL := Lib.hid hgl
              have HROW := Lib.hid hrow
              have HBRR := Lib.hid hbr
              have HJL := Lib.hid hjl
              have RM := Lib.hid rm
              have KM := Lib.hid km
              clear hS hR0 hgl hrow hbr hjl rm km hat hd hmaps hI hbo hbY hjI hbv
              go_upto_region 22 with fail
              have hSd : wr.drew.cell? ⟨g, j, none⟩ = some (.bool true) ∧ wr.drew.cell? ⟨w.heap.size, 2, none⟩ = some (.slice (some ⟨bb, o, none⟩) p.funcs.length m2) ∧ wr.drew.cell? ⟨bb, o + k * 5 + 2, none⟩ = some (.int .i64 0) := HSS.out wr.drew HR0.out
              clear s0 s1 s2
              refine wp_region_held_drew (S := fun w' => w'.cell? ⟨g, j, none⟩ = some (.bool true) ∧ w'.cell? ⟨w.heap.size, 2, none⟩ = some (.slice (some ⟨bb, o, none⟩) p.funcs.length m2) ∧ w'.cell? ⟨bb, o + k * 5 + 2, none⟩ = some (.int .i64 0)) (by kernel_rfl) hSd (fun hHeld => ?_)
              clear hSd
              refine wpAnyH_take (i := 0) (v := ?_) rfl (by kernel_rfl) (by kernel_rfl) (by kernel_rfl) (fun _ _ _ h => h) (Or.inl ⟨by rfl, ?_⟩) (by assumption) ?_
              rotate_left
              · intro w hSw
                (try dsimp only at hSw)
                go_simp
                first | done | with_reducible rfl
              show wpAnyH _ _ _ _ _ _ _ (Act.put _ (some 81) _) _
              try simp only [Act.put, List.setIfInBounds_toArray, List.set_cons_zero, List.set_cons_succ]
              refine wpAnyH_take (i := 1) (v := ?_) rfl (by kernel_rfl) (by kernel_rfl) (by kernel_rfl) (fun _ _ _ h => h) (Or.inl ⟨by rfl, ?_⟩) (by assumption) ?_
              rotate_left
              · intro w hSw
                (try dsimp only at hSw)
                go_simp
                first | done | with_reducible rfl
              show wpAnyH _ _ _ _ _ _ _ (Act.put _ (some 82) _) _
              try simp only [Act.put, List.setIfInBounds_toArray, List.set_cons_zero, List.set_cons_succ]
              refine wpAnyH_take (i := 2) (v := ?_) rfl (by kernel_rfl) (by kernel_rfl) (by kernel_rfl) (fun _ _ _ h => h) (Or.inl ⟨by rfl, ?_⟩) (by assumption) ?_
              rotate_left
              · intro w hSw
                (try dsimp only at hSw)
                go_simp
                first | done | with_reducible rfl
              show wpAnyH _ _ _ _ _ _ _ (Act.put _ (some 83) _) _
              try simp only [Act.put, List.setIfInBounds_toArray, List.set_cons_zero, List.set_cons_succ]
              refine wpAnyH_take (i := 4) (v := ?_) rfl (by kernel_rfl) (by kernel_rfl) (by kernel_rfl) (fun _ _ _ h => h) (Or.inl ⟨by rfl, ?_⟩) (by assumption) ?_
              rotate_left
              · intro w hSw
                (try dsimp only at hSw)
                go_simp
                first | done | with_reducible rfl
              show wpAnyH _ _ _ _ _ _ _ (Act.put _ (some 85) _) _
              try simp only [Act.put, List.setIfInBounds_toArray, List.set_cons_zero, List.set_cons_succ]
              refine wpAnyH_take (i := 5) (v := ?_) rfl (by kernel_rfl) (by kernel_rfl) (by kernel_rfl) (fun _ _ _ h => h) (Or.inl ⟨by rfl, ?_⟩) (by assumption) ?_
              rotate_left
              · intro w hSw
                (try dsimp only at hSw)
                go_simp
                first | done | with_reducible rfl
              show wpAnyH _ _ _ _ _ _ _ (Act.put _ (some 86) _) _
              try simp only [Act.put, List.setIfInBounds_toArray, List.set_cons_zero, List.set_cons_succ]
              refine wpAnyH_take (i := 6) (v := ?_) rfl (by kernel_rfl) (by kernel_rfl) (by kernel_rfl) (fun _ _ _ h => h) (Or.inl ⟨by rfl, ?_⟩) (by assumption) ?_
              rotate_left
              · intro w hSw
                (try dsimp only at hSw)
                go_simp
                first | done | with_reducible rfl
              show wpAnyH _ _ _ _ _ _ _ (Act.put _ (some 87) _) _
              try simp only [Act.put, List.setIfInBounds_toArray, List.set_cons_zero, List.set_cons_succ]
              refine wpAnyH_take (i := 7) (v := ?_) rfl (by kernel_rfl) (by kernel_rfl) (by kernel_rfl) (fun _ _ _ h => h) (Or.inl ⟨by rfl, ?_⟩) (by assumption) ?_
              rotate_left
              · intro w hSw
                (try dsimp only at hSw)
                go_simp
                first | done | with_reducible rfl
              show wpAnyH _ _ _ _ _ _ _ (Act.put _ (some 88) _) _
              try simp only [Act.put, List.setIfInBounds_toArray, List.set_cons_zero, List.set_cons_succ]
              refine wpAnyH_ready (rs := [3]) (by kernel_rfl) (by simp) ?_
              refine (AllReadyH.cons rfl (fun K hK => ?_) AllReadyH.nil)
              go_simp
              go_at_call 20
              refine (RM.out _ HR0.out).mono ?_
              rintro e w7 ⟨rfl, rfl⟩
              go_wp2_with fail
              have hSd := hHeld
              clear hHeld
              refine hK.out _ _ hSd (fun hHeld => ?_)
              clear hK K hSd
              try simp only [Act.put, List.setIfInBounds_toArray, List.set_cons_zero, List.set_cons_succ]
              refine wpAnyH_take (i := 8) (v := ?_) rfl (by kernel_rfl) (by kernel_rfl) (by kernel_rfl) (fun _ _ _ h => h) (Or.inl ⟨by rfl, ?_⟩) (by assumption) ?_
              rotate_left
              · intro w hSw
                (try dsimp only at hSw)
                go_simp
                first | done | with_reducible rfl
              show wpAnyH _ _ _ _ _ _ _ (Act.put _ (some 89) _) _
              try simp only [Act.put, List.setIfInBounds_toArray, List.set_cons_zero, List.set_cons_succ]
              refine wpAnyH_take (i := 9) (v := ?_) rfl (by kernel_rfl) (by kernel_rfl) (by kernel_rfl) (fun _ _ _ h => h) (Or.inl ⟨by rfl, ?_⟩) (by assumption) ?_
              rotate_left
              · intro w hSw
                (try dsimp only at hSw)
                go_simp
                first | done | with_reducible rfl
              show wpAnyH _ _ _ _ _ _ _ (Act.put _ (some 90) _) _
              try simp only [Act.put, List.setIfInBounds_toArray, List.set_cons_zero, List.set_cons_succ]
              refine wpAnyH_take (i := 10) (v := ?_) rfl (by kernel_rfl) (by kernel_rfl) (by kernel_rfl) (fun _ _ _ h => h) (Or.inl ⟨by rfl, ?_⟩) (by assumption) ?_
              rotate_left
              · intro w hSw
                (try dsimp only at hSw)
                go_simp
                first | done | with_reducible rfl
              show wpAnyH _ _ _ _ _ _ _ (Act.put _ (some 91) _) _
              try simp only [Act.put, List.setIfInBounds_toArray, List.set_cons_zero, List.set_cons_succ]
              refine wpAnyH_take (i := 11) (v := ?_) rfl (by kernel_rfl) (by kernel_rfl) (by kernel_rfl) (fun _ _ _ h => h) (Or.inl ⟨by rfl, ?_⟩) (by assumption) ?_
              rotate_left
              · intro w hSw
                (try dsimp only at hSw)
                go_simp
                first | done | with_reducible rfl
              show wpAnyH _ _ _ _ _ _ _ (Act.put _ (some 92) _) _
              try simp only [Act.put, List.setIfInBounds_toArray, List.set_cons_zero, List.set_cons_succ]
              refine wpAnyH_take (i := 12) (v := ?_) rfl (by kernel_rfl) (by kernel_rfl) (by kernel_rfl) (fun _ _ _ h => h) (Or.inl ⟨by rfl, ?_⟩) (by assumption) ?_
              rotate_left
              · intro w hSw
                (try dsimp only at hSw)
                go_simp
                first | done | with_reducible rfl
              show wpAnyH _ _ _ _ _ _ _ (Act.put _ (some 93) _) _
              try simp only [Act.put, List.setIfInBounds_toArray, List.set_cons_zero, List.set_cons_succ]
              refine wpAnyH_take (i := 13) (v := ?_) rfl (by kernel_rfl) (by kernel_rfl) (by kernel_rfl) (fun _ _ _ h => h) (Or.inl ⟨by rfl, ?_⟩) (by assumption) ?_
              rotate_left
              · intro w hSw
                (try dsimp only at hSw)
                go_simp
                first | done | with_reducible rfl
              show wpAnyH _ _ _ _ _ _ _ (Act.put _ (some 94) _) _
              try simp only [Act.put, List.setIfInBounds_toArray, List.set_cons_zero, List.set_cons_succ]
              refine wpAnyH_take (i := 14) (v := ?_) rfl (by kernel_rfl) (by kernel_rfl) (by kernel_rfl) (fun _ _ _ h => h) (Or.inl ⟨by rfl, ?_⟩) (by assumption) ?_
              rotate_left
              · intro w hSw
                (try dsimp only at hSw)
                go_simp
                first | done | with_reducible rfl
              show wpAnyH _ _ _ _ _ _ _ (Act.put _ (some 95) _) _
              try simp only [Act.put, List.setIfInBounds_toArray, List.set_cons_zero, List.set_cons_succ]
              refine wpAnyH_take (i := 15) (v := ?_) rfl (by kernel_rfl) (by kernel_rfl) (by kernel_rfl) (fun _ _ _ h => h) (Or.inl ⟨by rfl, ?_⟩) (by assumption) ?_
              rotate_left
              · intro w hSw
                (try dsimp only at hSw)
                go_simp
                first | done | with_reducible rfl
              show wpAnyH _ _ _ _ _ _ _ (Act.put _ (some 96) _) _
              try simp only [Act.put, List.setIfInBounds_toArray, List.set_cons_zero, List.set_cons_succ]
              refine wpAnyH_take (i := 16) (v := ?_) rfl (by kernel_rfl) (by kernel_rfl) (by kernel_rfl) (fun _ _ _ h => h) (Or.inl ⟨by rfl, ?_⟩) (by assumption) ?_
              rotate_left
              · intro w hSw
                (try dsimp only at hSw)
                go_simp
                first | done | with_reducible rfl
              show wpAnyH _ _ _ _ _ _ _ (Act.put _ (some 97) _) _
              try simp only [Act.put, List.setIfInBounds_toArray, List.set_cons_zero, List.set_cons_succ]
              refine wpAnyH_ready (rs := [17]) (by kernel_rfl) (by simp) ?_
              refine (AllReadyH.cons rfl (fun K hK => ?_) AllReadyH.nil)
              go_simp
              go_at_call 21
              refine (KM.out _ HR0.out).mono ?_
              rintro e w7 ⟨va, vc, rfl, hb7⟩
              have hb7 := HR0.out.trans (hb7.mono HR0.out.size)
              have hSd := HSS.out w7 hb7
              have HB7 := Lib.hid hb7
              go_wp2_with fail
              clear hHeld hb7
              refine hK.out _ _ hSd (fun hHeld => ?_)
              clear hK K hSd
              try simp only [Act.put, List.setIfInBounds_toArray, List.set_cons_zero, List.set_cons_succ]
              refine wpAnyH_take (i := 18) (v := ?_) rfl (by kernel_rfl) (by kernel_rfl) (by kernel_rfl) (fun _ _ _ h => h) (Or.inl ⟨by rfl, ?_⟩) (by assumption) ?_
              rotate_left
              · intro w hSw
                (try dsimp only at hSw)
                go_simp
                first | done | with_reducible rfl
              show wpAnyH _ _ _ _ _ _ _ (Act.put _ (some 99) _) _
              try simp only [Act.put, List.setIfInBounds_toArray, List.set_cons_zero, List.set_cons_succ]
              refine wpAnyH_take (i := 19) (v := ?_) rfl (by kernel_rfl) (by kernel_rfl) (by kernel_rfl) (fun _ _ _ h => h) (Or.inl ⟨by rfl, ?_⟩) (by assumption) ?_
              rotate_left
              · intro w hSw
                (try dsimp only at hSw)
                go_simp
                first | done | with_reducible rfl
              show wpAnyH _ _ _ _ _ _ _ (Act.put _ (some 100) _) _
              try simp only [Act.put, List.setIfInBounds_toArray, List.set_cons_zero, List.set_cons_succ]
              refine wpAnyH_take (i := 20) (v := ?_) rfl (by kernel_rfl) (by kernel_rfl) (by kernel_rfl) (fun _ _ _ h => h) (Or.inl ⟨by rfl, ?_⟩) (by assumption) ?_
              rotate_left
              · intro w hSw
                (try dsimp only at hSw)
                go_simp
                first | done | with_reducible rfl
              show wpAnyH _ _ _ _ _ _ _ (Act.put _ (some 101) _) _
              try simp only [Act.put, List.setIfInBounds_toArray, List.set_cons_zero, List.set_cons_succ]
              refine wpAnyH_take (i := 21) (v := ?_) rfl (by kernel_rfl) (by kernel_rfl) (by kernel_rfl) (fun _ _ _ h => h) (Or.inl ⟨by rfl, ?_⟩) (by assumption) ?_
              rotate_left
              · intro w hSw
                (try dsimp only at hSw)
                go_simp
                first | done | with_reducible rfl
              show wpAnyH _ _ _ _ _ _ _ (Act.put _ (some 102) _) _
              try simp only [Act.put, List.setIfInBounds_toArray, List.set_cons_zero, List.set_cons_succ]
              refine wpAnyH_take (i := 22) (v := ?_) rfl (by kernel_rfl) (by kernel_rfl) (by kernel_rfl) (fun _ _ _ h => h) (Or.inl ⟨by rfl, ?_⟩) (by assumption) ?_
              rotate_left
              · intro w hSw
                (try dsimp only at hSw)
                go_simp
                first | done | with_reducible rfl
              show wpAnyH _ _ _ _ _ _ _ (Act.put _ (some 103) _) _
              try simp only [Act.put, List.setIfInBounds_toArray, List.set_cons_zero, List.set_cons_succ]
              refine wpAnyH_take (i := 23) (v := ?_) rfl (by kernel_rfl) (by kernel_rfl) (by kernel_rfl) (fun _ _ _ h => h) (Or.inl ⟨by rfl, ?_⟩) (by assumption) ?_
              rotate_left
              · intro w hSw
                (try dsimp only at hSw)
                go_simp
                first | done | with_reducible rfl
              show wpAnyH _ _ _ _ _ _ _ (Act.put _ (some 104) _) _
              try simp only [Act.put, List.setIfInBounds_toArray, List.set_cons_zero, List.set_cons_succ]
              refine wpAnyH_take (i := 24) (v := ?_) rfl (by kernel_rfl) (by kernel_rfl) (by kernel_rfl) (fun _ _ _ h => h) (Or.inl ⟨by rfl, ?_⟩) (by assumption) ?_
              rotate_left
              · intro w hSw
                (try dsimp only at hSw)
                go_simp
                first | done | with_reducible rfl
              show wpAnyH _ _ _ _ _ _ _ (Act.put _ (some 105) _) _
              try simp only [Act.put, List.setIfInBounds_toArray, List.set_cons_zero, List.set_cons_succ]
              refine wpAnyH_take (i := 25) (v := ?_) rfl (by kernel_rfl) (by kernel_rfl) (by kernel_rfl) (fun _ _ _ h => h) (Or.inl ⟨by rfl, ?_⟩) (by assumption) ?_
              rotate_left
              · intro w hSw
                (try dsimp only at hSw)
                go_simp
                first | done | with_reducible rfl
              show wpAnyH _ _ _ _ _ _ _ (Act.put _ (some 106) _) _
              try simp only [Act.put, List.setIfInBounds_toArray, List.set_cons_zero, List.set_cons_succ]
              refine wpAnyH_take (i := 26) (v := ?_) rfl (by kernel_rfl) (by kernel_rfl) (by kernel_rfl) (fun _ _ _ h => h) (Or.inl ⟨by rfl, ?_⟩) (by assumption) ?_
              rotate_left
              · intro w hSw
                (try dsimp only at hSw)
                go_simp
                first | done | with_reducible rfl
              show wpAnyH _ _ _ _ _ _ _ (Act.put _ (some 107) _) _
              try simp only [Act.put, List.setIfInBounds_toArray, List.set_cons_zero, List.set_cons_succ]
              refine wpAnyH_take (i := 27) (v := ?_) rfl (by kernel_rfl) (by kernel_rfl) (by kernel_rfl) (fun _ _ _ h => h) (Or.inl ⟨by rfl, ?_⟩) (by assumption) ?_
              rotate_left
              · intro w hSw
                (try dsimp only at hSw)
                go_simp
                first | done | with_reducible rfl
              show wpAnyH _ _ _ _ _ _ _ (Act.put _ (some 108) _) _
              try simp only [Act.put, List.setIfInBounds_toArray, List.set_cons_zero, List.set_cons_succ]
              refine wpAnyH_take (i := 28) (v := ?_) rfl (by kernel_rfl) (by kernel_rfl) (by kernel_rfl) (fun _ _ _ h => h) (Or.inl ⟨by rfl, ?_⟩) (by assumption) ?_
              rotate_left
              · intro w hSw
                (try dsimp only at hSw)
                go_simp
                first | done | with_reducible rfl
              show wpAnyH _ _ _ _ _ _ _ (Act.put _ (some 109) _) _
              try simp only [Act.put, List.setIfInBounds_toArray, List.set_cons_zero, List.set_cons_succ]
              refine wpAnyH_take (i := 29) (v := ?_) rfl (by kernel_rfl) (by kernel_rfl) (by kernel_rfl) (fun _ _ _ h => h) (Or.inl ⟨by rfl, ?_⟩) (by assumption) ?_
              rotate_left
              · intro w hSw
                (try dsimp only at hSw)
                go_simp
                first | done | with_reducible rfl
              show wpAnyH _ _ _ _ _ _ _ (Act.put _ (some 110) _) _
              try simp only [Act.put, List.setIfInBounds_toArray, List.set_cons_zero, List.set_cons_succ]
              refine wpAnyH_take (i := 30) (v := ?_) rfl (by kernel_rfl) (by kernel_rfl) (by kernel_rfl) (fun _ _ _ h => h) (Or.inl ⟨by rfl, ?_⟩) (by assumption) ?_
              rotate_left
              · intro w hSw
                (try dsimp only at hSw)
                go_simp
                first | done | with_reducible rfl
              show wpAnyH _ _ _ _ _ _ _ (Act.put _ (some 111) _) _
              try simp only [Act.put, List.setIfInBounds_toArray, List.set_cons_zero, List.set_cons_succ]
              refine wpAnyH_take (i := 31) (v := ?_) rfl (by kernel_rfl) (by kernel_rfl) (by kernel_rfl) (fun _ _ _ h => h) (Or.inl ⟨by rfl, ?_⟩) (by assumption) ?_
              rotate_left
              · intro w hSw
                (try dsimp only at hSw)
                go_simp
                first | done | with_reducible rfl
              show wpAnyH _ _ _ _ _ _ _ (Act.put _ (some 112) _) _
              try simp only [Act.put, List.setIfInBounds_toArray, List.set_cons_zero, List.set_cons_succ]
              refine wpAnyH_take (i := 32) (v := ?_) rfl (by kernel_rfl) (by kernel_rfl) (by kernel_rfl) (fun _ _ _ h => h) (Or.inl ⟨by rfl, ?_⟩) (by assumption) ?_
              rotate_left
              · intro w hSw
                (try dsimp only at hSw)
                go_simp
                first | done | with_reducible rfl
              show wpAnyH _ _ _ _ _ _ _ (Act.put _ (some 113) _) _
              try simp only [Act.put, List.setIfInBounds_toArray, List.set_cons_zero, List.set_cons_succ]
              refine wpAnyH_take (i := 33) (v := ?_) rfl (by kernel_rfl) (by kernel_rfl) (by kernel_rfl) (fun _ _ _ h => h) (Or.inl ⟨by rfl, ?_⟩) (by assumption) ?_
              rotate_left
              · intro w hSw
                (try dsimp only at hSw)
                go_simp
                first | done | with_reducible rfl
              show wpAnyH _ _ _ _ _ _ _ (Act.put _ (some 114) _) _
              try simp only [Act.put, List.setIfInBounds_toArray, List.set_cons_zero, List.set_cons_succ]
              refine wpAnyH_take (i := 34) (v := ?_) rfl (by kernel_rfl) (by kernel_rfl) (by kernel_rfl) (fun _ _ _ h => h) (Or.inl ⟨by rfl, ?_⟩) (by assumption) ?_
              rotate_left
              · intro w hSw
                (try dsimp only at hSw)
                go_simp
                first | done | with_reducible rfl
              show wpAnyH _ _ _ _ _ _ _ (Act.put _ (some 115) _) _
              try simp only [Act.put, List.setIfInBounds_toArray, List.set_cons_zero, List.set_cons_succ]
              refine wpAnyH_take (i := 35) (v := ?_) rfl (by kernel_rfl) (by kernel_rfl) (by kernel_rfl) (fun _ _ _ h => h) (Or.inl ⟨by rfl, ?_⟩) (by assumption) ?_
              rotate_left
              · intro w hSw
                (try dsimp only at hSw)
                go_simp
                first | done | with_reducible rfl
              show wpAnyH _ _ _ _ _ _ _ (Act.put _ (some 116) _) _
              try simp only [Act.put, List.setIfInBounds_toArray, List.set_cons_zero, List.set_cons_succ]
              refine wpAnyH_take (i := 36) (v := ?_) rfl (by kernel_rfl) (by kernel_rfl) (by kernel_rfl) (fun _ _ _ h => h) (Or.inl ⟨by rfl, ?_⟩) (by assumption) ?_
              rotate_left
              · intro w hSw
                (try dsimp only at hSw)
                go_simp
                first | done | with_reducible rfl
              show wpAnyH _ _ _ _ _ _ _ (Act.put _ (some 117) _) _
              try simp only [Act.put, List.setIfInBounds_toArray, List.set_cons_zero, List.set_cons_succ]
              refine wpAnyH_done (by kernel_rfl) ?_ _
              go_wp2_with fail
              go_roundw
              case rel => exact ⟨j + 1, HJL.out, by go_num, HBRR.out.trans (HB7.out.mono HBRR.out.size), by rw [HB7.out.block _ HGL.out]; exact HROW.out⟩
              case measure => simp [intOf]; omega
            · have hs1 : (0 : Int) < (sN : Int) := by omega
              have hs3 : 0 < sN := by omega
              have hs4 : decide (0 < sN) = true := decide_eq_true hs3
              have hs2 : ((sN : Int) == 0) = false := by simpa using h0
              have hS : ∀ u, Below wr.heap.size wr u → u.cell? ⟨g, j, none⟩ = some (.bool true) ∧ u.cell? ⟨w.heap.size, 2, none⟩ = some (.slice (some ⟨bb, o, none⟩) p.funcs.length m2) ∧ u.cell? ⟨bb, o + k * 5 + 2, none⟩ = some (.int .i64 sN) := fun u h => ⟨below_cell h s0, below_cell h s1, below_cell h s2⟩
              have HSS := Lib.hid hS
              have HR0 := Lib.hid hR0
              have HGL := Lib.hid hgl
              have HROW := Lib.hid hrow
              have HBRR := Lib.hid hbr
              have HJL := Lib.hid hjl
              have RM := Lib.hid rm
              have KM := Lib.hid km
              clear hS hR0 hgl hrow hbr hjl rm km hat hd hmaps hI hbo hbY hjI hbv
              go_upto_region 22 with fail
              have hSd : wr.drew.cell? ⟨g, j, none⟩ = some (.bool true) ∧ wr.drew.cell? ⟨w.heap.size, 2, none⟩ = some (.slice (some ⟨bb, o, none⟩) p.funcs.length m2) ∧ wr.drew.cell? ⟨bb, o + k * 5 + 2, none⟩ = some (.int .i64 sN) := HSS.out wr.drew HR0.out
              clear s0 s1 s2
              refine wp_region_held_drew (S := fun w' => w'.cell? ⟨g, j, none⟩ = some (.bool true) ∧ w'.cell? ⟨w.heap.size, 2, none⟩ = some (.slice (some ⟨bb, o, none⟩) p.funcs.length m2) ∧ w'.cell? ⟨bb, o + k * 5 + 2, none⟩ = some (.int .i64 sN)) (by kernel_rfl) hSd (fun hHeld => ?_)
              clear hSd
              refine wpAnyH_take (i := 0) (v := ?_) rfl (by kernel_rfl) (by kernel_rfl) (by kernel_rfl) (fun _ _ _ h => h) (Or.inl ⟨by rfl, ?_⟩) (by assumption) ?_
              rotate_left
              · intro w hSw
                (try dsimp only at hSw)
                go_simp
                first | done | with_reducible rfl
              show wpAnyH _ _ _ _ _ _ _ (Act.put _ (some 81) _) _
              try simp only [Act.put, List.setIfInBounds_toArray, List.set_cons_zero, List.set_cons_succ]
              refine wpAnyH_take (i := 1) (v := ?_) rfl (by kernel_rfl) (by kernel_rfl) (by kernel_rfl) (fun _ _ _ h => h) (Or.inl ⟨by rfl, ?_⟩) (by assumption) ?_
              rotate_left
              · intro w hSw
                (try dsimp only at hSw)
                go_simp
                first | done | with_reducible rfl
              show wpAnyH _ _ _ _ _ _ _ (Act.put _ (some 82) _) _
              try simp only [Act.put, List.setIfInBounds_toArray, List.set_cons_zero, List.set_cons_succ]
              refine wpAnyH_take (i := 2) (v := ?_) rfl (by kernel_rfl) (by kernel_rfl) (by kernel_rfl) (fun _ _ _ h => h) (Or.inl ⟨by rfl, ?_⟩) (by assumption) ?_
              rotate_left
              · intro w hSw
                (try dsimp only at hSw)
                go_simp
                first | done | with_reducible rfl
              show wpAnyH _ _ _ _ _ _ _ (Act.put _ (some 83) _) _
              try simp only [Act.put, List.setIfInBounds_toArray, List.set_cons_zero, List.set_cons_succ]
              refine wpAnyH_take (i := 4) (v := ?_) rfl (by kernel_rfl) (by kernel_rfl) (by kernel_rfl) (fun _ _ _ h => h) (Or.inl ⟨by rfl, ?_⟩) (by assumption) ?_
              rotate_left
              · intro w hSw
                (try dsimp only at hSw)
                go_simp
                first | done | with_reducible rfl
              show wpAnyH _ _ _ _ _ _ _ (Act.put _ (some 85) _) _
              try simp only [Act.put, List.setIfInBounds_toArray, List.set_cons_zero, List.set_cons_succ]
              refine wpAnyH_take (i := 5) (v := ?_) rfl (by kernel_rfl) (by kernel_rfl) (by kernel_rfl) (fun _ _ _ h => h) (Or.inl ⟨by rfl, ?_⟩) (by assumption) ?_
              rotate_left
              · intro w hSw
                (try dsimp only at hSw)
                go_simp
                first | done | with_reducible rfl
              show wpAnyH _ _ _ _ _ _ _ (Act.put _ (some 86) _) _
              try simp only [Act.put, List.setIfInBounds_toArray, List.set_cons_zero, List.set_cons_succ]
              refine wpAnyH_take (i := 6) (v := ?_) rfl (by kernel_rfl) (by kernel_rfl) (by kernel_rfl) (fun _ _ _ h => h) (Or.inl ⟨by rfl, ?_⟩) (by assumption) ?_
              rotate_left
              · intro w hSw
                (try dsimp only at hSw)
                go_simp
                first | done | with_reducible rfl
              show wpAnyH _ _ _ _ _ _ _ (Act.put _ (some 87) _) _
              try simp only [Act.put, List.setIfInBounds_toArray, List.set_cons_zero, List.set_cons_succ]
              refine wpAnyH_take (i := 7) (v := ?_) rfl (by kernel_rfl) (by kernel_rfl) (by kernel_rfl) (fun _ _ _ h => h) (Or.inl ⟨by rfl, ?_⟩) (by assumption) ?_
              rotate_left
              · intro w hSw
                (try dsimp only at hSw)
                go_simp
                first | done | with_reducible rfl
              show wpAnyH _ _ _ _ _ _ _ (Act.put _ (some 88) _) _
              try simp only [Act.put, List.setIfInBounds_toArray, List.set_cons_zero, List.set_cons_succ]
              refine wpAnyH_ready (rs := [3]) (by kernel_rfl) (by simp) ?_
              refine (AllReadyH.cons rfl (fun K hK => ?_) AllReadyH.nil)
              go_simp
              go_at_call 20
              refine (RM.out _ HR0.out).mono ?_
              rintro e w7 ⟨rfl, rfl⟩
              go_wp2_with fail
              have hSd := hHeld
              clear hHeld
              refine hK.out _ _ hSd (fun hHeld => ?_)
              clear hK K hSd
              try simp only [Act.put, List.setIfInBounds_toArray, List.set_cons_zero, List.set_cons_succ]
              refine wpAnyH_take (i := 8) (v := ?_) rfl (by kernel_rfl) (by kernel_rfl) (by kernel_rfl) (fun _ _ _ h => h) (Or.inl ⟨by rfl, ?_⟩) (by assumption) ?_
              rotate_left
              · intro w hSw
                (try dsimp only at hSw)
                go_simp
                first | done | with_reducible rfl
              show wpAnyH _ _ _ _ _ _ _ (Act.put _ (some 89) _) _
              try simp only [Act.put, List.setIfInBounds_toArray, List.set_cons_zero, List.set_cons_succ]
              refine wpAnyH_take (i := 9) (v := ?_) rfl (by kernel_rfl) (by kernel_rfl) (by kernel_rfl) (fun _ _ _ h => h) (Or.inl ⟨by rfl, ?_⟩) (by assumption) ?_
              rotate_left
              · intro w hSw
                (try dsimp only at hSw)
                go_simp
                first | done | with_reducible rfl
              show wpAnyH _ _ _ _ _ _ _ (Act.put _ (some 90) _) _
              try simp only [Act.put, List.setIfInBounds_toArray, List.set_cons_zero, List.set_cons_succ]
              refine wpAnyH_take (i := 10) (v := ?_) rfl (by kernel_rfl) (by kernel_rfl) (by kernel_rfl) (fun _ _ _ h => h) (Or.inl ⟨by rfl, ?_⟩) (by assumption) ?_
              rotate_left
              · intro w hSw
                (try dsimp only at hSw)
                go_simp
                first | done | with_reducible rfl
              show wpAnyH _ _ _ _ _ _ _ (Act.put _ (some 91) _) _
              try simp only [Act.put, List.setIfInBounds_toArray, List.set_cons_zero, List.set_cons_succ]
              refine wpAnyH_take (i := 11) (v := ?_) rfl (by kernel_rfl) (by kernel_rfl) (by kernel_rfl) (fun _ _ _ h => h) (Or.inl ⟨by rfl, ?_⟩) (by assumption) ?_
              rotate_left
              · intro w hSw
                (try dsimp only at hSw)
                go_simp
                first | done | with_reducible rfl
              show wpAnyH _ _ _ _ _ _ _ (Act.put _ (some 92) _) _
              try simp only [Act.put, List.setIfInBounds_toArray, List.set_cons_zero, List.set_cons_succ]
              refine wpAnyH_take (i := 12) (v := ?_) rfl (by kernel_rfl) (by kernel_rfl) (by kernel_rfl) (fun _ _ _ h => h) (Or.inl ⟨by rfl, ?_⟩) (by assumption) ?_
              rotate_left
              · intro w hSw
                (try dsimp only at hSw)
                go_simp
                first | done | with_reducible rfl
              show wpAnyH _ _ _ _ _ _ _ (Act.put _ (some 93) _) _
              try simp only [Act.put, List.setIfInBounds_toArray, List.set_cons_zero, List.set_cons_succ]
              refine wpAnyH_take (i := 13) (v := ?_) rfl (by kernel_rfl) (by kernel_rfl) (by kernel_rfl) (fun _ _ _ h => h) (Or.inl ⟨by rfl, ?_⟩) (by assumption) ?_
              rotate_left
              · intro w hSw
                (try dsimp only at hSw)
                go_simp
                first | done | with_reducible rfl
              show wpAnyH _ _ _ _ _ _ _ (Act.put _ (some 94) _) _
              try simp only [Act.put, List.setIfInBounds_toArray, List.set_cons_zero, List.set_cons_succ]
              refine wpAnyH_take (i := 14) (v := ?_) rfl (by kernel_rfl) (by kernel_rfl) (by kernel_rfl) (fun _ _ _ h => h) (Or.inl ⟨by rfl, ?_⟩) (by assumption) ?_
              rotate_left
              · intro w hSw
                (try dsimp only at hSw)
                go_simp
                first | done | with_reducible rfl
              show wpAnyH _ _ _ _ _ _ _ (Act.put _ (some 95) _) _
              try simp only [Act.put, List.setIfInBounds_toArray, List.set_cons_zero, List.set_cons_succ]
              refine wpAnyH_take (i := 15) (v := ?_) rfl (by kernel_rfl) (by kernel_rfl) (by kernel_rfl) (fun _ _ _ h => h) (Or.inl ⟨by rfl, ?_⟩) (by assumption) ?_
              rotate_left
              · intro w hSw
                (try dsimp only at hSw)
                go_simp
                first | done | with_reducible rfl
              show wpAnyH _ _ _ _ _ _ _ (Act.put _ (some 96) _) _
              try simp only [Act.put, List.setIfInBounds_toArray, List.set_cons_zero, List.set_cons_succ]
              refine wpAnyH_take (i := 16) (v := ?_) rfl (by kernel_rfl) (by kernel_rfl) (by kernel_rfl) (fun _ _ _ h => h) (Or.inl ⟨by rfl, ?_⟩) (by assumption) ?_
              rotate_left
              · intro w hSw
                (try dsimp only at hSw)
                go_simp
                first | done | with_reducible rfl
              show wpAnyH _ _ _ _ _ _ _ (Act.put _ (some 97) _) _
              try simp only [Act.put, List.setIfInBounds_toArray, List.set_cons_zero, List.set_cons_succ]
              refine wpAnyH_ready (rs := [17]) (by kernel_rfl) (by simp) ?_
              refine (AllReadyH.cons rfl (fun K hK => ?_) AllReadyH.nil)
              go_simp
              go_at_call 21
              refine (KM.out _ HR0.out).mono ?_
              rintro e w7 ⟨va, vc, rfl, hb7⟩
              have hb7 := HR0.out.trans (hb7.mono HR0.out.size)
              have hSd := HSS.out w7 hb7
              have HB7 := Lib.hid hb7
              go_wp2_with fail
              clear hHeld hb7
              refine hK.out _ _ hSd (fun hHeld => ?_)
              clear hK K hSd
              try simp only [Act.put, List.setIfInBounds_toArray, List.set_cons_zero, List.set_cons_succ]
              refine wpAnyH_take (i := 18) (v := ?_) rfl (by kernel_rfl) (by kernel_rfl) (by kernel_rfl) (fun _ _ _ h => h) (Or.inl ⟨by rfl, ?_⟩) (by assumption) ?_
              rotate_left
              · intro w hSw
                (try dsimp only at hSw)
                go_simp
                first | done | with_reducible rfl
              show wpAnyH _ _ _ _ _ _ _ (Act.put _ (some 99) _) _
              try simp only [Act.put, List.setIfInBounds_toArray, List.set_cons_zero, List.set_cons_succ]
              refine wpAnyH_take (i := 19) (v := ?_) rfl (by kernel_rfl) (by kernel_rfl) (by kernel_rfl) (fun _ _ _ h => h) (Or.inl ⟨by rfl, ?_⟩) (by assumption) ?_
              rotate_left
              · intro w hSw
                (try dsimp only at hSw)
                go_simp
                first | done | with_reducible rfl
              show wpAnyH _ _ _ _ _ _ _ (Act.put _ (some 100) _) _
              try simp only [Act.put, List.setIfInBounds_toArray, List.set_cons_zero, List.set_cons_succ]
              refine wpAnyH_take (i := 20) (v := ?_) rfl (by kernel_rfl) (by kernel_rfl) (by kernel_rfl) (fun _ _ _ h => h) (Or.inl ⟨by rfl, ?_⟩) (by assumption) ?_
              rotate_left
              · intro w hSw
                (try dsimp only at hSw)
                go_simp
                first | done | with_reducible rfl
              show wpAnyH _ _ _ _ _ _ _ (Act.put _ (some 101) _) _
              try simp only [Act.put, List.setIfInBounds_toArray, List.set_cons_zero, List.set_cons_succ]
              refine wpAnyH_take (i := 21) (v := undef) rfl (by kernel_rfl) (by kernel_rfl) (by kernel_rfl) (fun _ _ _ h => h) (Or.inr ⟨by rfl, rfl⟩) (by assumption) ?_
              show wpAnyH _ _ _ _ _ _ _ (Act.put _ (some 102) undef) _
              try simp only [Act.put, List.setIfInBounds_toArray, List.set_cons_zero, List.set_cons_succ]
              refine wpAnyH_take (i := 22) (v := undef) rfl (by kernel_rfl) (by kernel_rfl) (by kernel_rfl) (fun _ _ _ h => h) (Or.inr ⟨by rfl, rfl⟩) (by assumption) ?_
              show wpAnyH _ _ _ _ _ _ _ (Act.put _ (some 103) undef) _
              try simp only [Act.put, List.setIfInBounds_toArray, List.set_cons_zero, List.set_cons_succ]
              refine wpAnyH_take (i := 23) (v := undef) rfl (by kernel_rfl) (by kernel_rfl) (by kernel_rfl) (fun _ _ _ h => h) (Or.inr ⟨by rfl, rfl⟩) (by assumption) ?_
              show wpAnyH _ _ _ _ _ _ _ (Act.put _ (some 104) undef) _
              try simp only [Act.put, List.setIfInBounds_toArray, List.set_cons_zero, List.set_cons_succ]
              refine wpAnyH_take (i := 24) (v := undef) rfl (by kernel_rfl) (by kernel_rfl) (by kernel_rfl) (fun _ _ _ h => h) (Or.inr ⟨by rfl, rfl⟩) (by assumption) ?_
              show wpAnyH _ _ _ _ _ _ _ (Act.put _ (some 105) undef) _
              try simp only [Act.put, List.setIfInBounds_toArray, List.set_cons_zero, List.set_cons_succ]
              refine wpAnyH_take (i := 25) (v := undef) rfl (by kernel_rfl) (by kernel_rfl) (by kernel_rfl) (fun _ _ _ h => h) (Or.inr ⟨by rfl, rfl⟩) (by assumption) ?_
              show wpAnyH _ _ _ _ _ _ _ (Act.put _ (some 106) undef) _
              try simp only [Act.put, List.setIfInBounds_toArray, List.set_cons_zero, List.set_cons_succ]
              refine wpAnyH_take (i := 26) (v := undef) rfl (by kernel_rfl) (by kernel_rfl) (by kernel_rfl) (fun _ _ _ h => h) (Or.inr ⟨by rfl, rfl⟩) (by assumption) ?_
              show wpAnyH _ _ _ _ _ _ _ (Act.put _ (some 107) undef) _
              try simp only [Act.put, List.setIfInBounds_toArray, List.set_cons_zero, List.set_cons_succ]
              refine wpAnyH_take (i := 27) (v := undef) rfl (by kernel_rfl) (by kernel_rfl) (by kernel_rfl) (fun _ _ _ h => h) (Or.inr ⟨by rfl, rfl⟩) (by assumption) ?_
              show wpAnyH _ _ _ _ _ _ _ (Act.put _ (some 108) undef) _
              try simp only [Act.put, List.setIfInBounds_toArray, List.set_cons_zero, List.set_cons_succ]
              refine wpAnyH_take (i := 28) (v := undef) rfl (by kernel_rfl) (by kernel_rfl) (by kernel_rfl) (fun _ _ _ h => h) (Or.inr ⟨by rfl, rfl⟩) (by assumption) ?_
              show wpAnyH _ _ _ _ _ _ _ (Act.put _ (some 109) undef) _
              try simp only [Act.put, List.setIfInBounds_toArray, List.set_cons_zero, List.set_cons_succ]
              refine wpAnyH_take (i := 29) (v := undef) rfl (by kernel_rfl) (by kernel_rfl) (by kernel_rfl) (fun _ _ _ h => h) (Or.inr ⟨by rfl, rfl⟩) (by assumption) ?_
              show wpAnyH _ _ _ _ _ _ _ (Act.put _ (some 110) undef) _
              try simp only [Act.put, List.setIfInBounds_toArray, List.set_cons_zero, List.set_cons_succ]
              refine wpAnyH_take (i := 30) (v := undef) rfl (by kernel_rfl) (by kernel_rfl) (by kernel_rfl) (fun _ _ _ h => h) (Or.inr ⟨by rfl, rfl⟩) (by assumption) ?_
              show wpAnyH _ _ _ _ _ _ _ (Act.put _ (some 111) undef) _
              try simp only [Act.put, List.setIfInBounds_toArray, List.set_cons_zero, List.set_cons_succ]
              refine wpAnyH_take (i := 31) (v := undef) rfl (by kernel_rfl) (by kernel_rfl) (by kernel_rfl) (fun _ _ _ h => h) (Or.inr ⟨by rfl, rfl⟩) (by assumption) ?_
              show wpAnyH _ _ _ _ _ _ _ (Act.put _ (some 112) undef) _
              try simp only [Act.put, List.setIfInBounds_toArray, List.set_cons_zero, List.set_cons_succ]
              refine wpAnyH_take (i := 32) (v := undef) rfl (by kernel_rfl) (by kernel_rfl) (by kernel_rfl) (fun _ _ _ h => h) (Or.inr ⟨by rfl, rfl⟩) (by assumption) ?_
              show wpAnyH _ _ _ _ _ _ _ (Act.put _ (some 113) undef) _
              try simp only [Act.put, List.setIfInBounds_toArray, List.set_cons_zero, List.set_cons_succ]
              refine wpAnyH_take (i := 33) (v := undef) rfl (by kernel_rfl) (by kernel_rfl) (by kernel_rfl) (fun _ _ _ h => h) (Or.inr ⟨by rfl, rfl⟩) (by assumption) ?_
              show wpAnyH _ _ _ _ _ _ _ (Act.put _ (some 114) undef) _
              try simp only [Act.put, List.setIfInBounds_toArray, List.set_cons_zero, List.set_cons_succ]
              refine wpAnyH_take (i := 34) (v := ?_) rfl (by kernel_rfl) (by kernel_rfl) (by kernel_rfl) (fun _ _ _ h => h) (Or.inl ⟨by rfl, ?_⟩) (by assumption) ?_
              rotate_left
              · intro w hSw
                (try dsimp only at hSw)
                go_simp
                first | done | with_reducible rfl
              show wpAnyH _ _ _ _ _ _ _ (Act.put _ (some 115) _) _
              try simp only [Act.put, List.setIfInBounds_toArray, List.set_cons_zero, List.set_cons_succ]
              refine wpAnyH_take (i := 35) (v := ?_) rfl (by kernel_rfl) (by kernel_rfl) (by kernel_rfl) (fun _ _ _ h => h) (Or.inl ⟨by rfl, ?_⟩) (by assumption) ?_
              rotate_left
              · intro w hSw
                (try dsimp only at hSw)
                go_simp
                first | done | with_reducible rfl
              show wpAnyH _ _ _ _ _ _ _ (Act.put _ (some 116) _) _
              try simp only [Act.put, List.setIfInBounds_toArray, List.set_cons_zero, List.set_cons_succ]
              refine wpAnyH_take (i := 36) (v := ?_) rfl (by kernel_rfl) (by kernel_rfl) (by kernel_rfl) (fun _ _ _ h => h) (Or.inl ⟨by rfl, ?_⟩) (by assumption) ?_
              rotate_left
              · intro w hSw
                (try dsimp only at hSw)
                go_simp
                first | done | with_reducible rfl
              show wpAnyH _ _ _ _ _ _ _ (Act.put _ (some 117) _) _
              try simp only [Act.put, List.setIfInBounds_toArray, List.set_cons_zero, List.set_cons_succ]
              refine wpAnyH_done (by kernel_rfl) ?_ _
              go_wp2_with fail
              go_roundw
              case rel => exact ⟨j + 1, HJL.out, by go_num, HBRR.out.trans (HB7.out.mono HBRR.out.size), by rw [HB7.out.block _ HGL.out]; exact HROW.out⟩
              case measure => simp [intOf]; omega
      | cons x Q =>
        obtain ⟨xn, rfl⟩ : ∃ xn : Nat, x = xn := ⟨x.toNat, by have := (hS.qlow x (List.mem_cons_self ..)).1; omega⟩
        obtain ⟨tg, ot, tc, rfl, q1, hob, v', hqq, hsub, hsl⟩ := hQ.first
        obtain ⟨pa, pc, rfl⟩ := hqq.slice
        rw [show ((xn : Int) :: Q).length = Q.length + 1 from rfl] at hsl ⊢
        have hpos : (0 : Int) < ((Q.length + 1 : Nat) : Int) := by omega
        have hne2 : (Value.slice pa Q.length pc).ownBlock ≠ some g := fun e => hne (hsub g e)
        have hlast : msrS I Q < mm := by rw [← hms]; unfold msrS; simp
        have hc0 : 0 < f.code.length := HFF.out.code1
        by_cases h1 : N ≤ xn
        · have n1 : (N : Int) ≤ (xn : Int) := by omega
          have hfin : SR f (Ms k) wo g (.slice pa Q.length pc) wr (msrS I Q) := ⟨by omega, I, Q, hS.skip (.inl (by have := HN.out; omega)) hc0, hqq, hrow, hne2, hbx, rfl⟩
          have HFIN := Lib.hid hfin
          have HLAST := Lib.hid hlast
          clear hS hQ hrow hne hbx hms hIl hqq hsub hob hne2 hlast hc0 hfin h1 hm1
          go_wp2_with fail
          go_roundw
          case rel => exact ⟨_, HFIN.out⟩
          case measure => exact Nat.lt_of_le_of_lt (leastN_le HFIN.out) (Nat.lt_of_lt_of_eq HLAST.out HMMM.out.symm)
        · have n1 : ¬ (N : Int) ≤ (xn : Int) := by omega
          have n2 : (xn : Int) < (N : Int) := by omega
          have hxI : xn < I.length := by omega
          have hgx := List.getElem?_eq_getElem hxI
          obtain ⟨q2, q3⟩ := bools_cell hrow xn hxI
          cases hbv : I[xn] with
          | true =>
            rw [hbv] at q2 hgx
            have hfin : SR f (Ms k) wo g (.slice pa Q.length pc) wr (msrS I Q) := ⟨by omega, I, Q, hS.skip (.inr (by simpa using hgx)) hc0, hqq, hrow, hne2, hbx, rfl⟩
            have HFIN := Lib.hid hfin
            have HLAST := Lib.hid hlast
            clear hS hQ hrow hne hbx hms hIl hqq hsub hob hne2 hlast hc0 hfin h1 hm1 hgx hbv hxI q3
            go_wp2_with fail
            go_roundw
            case rel => exact ⟨_, HFIN.out⟩
            case measure => exact Nat.lt_of_le_of_lt (leastN_le HFIN.out) (Nat.lt_of_lt_of_eq HLAST.out HMMM.out.symm)
          | false =>
            rw [hbv] at q2 hgx
            have hN2 : (nextK (insAt f xn) xn).length ≤ 2 := nextK_len _ _
            have hnx : nextA p (k : Int) (xn : Int) = nextK (insAt f xn) xn := by
              unfold nextA
              rw [HIAT.out xn (insAt f xn) (by unfold insAt; simp [show xn < f.code.length by have := HN.out; omega])]
            obtain ⟨NL, hNL⟩ : ∃ NL, NL = nextK (insAt f xn) xn := ⟨_, rfl⟩
            rw [← hNL] at hnx hN2
            have hbS := below_put hbx (g := g) (j := xn) (by have := HGN.out; omega) (.bool true)
            have hrS := bools_set hrow xn true
            have hfS := (Fr.refl (onB g) wr).setCell (p := ⟨g, xn, none⟩) (fun _ => rfl) (.bool true)
            have hqS := hqq.fr hfS (fun q hq e => hne2 (by rw [hq]; exact congrArg some e))
            have hI : i64B (k : Int) ∧ i64B (xn : Int) := ⟨⟨by omega, by have := HK16.out; omega⟩, ⟨by omega, by omega⟩⟩
            obtain ⟨wS, hwS⟩ : ∃ wS, wS = wr.setCell ⟨g, xn, none⟩ (.bool true) := ⟨_, rfl⟩
            rw [← hwS] at hbS hrS hqS
            have nxS := NX.out wS (HBW5.out wS hbS) k xn hI.1 hI.2
            rw [hnx] at nxS
            have hS2 := hS.take HFLOW.out (NL := NL) (by have := HN.out; omega) hNL (by rw [hNL]; exact HNP.out xn (by have := HN.out; omega))
            have hlast2 : msrS (I.set xn true) (Q ++ NL) < mm := by rw [← hms]; exact msrS_take hgx hN2
            have hQl : Q.length ≤ 1000 := by have h := hm1; rw [← hms] at h; unfold msrS at h; simp at h; omega
            have HS2 := Lib.hid hS2
            have HLAST := Lib.hid hlast2
            have HQL := Lib.hid hQl
            have HN2 := Lib.hid hN2
            have HWS := Lib.hid hwS
            have HBS := Lib.hid hbS
            have HRS := Lib.hid hrS
            have HQS := Lib.hid hqS
            have HNXS := Lib.hid nxS
            have HNE2 := Lib.hid hne2
            have HM1 := Lib.hid hm1
            have HRG := Lib.hid (heap_lt hrS)
            clear hS2 hlast2 hQl hN2 hwS hbS hrS hqS nxS hne2 hS hQ hrow hne hbx hms hIl hqq hsub hob hlast hc0 h1 hm1 hgx hbv hxI hNL hnx hfS
            go_upto_region 18 with fail
            rw [← HWS.out]
            clear q1 q2 q3 hsl
            obtain ⟨k0, k1, k2⟩ := HHR.out wS HBS.out
            go_wp2_with fail
            refine HNXS.out.mono ?_
            rintro e w9 ⟨v9, rfl, ho9, hb9⟩
            obtain ⟨na, nc, rfl, hns⟩ := own_int ho9
            have hB9 := HBS.out.trans (hb9.mono HBS.out.size)
            have hQ9 := HQS.out.fr (Fr.of_below hb9 (fun _ => False)) (fun _ _ h => h)
            have hR9 := (Fr.of_below hb9 (fun _ => False)).heap HRS.out (fun h => h)
            have HB9 := Lib.hid hB9
            have HQ9 := Lib.hid hQ9
            have HR9 := Lib.hid hR9
            have HNS := Lib.hid hns
            clear ho9 hb9 hns hB9 hQ9 hR9 k0 k1 k2
            go_wp2_with (at_builtin; refine wp_ques rfl (.tmp 68) (.tmp 73) rfl wo.heap.size Q _ rfl HQ9.out _ na NL nc rfl HNS.out ?c1 HB9.out.size ?_)
            case c1 => have := HQL.out; have := HN2.out; omega
            intro v5 w5 hq5 hg5 hf5
            have hgl := heap_lt HR9.out
            have hfin : SR f (Ms k) wo g v5 w5 (msrS (I.set xn true) (Q ++ NL)) := ⟨by have := HLAST.out; have := HM1.out; omega, _, _, HS2.out, hq5, by rw [hg5.block g hgl (fun e => HNE2.out e.symm)]; exact HR9.out, fun e => by
              rcases hf5 g e with h | h
              · exact HNE2.out h
              · omega, HB9.out.grown hg5 HB9.out.size (fun q hq => (HQ9.out.lt hq).1), rfl⟩
            have HFIN := Lib.hid hfin
            clear hfin hq5 hg5 hf5 hgl
            go_wp2_with fail
            go_roundw
            case rel => exact ⟨_, HFIN.out⟩
            case measure => exact Nat.lt_of_le_of_lt (leastN_le HFIN.out) (Nat.lt_of_lt_of_eq HLAST.out HMMM.out.symm)
theorem own : ownKnob Try.prog.godebug = none := by kernel_rfl
theorem laidOut : laidOutB Try.prog = true := by kernel_rfl
set_option maxRecDepth 100000 in
theorem lifted (os : Os) (started : os.Started) (H : Type) (enc : TypeId × Value → H) :
    ReturnsInHanded {} Try.checked os 6 .any (Rows.flowReachesSpec.pre6 enc Try.prog Try.f6 Rows.flowReachesRow.domain false) (Rows.flowReachesSpec.post enc Try.prog Try.f6 false true false false) := by
  refine returnsInHanded_of_change (C := Try.checked) own started (by kernel_rfl) Try.func6
    (ChangeSpec.witness6 (enc := enc) (C := Try.checked) false ⟨#[], #[.agg #[.slice none 0 0, .slice none 0 0, .slice none 0 0]], []⟩ 8 (by kernel_rfl) (by kernel_rfl) (by kernel_rfl) (by kernel_rfl)) ?_
  intro W base args ds gs before hval0 hW hcnd _
  have hval : ∀ (j : Nat) t v, Try.f6.params[j]? = some t → args[j]? = some v → Value.okWide Try.prog W .any base t v := hval0
  have hW' := hW
  obtain ⟨p, q, hA0, hV, rfl, hfz, hnd⟩ := hW
  have hA : DataW.TrodAll enc Try.prog W 0 (fun _ => true) true Try.f6.params.toList args.toList ds p := hA0
  rw [Try.params6] at hA hval
  obtain ⟨v0, vs0, d0, ds0, p0, q0, hargs, rfl, rfl, h0, r0⟩ := trodAll_cons hA
  obtain ⟨rfl, rfl, rfl⟩ := trodAll_nil r0
  obtain rfl : args = #[v0] := by cases args; simp_all
  have w0 := open_programB (hval 0 26 v0 rfl rfl) h0
  clear hA0 hval0
  simp only [List.append_nil] at hW'
  refine (walk W v0 w0).mono fun e W' ⟨he, hb⟩ => ?_
  subst he
  exact ⟨_, rfl, law_post laidOut (by kernel_rfl) rfl Try.underlying4 hW' rfl (fun ds h => by match ds, h with | [_], _ => rfl) hb⟩
theorem over : Rows.flowReachesRow.holds Try.pinned (OpenSpec.ofChange Rows.flowReachesSpec) :=
  OpenClaim.holds_of_wide 6 Try.f6 rfl rfl rfl rfl rfl rfl rfl ⟨rfl, rfl, rfl, rfl, rfl⟩ rfl rfl rfl rfl rfl (by kernel_rfl) Try.func6 (by kernel_rfl)
    (of_decide_eq_true (by kernel_rfl)) (by unfold Func.isWrapper; first | (rw [if_pos (by decide +kernel)]; kernel_rfl) | (rw [if_neg (by decide +kernel)]; exact ⟨rfl, rfl⟩))
    (fun os started H enc _ => lifted os started H enc)
theorem proved : Rows.FlowReachesSaid := over
#print axioms proved
end Go.Proofs.Ytjcjhfnjamphlaa.flowReaches
