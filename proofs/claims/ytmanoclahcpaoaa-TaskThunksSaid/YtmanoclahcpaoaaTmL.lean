/- Walk: Task.Thunk. -/
import Derived.Test.YtmanoclahcpaoaaTmJ
namespace Go.Proofs.Ytmanoclahcpaoaa
open Go.ChangeShapes Go.WideShapes Go.ChangeAt Go.RowKit Go.Maps

theorem usedN_concat {p : TPrg} {T : Tk} {P : List Part} {q : Part} (h : T.parts = P ++ [q]) : usedN p T = q.base + wordsN p q.fn := by
  unfold usedN
  rw [h, List.getLast?_concat]
set_option maxRecDepth 100000 in
set_option maxHeartbeats 3200000 in
theorem tkThunk_any (w : World) (F : Nat → Prop) (tb : Nat) (p : TPrg) (T : Tk) (X : TB) (h : TaskAt w F tb p T X) (hp : PSmall p) (ht : TkOk T) (hlen : T.parts.length < 1000) (P : List Part) (f0 pc0 b0 r0 : Int) (tg k tc : Nat) (hP : T.parts = P ++ [⟨f0, pc0, b0, r0, some ⟨tg, 0, none⟩, k + 1, tc⟩]) (htc : k + 1 ≤ tc) (hk : k ≤ 1000) (M : List Mark) (m : Mark) (hM : T.marks = M ++ [m]) (hv : m.leaving = true) (h0 : 0 < m.thunks) (h16 : m.thunks < 100)
    (j : Nat) (hj : j < p.funcs.length) (un : Nat) (hun : usedN p T = un) (hfit : un + wordsN p j ≤ T.words.length) (D : Nat → Prop) (aa : Option Addr) (al : List Int) (ac : Nat) (hal : IntSl w D aa al) (hD : ∀ k, D k → ¬ F k ∧ k < w.heap.size) (hna : al.length = p.funcs[j].nargs) (hsl : (al.length : Int) ≤ p.funcs[j].slots) (hal2 : al.length ≤ 3000)
    (c0 : w.cell? ⟨tg, k * 2, none⟩ = some (.int .i64 j)) (c1 : w.cell? ⟨tg, k * 2 + 1, none⟩ = some (.slice aa al.length ac)) :
    Calls Try.prog 21 #[.pointer (some ⟨tb, 0, none⟩)] w fun e w' => e = .returned (.bool true) ∧ ∃ F' X', TaskAt w' F' tb p ⟨T.base, setArgs (clearL T.words un (wordsN p j)) un al al.length, P ++ [⟨f0, pc0, b0, r0, some ⟨tg, 0, none⟩, k, k⟩] ++ [⟨j, 0, un, -1, none, 0, 0⟩], M ++ [⟨true, m.deferred, m.thunks - 1⟩] ++ [⟨false, true, 0⟩]⟩ X' ∧ (∀ q, F' q → F q ∨ w.heap.size ≤ q) ∧ Fr F w w' := by
  have hpl : T.parts.length = P.length + 1 := by rw [hP]; simp
  have hml : T.marks.length = M.length + 1 := by rw [hM]; simp
  have hMl : M.length ≤ 1000 := by have := ht.2.1; omega
  obtain ⟨a, c, hpv, hel⟩ := h.pv
  obtain ⟨g, rfl, hgo, hrst⟩ := hel P.length (by omega)
  clear hrst hel
  have tp := fun wr (hw : Below w.heap.size w wr) => top_some wr F tb p T X (h.below hw) ht.1 P.length hpl g hgo
  have nx := tkNext_any w F tb p T X h (by omega)
  rw [show nextN T.marks = 1 from by unfold nextN; rw [hM, List.getLast?_concat]; simp [hv, h0]] at nx
  have hfb : fitsB p T j al.length = true := by
    rw [fitsB_at hj, hna, hun]
    simp
    omega
  have fi := fun wr (hw : Below w.heap.size w wr) => fits_any wr F tb p T X (h.below hw) hp ht j aa al.length ac hal2
  rw [hfb] at fi
  have hgF := h.fp g hgo
  have hT := fun wr (hw : Below w.heap.size w wr) => h.below hw
  have hun1 : usedN p ⟨T.base, T.words, P ++ [⟨f0, pc0, b0, r0, some ⟨tg, 0, none⟩, k, k⟩], T.marks⟩ = un := by
    rw [usedN_concat (q := ⟨f0, pc0, b0, r0, some ⟨tg, 0, none⟩, k, k⟩) rfl, ← hun, usedN_concat hP]
  have hok1 : TkOk ⟨T.base, T.words, P ++ [⟨f0, pc0, b0, r0, some ⟨tg, 0, none⟩, k, k⟩], T.marks⟩ := by
    obtain ⟨h1, h2, h3, h4⟩ := ht
    refine ⟨?_, h2, h3, fun q hq => ?_⟩
    · show (P ++ [_]).length ≤ 1000
      simp; omega
    · have hq : q ∈ P ++ [(⟨f0, pc0, b0, r0, some ⟨tg, 0, none⟩, k, k⟩ : Part)] := hq
      rw [List.mem_append] at hq
      rcases hq with hq | hq
      · exact h4 q (by rw [hP]; exact List.mem_append_left _ hq)
      · simp at hq
        rw [hq]
        exact h4 ⟨f0, pc0, b0, r0, some ⟨tg, 0, none⟩, k + 1, tc⟩ (by rw [hP]; simp)
  have k4 : w.cell? ⟨g, P.length * 5 + 4, none⟩ = some (.slice (some ⟨tg, 0, none⟩) (k + 1) tc) := by
    have h1 := h.parts
    rw [hP, hpv] at h1
    exact (own_lastc h1 4 _ rfl).1
  have hlen1 : (P ++ [(⟨f0, pc0, b0, r0, some ⟨tg, 0, none⟩, k, k⟩ : Part)]).length < 1000 := by simp; omega
  have hFl := h.flt
  rw [hpl] at hpv
  obtain ⟨N, hN⟩ : ∃ N, N = P.length + 1 := ⟨_, rfl⟩
  rw [← hN] at hpv
  obtain ⟨K, hK⟩ : ∃ K, K = k + 1 := ⟨_, rfl⟩
  have HPP := Lib.hid hP
  rw [← hK] at k4
  have i1 : IntKind.i64.wrap ((K : Int) - 1) = (k : Int) := by rw [show ((K : Int) - 1) = (k : Int) from by omega]; exact IntWalk.i64_in _ (by omega)
  have n1 : (k : Int) < (K : Int) := by omega
  have n2 : k ≤ tc := by omega
  have HKK := Lib.hid hK
  have HNA := Lib.hid hna
  clear hK htc hN h hpl hml hlen hP hfb hna
  have TP := Lib.hid tp; clear tp
  have NX := Lib.hid nx; clear nx
  have FI := Lib.hid fi; clear fi
  have HGF := Lib.hid hgF; clear hgF
  have HT := Lib.hid hT; clear hT
  have HUN1 := Lib.hid hun1; clear hun1
  have HOK1 := Lib.hid hok1; clear hok1
  have HPV := Lib.hid hpv; clear hpv
  have HAL := Lib.hid hal; clear hal
  have HD := Lib.hid hD; clear hD
  have HLEN1 := Lib.hid hlen1; clear hlen1
  have HFL := Lib.hid hFl; clear hFl
  have HM := Lib.hid hM; clear hM
  go_enter Try.func21, Try.ntmps21
  go_wp2_with fail
  refine NX.out.mono ?_
  rintro e w1 ⟨rfl, hb1⟩
  have HB1 := Lib.hid hb1
  clear hb1
  go_wp2_with fail
  refine (TP.out _ HB1.out).mono ?_
  rintro e w2 ⟨rfl, n1', rfl⟩
  have hb2 := HB1.out.trans ((below_drewN (Below.refl w1.heap.size w1) n1').mono HB1.out.size)
  generalize w1.drewN n1' = w2 at *
  have k4 := below_cell hb2 k4
  have c0 := below_cell hb2 c0
  have c1 := below_cell hb2 c1
  have hb3 := hb2.alloc hb2.size (.cells #[.int .i64 j, .slice aa al.length ac] 85)
  have hrow := heap_new w2 (.cells #[.int .i64 j, .slice aa al.length ac] 85)
  obtain ⟨lb, hlb⟩ : ∃ lb, lb = w2.heap.size := ⟨_, rfl⟩
  obtain ⟨w3, hw3⟩ : ∃ w3, w3 = w2.alloc (.cells #[.int .i64 j, .slice aa al.length ac] 85) := ⟨_, rfl⟩
  rw [← hw3] at hb3 hrow
  rw [← hlb] at hrow
  have hz2 := hb2.size
  clear hb2 HB1
  have HLB := Lib.hid hlb; clear hlb
  have HW3 := Lib.hid hw3; clear hw3
  have HB3 := Lib.hid hb3; clear hb3
  have HROW := Lib.hid hrow; clear hrow
  dsimp only
  go_upto_region 6 with fail
  rw [← HW3.out, ← HLB.out]
  clear k4 c0 c1
  have c0 : w3.cell? ⟨lb, 0, none⟩ = some (.int .i64 j) := (row_cell HROW.out 0).1
  have c1 : w3.cell? ⟨lb, 1, none⟩ = some (.slice aa al.length ac) := (row_cell HROW.out 1).1
  go_wp2_with fail
  refine (FI.out _ HB3.out).mono ?_
  rintro e w4 ⟨rfl, hb4⟩
  have hT4 := HT.out _ (HB3.out.trans (hb4.mono HB3.out.size))
  have hb5 := HB3.out.trans (hb4.mono HB3.out.size)
  have hrow4 := (Fr.of_below hb4 (fun _ => False)).heap HROW.out (fun h => h)
  have k4 : w4.cell? ⟨g, P.length * 5 + 4, none⟩ = some (.slice (some ⟨tg, 0, none⟩) K tc) ∧ w4.frozen? ⟨g, P.length * 5 + 4, none⟩ = false := by
    have h1 := hT4.parts
    rw [HPP.out, HPV.out] at h1
    rw [HKK.out]
    exact ⟨(own_lastc h1 4 _ rfl).1, (own_lastc h1 4 _ rfl).2⟩
  obtain ⟨k4, f4⟩ := k4
  obtain ⟨hT5, hF5⟩ := hT4.putPart (y := ⟨f0, pc0, b0, r0, some ⟨tg, 0, none⟩, k, k⟩) HPP.out HPV.out 4 (.slice (some ⟨tg, 0, none⟩) k k) rfl
  have hF6 := (Fr.of_below hb5 F).trans hF5 (fun _ _ h => h)
  have hlb : ¬ lb = g := fun e => by have h1 := HFL.out g HGF.out; have h2 := HLB.out; have h3 := HB3.out.size; have h4 := heap_lt HROW.out; rw [← e] at h1; omega
  have hrow5 := ((Fr.refl (fun q => q = g) w4).setCell (p := ⟨g, P.length * 5 + 4, none⟩) (fun _ => rfl) (.slice (some ⟨tg, 0, none⟩) k k)).heap hrow4 hlb
  clear hT4 hb4 hb5 hrow4 hF5 c0 c1
  have HT5 := Lib.hid hT5; clear hT5
  have HF6 := Lib.hid hF6; clear hF6
  have HROW5 := Lib.hid hrow5; clear hrow5
  go_upto_region 9 with fail
  obtain ⟨w5, hw5⟩ : ∃ w5, w5 = w4.setCell ⟨g, P.length * 5 + 4, none⟩ (.slice (some ⟨tg, 0, none⟩) k k) := ⟨_, rfl⟩
  rw [← hw5] at HT5 HF6 HROW5 ⊢
  clear hw5 k4 f4
  have c0 : w5.cell? ⟨lb, 0, none⟩ = some (.int .i64 j) := (row_cell HROW5.out 0).1
  have c1 : w5.cell? ⟨lb, 1, none⟩ = some (.slice aa al.length ac) := (row_cell HROW5.out 1).1
  have pu := push_any w5 F tb p _ X HT5.out hp HOK1.out HLEN1.out j hj un HUN1.out hfit D aa al ac (HAL.out.fr HF6.out (fun k hk => (HD.out k hk).1)) (fun k hk => ⟨(HD.out k hk).1, Nat.lt_of_lt_of_le (HD.out k hk).2 HF6.out.size⟩) hsl hal2 (-1)
  have PU := Lib.hid pu; clear pu
  go_wp2_with fail
  refine PU.out.mono ?_
  rintro e w6 ⟨rfl, F6, X6, hT6, hF6, hf6⟩
  have hw57 := HF6.out.trans hf6 (fun _ _ h => h)
  have hsz := HF6.out.size
  have hF7 : ∀ q, F6 q → F q ∨ w.heap.size ≤ q := fun q hq => (hF6 q hq).elim .inl (fun h => .inr (by omega))
  have sp := stThunk_some w6 0 X6.mv M m (by have h1 := hT6.marks; rw [show (pushT ⟨T.base, T.words, P ++ [⟨f0, pc0, b0, r0, some ⟨tg, 0, none⟩, k, k⟩], T.marks⟩ un (wordsN p j) j (-1) al).marks = T.marks from rfl, HM.out] at h1; exact h1) (by omega) hv h0 h16
  have q5 := hT6.cells.2.2.2.2.2.1
  have q6 := hT6.cells.2.2.2.2.2.2.1
  obtain ⟨a6, n6, c6, hmv2⟩ := hT6.marks.slice
  rw [hmv2] at sp q5
  have hT7 : TaskAt w6 F6 tb p ⟨T.base, setArgs (clearL T.words un (wordsN p j)) un al al.length, P ++ [⟨f0, pc0, b0, r0, some ⟨tg, 0, none⟩, k, k⟩] ++ [⟨j, 0, un, -1, none, 0, 0⟩], T.marks⟩ X6 := hT6
  clear hmv2 c0 c1 hF6 hf6 hsz hT6 HT5 HF6 PU HT HAL HD
  have SP := Lib.hid sp; clear sp
  have HT7 := Lib.hid hT7; clear hT7
  have HF7 := Lib.hid hF7; clear hF7
  have HW57 := Lib.hid hw57; clear hw57
  go_upto_region 10 with fail
  go_wp2_with fail
  refine SP.out.mono ?_
  rintro e w7 ⟨v4, rfl, ho4, hb4⟩
  obtain ⟨a4, n4, c4, rfl⟩ := ho4.slice
  have hT4 := HT7.out.below hb4
  have q5 := hT4.cells.2.2.2.2.2.1
  have q6 := hT4.cells.2.2.2.2.2.2.1
  have f5 : w7.frozen? ⟨tb, 5, none⟩ = false := (row_cell hT4.row 5).2
  have f6 : w7.frozen? ⟨tb, 6, none⟩ = false := (row_cell hT4.row 6).2
  obtain ⟨hT5, hF5⟩ := hT4.mark ho4 (fun k hk => hk.elim (fun h => HT7.out.flt k h) (fun h => (HT7.out.out k h).2))
  have hF6 := (Fr.of_below hb4 F6).trans hF5 (fun k _ hk => hk)
  have hF8 := HW57.out.trans hF6 (fun k hk1 hk2 => (HF7.out k hk2).elim (fun h => h) (fun h => absurd h (by omega)))
  have hnew : ∀ k, F6 k ∨ (Value.slice a4 n4 c4).ownBlock = some k → F k ∨ w.heap.size ≤ k := fun k hk => by
    rcases hk with h1 | h1
    · exact HF7.out k h1
    · have h2 := own_base ho4 h1
      have h3 := HW57.out.size
      exact .inr (by omega)
  clear hT4 hb4 ho4 hF5 hF6
  have HT5 := Lib.hid hT5; clear hT5
  have HF8 := Lib.hid hF8; clear hF8
  have HNEW := Lib.hid hnew; clear hnew
  go_wp2_with fail
  go_ret
  first | exact ⟨rfl, _, _, HT5.out, HNEW.out, HF8.out⟩ | exact ⟨rfl, _, ⟨_, HT5.out⟩, HNEW.out, HF8.out⟩
end Go.Proofs.Ytmanoclahcpaoaa
