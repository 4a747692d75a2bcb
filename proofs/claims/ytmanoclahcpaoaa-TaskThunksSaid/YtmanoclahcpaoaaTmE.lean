/- Walk: Task.Pop. -/
import Derived.Test.YtmanoclahcpaoaaTmC
import Derived.Test.YtmanoclahcpaoaaTkP
namespace Go.Proofs.Ytmanoclahcpaoaa
open Go.ChangeShapes Go.WideShapes Go.ChangeAt Go.RowKit Go.Maps

theorem step_del_map {P : Program} {κ ν : Type} {K : KeyTy P κ} {val : ν → Value} {w : World} {b n : Nat} {f : κ → Option ν} {ops : Array Oper} {o : Oper} {a : Act} {G : Act → World → Prop} {Q : Exit → Act → World → Prop} {F : Prop} [DecidableEq κ] (hg : o.guard = none) (m x : Operand) (t e : TypeId) (hop : o.op = Op.call { callee := Callee.builtin Builtin.delete, args := #[m, x], argTypes := #[t, K.k] }) (h : MapIs K val w b n f) (ht : P.underlying t = some (.map K.k e)) (k : κ) (hk : K.wf k)
    (hm : a.eval m = .map (some b)) (hx : a.eval x = K.key k)
    (hK : ∀ w', MapIs K val w' b (if (f k).isSome then n - 1 else n) (upd f k none) → w.mapTurned w' b → G (a.put o.dst (.tuple #[])) w') : if Region.wanted o (yielded ops a.tmps) = true then Oper.wp P o a w G Q else F := by
  have hw : Region.wanted o (yielded ops a.tmps) = true := by simp [Region.wanted, hg]
  rw [if_pos hw]
  obtain ⟨w', hrun, r1, r2⟩ := h.del ht k hk o.type
  unfold Oper.wp
  simp [execOp, hop, resolve, invoke, builtin, hm, hx, hrun, Result.andThen]
  exact hK _ r1 r2
theorem TaskAt.turned {w w' : World} {F : Nat → Prop} {tb : Nat} {p : TPrg} {T : Tk} {X : TB} (h : TaskAt w F tb p T X) {n : Nat} {f : { x : Int × Int // i64B x.1 ∧ i64B x.2 } → Option Int} (hm : MapIs spK (Value.int .i64) w' X.kb n f) (hf : ∀ a, f a = none) (ht : w.mapTurned w' X.kb) : TaskAt w' F tb p T X ∧ Fr F w w' := by
  have hr := turned_fr ht
  obtain ⟨_, hk⟩ := h.kept
  refine ⟨?_, hr.mono fun k e => e ▸ h.fk⟩
  constructor
  · exact hr.heap h.row (fun e => map_ne hk h.row e.symm)
  · exact h.prg.fr hr fun k hk e => (h.out k hk).1 (e ▸ h.fk)
  · exact fun k hk => ⟨(h.out k hk).1, Nat.lt_of_lt_of_le (h.out k hk).2 hr.size⟩
  · exact hr.heap h.srow (fun e => map_ne hk h.srow e.symm)
  · exact hr.heap h.wrow (fun e => map_ne hk h.wrow e.symm)
  · exact h.parts.fr hr fun k hk2 e => by obtain ⟨cur, f, hc⟩ := own_row h.parts hk2; exact map_ne hk hc e.symm
  · exact h.marks.fr hr fun k hk2 e => by obtain ⟨cur, f, hc⟩ := own_row h.marks hk2; exact map_ne hk hc e.symm
  · exact Nat.lt_of_lt_of_le h.kb hr.size
  · exact ⟨n, hm.congr fun a _ => hf a⟩
  · exact h.ft
  · exact h.fs
  · exact h.fw
  · exact h.fk
  · exact h.fp
  · exact h.fm
  · exact fun k hk => Nat.lt_of_lt_of_le (h.flt k hk) hr.size
theorem TaskAt.popped {w : World} {F : Nat → Prop} {tb : Nat} {p : TPrg} {T : Tk} {X : TB} {P : List Part} {q : Part} {g n c : Nat} (h : TaskAt w F tb p T X) (hP : T.parts = P ++ [q]) (hv : X.pv = .slice (some ⟨g, 0, none⟩) n c) :
    TaskAt (w.setCell ⟨tb, 4, none⟩ (.slice (some ⟨g, 0, none⟩) P.length c)) F tb p ⟨T.base, T.words, P, T.marks⟩ { X with pv := .slice (some ⟨g, 0, none⟩) P.length c } ∧ Fr F w (w.setCell ⟨tb, 4, none⟩ (.slice (some ⟨g, 0, none⟩) P.length c)) := by
  have hfs : Fr (fun k => k = tb) w (w.setCell ⟨tb, 4, none⟩ (.slice (some ⟨g, 0, none⟩) P.length c)) := (Fr.refl (fun k => k = tb) w).setCell (p := ⟨tb, 4, none⟩) (fun _ => rfl) _
  obtain ⟨d1, d2, d3, d4, d5, d6⟩ := h.distinct
  have ho := h.parts
  rw [hP, hv] at ho
  obtain ⟨g', c', he, _, ho⟩ := own_pop ho
  injection he with e1 e2 e3
  injection e1 with e1
  injection e1 with e1
  subst e1 e3
  have hgo : X.pv.ownBlock = some g := by rw [hv]; rfl
  refine ⟨?_, hfs.mono (fun k e => e ▸ h.ft)⟩
  constructor
  · have := row_set h.row 4 (.slice (some ⟨g, 0, none⟩) P.length c)
    simpa using this
  · exact h.prg.fr hfs fun k hk e => (h.out k hk).1 (e ▸ h.ft)
  · exact fun k hk => ⟨(h.out k hk).1, Nat.lt_of_lt_of_le (h.out k hk).2 hfs.size⟩
  · exact hfs.heap h.srow (fun e => d1 e.symm)
  · exact hfs.heap h.wrow (fun e => d2 e.symm)
  · exact ho.fr hfs (fun k hk e => (d4 k (by rw [hgo]; exact hk)).1 e)
  · exact h.marks.fr hfs (fun k hk e => (d5 k hk).1 e)
  · exact Nat.lt_of_lt_of_le h.kb hfs.size
  · exact h.kept.imp fun n hm => hm.fr hfs (fun e => map_ne hm h.row e)
  · exact h.ft
  · exact h.fs
  · exact h.fw
  · exact h.fk
  · exact fun k hk => h.fp k (by rw [hgo]; exact hk)
  · exact h.fm
  · exact fun k hk => Nat.lt_of_lt_of_le (h.flt k hk) hfs.size
set_option maxRecDepth 100000 in
set_option maxHeartbeats 3200000 in
theorem pop_any (w : World) (F : Nat → Prop) (tb : Nat) (p : TPrg) (T : Tk) (X : TB) (h : TaskAt w F tb p T X) (ht : TkOk T) (P : List Part) (q : Part) (hP : T.parts = P ++ [q]) (M : List Mark) (m : Mark) (hM : T.marks = M ++ [m]) (v : Int) (has : Bool) (T2 : Tk)
    (hno : (has && decide (0 ≤ q.ret) && !m.deferred) = false → T2 = ⟨T.base, T.words, P, M⟩)
    (hset : (has && decide (0 ≤ q.ret) && !m.deferred) = true → ∀ wr F' X', TaskAt wr F' tb p ⟨T.base, T.words, P, M⟩ X' → Calls Try.prog 14 #[.pointer (some ⟨tb, 0, none⟩), .int .i64 q.ret, .int .i64 v] wr fun e w' => e = .returned (.bool true) ∧ TaskAt w' F' tb p T2 X' ∧ Fr F' wr w') :
    Calls Try.prog 16 #[.pointer (some ⟨tb, 0, none⟩), .int .i64 v, .bool has] w fun e w' => e = .returned (.bool true) ∧ ∃ F' X', TaskAt w' F' tb p T2 X' ∧ (∀ k, F' k → F k ∨ w.heap.size ≤ k) ∧ Fr F w w' := by
  have hpl : T.parts.length = P.length + 1 := by rw [hP]; simp
  have hml : T.marks.length = M.length + 1 := by rw [hM]; simp
  obtain ⟨a, c, hpv, hel⟩ := h.pv
  obtain ⟨g, rfl, hgo, k0, k1, k2, k3, k4⟩ := hel P.length (by omega)
  have hq : T.parts[P.length]'(by omega) = q := by simp [hP]
  rw [hq] at k3
  have hpo := h.parts
  rw [hP, hpv] at hpo
  obtain ⟨_, _, hpe, hcc, _⟩ := own_pop hpo
  injection hpe with hx1 hx2 hpe
  clear hx1 hx2
  rw [← hpe] at hcc
  have hcc : P.length ≤ c := by omega
  clear hpo hpe
  obtain ⟨a5, c5, hmv, hmel⟩ := own_elems h.marks
  obtain ⟨mb, rfl, _, hmc⟩ := hmel M.length (by omega)
  have hm : T.marks[M.length]'(by omega) = m := by simp [hM]
  have l1 : w.cell? ⟨mb, M.length * 3 + 1, none⟩ = some (.bool (T.marks[M.length]'(by omega)).deferred) := hmc 1 _ rfl
  rw [hm] at l1
  obtain ⟨q0, q1, q2, q3, q4, q5, q6, q7⟩ := h.cells
  have tp := top_some w F tb p T X h ht.1 P.length hpl g hgo
  have hok1 := ht.1
  have hok2 := ht.2.1
  have dp := fun wr (hw : Below w.heap.size w wr) => depth_any wr F tb p T X (h.below hw)
  have hT := fun wr (hw : Below w.heap.size w wr) => h.below hw
  rw [hpl] at dp hpv
  rw [hml] at hmv
  rw [hpv] at q4
  rw [hmv] at q5
  obtain ⟨N, hN⟩ : ∃ N, N = P.length + 1 := ⟨_, rfl⟩
  obtain ⟨K, hK⟩ : ∃ K, K = M.length + 1 := ⟨_, rfl⟩
  rw [← hN] at dp hpv q4
  rw [← hK] at hmv q5
  have i1 : IntKind.i64.wrap ((N : Int) - 1) = (P.length : Int) := by rw [show ((N : Int) - 1) = (P.length : Int) from by omega]; exact IntWalk.i64_in _ (by omega)
  have i2 : IntKind.i64.wrap ((K : Int) - 1) = (M.length : Int) := by rw [show ((K : Int) - 1) = (M.length : Int) from by omega]; exact IntWalk.i64_in _ (by omega)
  have n1 : (M.length : Int) < (K : Int) := by omega
  have hMl : M.length ≤ 1000 := by omega
  have hdb : i64B (P.length : Int) := by unfold i64B; omega
  have hz0 : i64B 0 := by unfold i64B; omega
  have hHM := Lib.hid hM
  have HPP := Lib.hid hP
  have HMV := Lib.hid hmv
  have HPV := Lib.hid hpv
  clear hel k0 k1 k2 k4 hmel hmc hm hq q0 q1 q2 q3 q6 hpl hml hN hK hM hP hmv hpv h ht hok1 hok2
  have TP := Lib.hid tp; clear tp
  have DP := Lib.hid dp; clear dp
  have HT := Lib.hid hT; clear hT
  have HNO := Lib.hid hno; clear hno
  have HSET := Lib.hid hset; clear hset
  go_enter Try.func16, Try.ntmps16
  go_wp2_with fail
  refine TP.out.mono ?_
  rintro e w1 ⟨rfl, n1', rfl⟩
  dsimp only
  go_upto_region 4 with fail
  have hb0 : Below w.heap.size w (w.drewN n1') := below_drewN (Below.refl _ _) n1'
  have q4 := below_cell hb0 q4
  have q5 := below_cell hb0 q5
  have q7 := below_cell hb0 q7
  have l1 := below_cell hb0 l1
  have k3 := below_cell hb0 k3
  have HB0 := Lib.hid hb0; clear hb0
  generalize w.drewN n1' = w1 at *
  go_quiet (fail)
  have hb1 : Below w1.heap.size w1 (w1.drewN nq) := below_drewN (Below.refl _ _) nq
  have q4 := below_cell hb1 q4
  have q7 := below_cell hb1 q7
  have k3 := below_cell hb1 k3
  have hb2 := HB0.out.trans (hb1.mono HB0.out.size)
  generalize w1.drewN nq = w2 at *
  have hr0 := hb2.drew
  clear l1 q5 hb1
  have HB2 := Lib.hid hb2; clear hb2
  have HR0 := Lib.hid hr0; clear hr0
  go_upto_region 6 with fail
  obtain ⟨kn, hkm⟩ := (HT.out _ HR0.out).kept
  have ht2 : Try.prog.underlying 60 = some (.map spK.k 3) := Try.underlying60
  have HKM := Lib.hid hkm; clear hkm
  have HT2 := Lib.hid ht2; clear ht2
  go_cut [] (fun wx => TaskAt wx F tb p T X ∧ Fr F w wx)
  case first =>
    go_region_law (first | (go_simp; go_at_call 12; refine (DP.out _ HR0.out).mono ?_; rintro e wq ⟨rfl, rfl⟩) | (refine step_del_map rfl (.tmp 36) (.tmp 40) 60 3 rfl HKM.out HT2.out ⟨((P.length : Int), (0 : Int)), hdb, hz0⟩ trivial rfl rfl ?_; intro w9 hm9 ht9))
    all_goals
      obtain ⟨hA, hB⟩ := (HT.out _ HR0.out).turned hm9 (fun a => by unfold upd; split <;> rfl) ht9
      have hC := (Fr.of_below HR0.out F).trans hB (fun _ _ h => h)
      clear hm9 ht9 hB
      have HA := Lib.hid hA; clear hA
      have HC := Lib.hid hC; clear hC
      go_wp2_with fail
      go_meet
      first | exact ⟨HA.out, HC.out⟩ | (case rel => exact ⟨HA.out, HC.out⟩)
  case rest =>
    obtain ⟨hTc, hFc⟩ := hcut
    clear q4 q7 k3
    have q4 := hTc.cells.2.2.2.2.1
    rw [HPV.out] at q4
    have f4 : wc.frozen? ⟨tb, 4, none⟩ = false := (row_cell hTc.row 4).2
    obtain ⟨hTp, hFp⟩ := hTc.popped HPP.out HPV.out
    have hTp := hTp.below (Below.refl _ _).drew
    have hFp := (hFc.trans hFp (fun _ _ h => h)).drew
    clear hTc hFc HKM
    have HTP := Lib.hid hTp; clear hTp
    have HFP := Lib.hid hFp; clear hFp
    go_upto_region 7 with fail
    go_cut [] (fun wx => ∃ X', TaskAt wx F tb p ⟨T.base, T.words, P, T.marks⟩ X' ∧ Fr F w wx)
    case first =>
      go_region_law (fail)
      all_goals
        go_wp2_with fail
        go_meet
        first | exact ⟨_, HTP.out, HFP.out⟩ | (case rel => exact ⟨_, HTP.out, HFP.out⟩)
    case rest =>
      obtain ⟨X2, hT3, hF3⟩ := hcut
      clear q4 f4
      have sp := fun wr (hw : Below wc.heap.size wc wr) => stPop_some wr 0 X2.mv M m (by have := (hT3.below hw).marks; rw [hHM.out] at this; exact this) (by omega)
      have q5 := hT3.cells.2.2.2.2.2.1
      have q6 := hT3.cells.2.2.2.2.2.2.1
      obtain ⟨a6, n6, c6, hmv2⟩ := hT3.marks.slice
      rw [hmv2] at sp q5
      have hw0 := Below.refl wc.heap.size wc
      have SP := Lib.hid sp; clear sp
      have HT3 := Lib.hid hT3; clear hT3
      have HF3 := Lib.hid hF3; clear hF3
      have HMV2 := Lib.hid hmv2; clear hmv2
      have HW0 := Lib.hid hw0; clear hw0
      go_wp2_with fail
      refine (SP.out _ HW0.out).mono ?_
      rintro e w4 ⟨v4, rfl, ho4, hb4⟩
      obtain ⟨a4, n4, c4, rfl⟩ := ho4.slice
      have hT4 := HT3.out.below hb4
      have q5 := hT4.cells.2.2.2.2.2.1
      have q6 := hT4.cells.2.2.2.2.2.2.1
      have f5 : w4.frozen? ⟨tb, 5, none⟩ = false := (row_cell hT4.row 5).2
      have f6 : w4.frozen? ⟨tb, 6, none⟩ = false := (row_cell hT4.row 6).2
      obtain ⟨hT5, hF5⟩ := hT4.mark ho4 (fun k hk => hk.elim (fun h => HT3.out.flt k h) (fun h => (HT3.out.out k h).2))
      have hF6 := (HF3.out.trans (Fr.of_below hb4 F) (fun _ _ h => h)).trans hF5 (fun k _ hk => hk)
      have hnew : ∀ k, F k ∨ (Value.slice a4 n4 c4).ownBlock = some k → F k ∨ w.heap.size ≤ k := fun k hk => by
        rcases hk with h1 | h1
        · exact .inl h1
        · have h2 := own_base ho4 h1
          have h3 := HF3.out.size
          exact .inr (by omega)
      clear hT4 hb4 ho4 hF5
      have HT5 := Lib.hid hT5; clear hT5
      have HF6 := Lib.hid hF6; clear hF6
      have HNEW := Lib.hid hnew; clear hnew
      dsimp only
      go_upto_region 9 with fail
      obtain ⟨w5, hw5⟩ : ∃ w5, w5 = (w4.setCell ⟨tb, 5, none⟩ (.slice a4 n4 c4)).setCell ⟨tb, 6, none⟩ (.slice none 0 0) := ⟨_, rfl⟩
      rw [← hw5] at HT5 HF6 ⊢
      clear hw5 q5 q6 f5 f6
      obtain ⟨rt, hrt⟩ : ∃ rt, rt = q.ret := ⟨_, rfl⟩
      obtain ⟨df, hdf⟩ : ∃ df, df = m.deferred := ⟨_, rfl⟩
      rw [← hrt, ← hdf] at HNO HSET ⊢
      clear hrt hdf
      by_cases hyes : (has && decide (0 ≤ rt) && !df) = true
      · obtain ⟨rfl, hr0', rfl⟩ : has = true ∧ 0 ≤ rt ∧ df = false := by
          simp at hyes
          exact ⟨hyes.1.1, hyes.1.2, hyes.2⟩
        have st := HSET.out hyes _ _ _ HT5.out
        clear hyes HR0
        have ST := Lib.hid st; clear st
        go_wp2_with fail
        refine ST.out.mono ?_
        rintro e w6 ⟨rfl, hT6, hF7⟩
        have hF8 := HF6.out.trans hF7 (fun k hk1 hk2 => (HNEW.out k hk2).elim (fun h => h) (fun h => absurd h (by omega)))
        clear hF7
        have HT6 := Lib.hid hT6; clear hT6
        have HF8 := Lib.hid hF8; clear hF8
        go_wp2_with fail
        go_ret
        exact ⟨rfl, _, _, HT6.out, HNEW.out, HF8.out⟩
      · have hyes : (has && decide (0 ≤ rt) && !df) = false := by simpa using hyes
        have hT2 := HNO.out hyes
        clear HNO HSET HR0
        subst hT2
        have hfin : ∃ F' X', TaskAt w5 F' tb p ⟨T.base, T.words, P, M⟩ X' ∧ (∀ k, F' k → F k ∨ w.heap.size ≤ k) ∧ Fr F w w5 := ⟨_, _, HT5.out, HNEW.out, HF6.out⟩
        clear HT5 HNEW HF6
        have HFIN := Lib.hid hfin; clear hfin
        cases has
        · clear hyes
          go_wp2_with fail
          go_ret
          obtain ⟨F', X', h1, h2, h3⟩ := HFIN.out
          first | exact ⟨rfl, F', X', h1, h2, h3⟩ | exact ⟨rfl, F', ⟨X', h1⟩, h2, h3⟩
        · cases df
          · have hneg : ¬ 0 ≤ rt := by simpa using hyes
            clear hyes
            go_wp2_with fail
            go_ret
            obtain ⟨F', X', h1, h2, h3⟩ := HFIN.out
            first | exact ⟨rfl, F', X', h1, h2, h3⟩ | exact ⟨rfl, F', ⟨X', h1⟩, h2, h3⟩
          · clear hyes
            by_cases hneg : 0 ≤ rt
            · go_wp2_with fail
              go_ret
              obtain ⟨F', X', h1, h2, h3⟩ := HFIN.out
              first | exact ⟨rfl, F', X', h1, h2, h3⟩ | exact ⟨rfl, F', ⟨X', h1⟩, h2, h3⟩
            · go_wp2_with fail
              go_ret
              obtain ⟨F', X', h1, h2, h3⟩ := HFIN.out
              first | exact ⟨rfl, F', X', h1, h2, h3⟩ | exact ⟨rfl, F', ⟨X', h1⟩, h2, h3⟩
end Go.Proofs.Ytmanoclahcpaoaa
