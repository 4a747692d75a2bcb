/- Walk: Task.Defer. -/
import Derived.Test.YtmanoclahcpaoaaTmJ
namespace Go.Proofs.Ytmanoclahcpaoaa
open Go.ChangeShapes Go.WideShapes Go.ChangeAt Go.RowKit Go.Maps

/-- what Defer leaves -/
def DeferPost (w : World) (F : Nat → Prop) (tb : Nat) (p : TPrg) (T : Tk) (D : Nat → Prop) (P : List Part) (q : Part) (M2 : List Mark) (EL : List ThV) (fn : Int) (al : List Int) (wx : World) : Prop :=
  ∃ F' X' ta tn tc ca cc, TaskAt wx F' tb p ⟨T.base, T.words, P ++ [⟨q.fn, q.pc, q.base, q.ret, ta, tn, tc⟩], M2⟩ X' ∧ X'.D = D ∧ Own thkE wx 0 (.slice ta tn tc) (EL ++ [⟨fn, some ⟨ca, 0, none⟩, al.length, cc⟩]) ∧ (∀ j (hj : j < al.length), wx.cell? ⟨ca, j, none⟩ = some (.int .i64 al[j])) ∧ ¬ F' ca ∧ w.heap.size ≤ ca ∧ (∀ k, F' k → F k ∨ w.heap.size ≤ k) ∧ (∀ k, (Value.slice ta tn tc).ownBlock = some k → ¬ F' k ∧ ¬ D k ∧ k ≠ ca ∧ ((Value.slice q.ta q.tn q.tc).ownBlock = some k ∨ w.heap.size ≤ k)) ∧ Fr (fun k => F k ∨ (Value.slice q.ta q.tn q.tc).ownBlock = some k) w wx
theorem defer_step {w5 w6 w7 : World} {F : Nat → Prop} {tb : Nat} {p : TPrg} {T : Tk} {X : TB} {P : List Part} {q : Part} {g n c : Nat} {rv : Value} {ob : Obj} (h : TaskAt w5 F tb p T X) (hP : T.parts = P ++ [q]) (hv : X.pv = .slice (some ⟨g, 0, none⟩) n c) (hb6 : Below w5.drew.heap.size w5.drew w6) (hg7 : (w6.alloc ob).grownBy w7 rv.ownBlock) (hE : ∀ k, rv.ownBlock = some k → ¬ F k ∧ ¬ X.D k) :
    TaskAt w7 F tb p T X ∧ Fr (fun k => rv.ownBlock = some k) w5 w7 ∧ w7.frozen? ⟨g, P.length * 5 + 4, none⟩ = false ∧ w7.cell? ⟨g, P.length * 5 + 4, none⟩ = some (.slice q.ta q.tn q.tc) := by
  have hf : Fr (fun k => rv.ownBlock = some k) w5.drew w7 := ((Fr.of_below hb6 (fun k => rv.ownBlock = some k)).alloc ob).grown hg7 (fun k hk _ => hk)
  have hf5 : Fr (fun k => rv.ownBlock = some k) w5 w7 := (Fr.of_below (Below.refl w5.heap.size w5).drew (fun k => rv.ownBlock = some k)).trans hf (fun _ _ h => h)
  have hT := h.fr hf5 (fun k hk e => (hE k e).1 hk) (fun k hk e => (hE k e).2 hk)
  have h1 : Own partE w7 0 (.slice (some ⟨g, 0, none⟩) n c) (P ++ [q]) := by
    have h2 := hT.parts
    rw [hv, hP] at h2
    exact h2
  exact ⟨hT, hf5, (own_lastc h1 4 _ rfl).2, (own_lastc h1 4 _ rfl).1⟩
theorem defer_fin {w w5 w6 w7 : World} {F F2 : Nat → Prop} {tb : Nat} {p : TPrg} {T : Tk} {X X2 : TB} {P : List Part} {q : Part} {M2 : List Mark} {g n c g7 n7 c7 cb cc : Nat} {ob : Obj} {EL : List ThV} {fn : Int} {al : List Int} (h : TaskAt w7 F2 tb p ⟨T.base, T.words, T.parts, M2⟩ X2) (hX : X2.D = X.D) (hP : T.parts = P ++ [q]) (hv : X2.pv = .slice (some ⟨g, 0, none⟩) n c) (hF : Fr F w w5) (hF2 : ∀ k, F2 k → F k ∨ w.heap.size ≤ k) (hF5 : ∀ k, F2 k → k < w5.heap.size) (hgF : F g) (hb6 : Below w5.drew.heap.size w5.drew w6) (hf5 : Fr (fun k => (Value.slice q.ta q.tn q.tc).ownBlock = some k) w5 w7)
    (hE : ∀ k, (Value.slice q.ta q.tn q.tc).ownBlock = some k → ¬ F k ∧ ¬ X.D k) (hEl : ∀ k, (Value.slice q.ta q.tn q.tc).ownBlock = some k → k < w.heap.size) (hD : ∀ k, X.D k → k < w.heap.size)
    (hc : ∀ j (hj : j < al.length), w6.cell? ⟨cb, j, none⟩ = some (.int .i64 al[j])) (hcb : w5.heap.size ≤ cb) (hcb2 : cb < w6.heap.size) (hg7 : (w6.alloc ob).grownBy w7 (Value.slice q.ta q.tn q.tc).ownBlock)
    (ho7 : Own thkE w7 0 (.slice (some ⟨g7, 0, none⟩) n7 c7) (EL ++ [⟨fn, some ⟨cb, 0, none⟩, al.length, cc⟩])) (hf7 : Fresh (w6.alloc ob) (.slice q.ta q.tn q.tc) (.slice (some ⟨g7, 0, none⟩) n7 c7)) :
    DeferPost w F tb p T X.D P q M2 EL fn al (w7.setCell ⟨g, P.length * 5 + 4, none⟩ (.slice (some ⟨g7, 0, none⟩) n7 c7)) := by
  have hg2 := h.fp g (by rw [hv]; rfl)
  obtain ⟨h1, h2⟩ := h.putPart (y := ⟨q.fn, q.pc, q.base, q.ret, some ⟨g7, 0, none⟩, n7, c7⟩) hP hv 4 (.slice (some ⟨g7, 0, none⟩) n7 c7) rfl
  have hs := hF.size
  have hs6 : w5.heap.size ≤ w6.heap.size := hb6.size
  have hfs : Fr (fun k => k = g) w7 (w7.setCell ⟨g, P.length * 5 + 4, none⟩ (.slice (some ⟨g7, 0, none⟩) n7 c7)) := (Fr.refl (fun k => k = g) w7).setCell (p := ⟨g, P.length * 5 + 4, none⟩) (fun _ => rfl) _
  have hfr : Fr (fun k => (Value.slice q.ta q.tn q.tc).ownBlock = some k) w6 w7 := ((Fr.refl (fun k => (Value.slice q.ta q.tn q.tc).ownBlock = some k) w6).alloc ob).grown hg7 (fun k hk _ => hk)
  have hrow : ∀ k, (Value.slice (some ⟨g7, 0, none⟩) n7 c7).ownBlock = some k → (Value.slice q.ta q.tn q.tc).ownBlock = some k ∨ w6.heap.size + 1 ≤ k := fun k hk => by
    rcases hf7 k hk with h | h
    · exact .inl h
    · simp at h; exact .inr h
  have hgl := hF5 g hg2
  refine ⟨F2, X2, _, _, _, cb, cc, h1, hX, ho7.fr hfs (fun k hk e => ?_), fun j hj => ?_, fun hk => ?_, by omega, hF2, fun k hk => ⟨fun hk2 => ?_, fun hk2 => ?_, fun hk2 => ?_, ?_⟩, ?_⟩
  · rcases hrow k hk with h3 | h3
    · exact (hE k h3).1 (e ▸ hgF)
    · omega
  · exact hfs.cell (hfr.cell (hc j hj) (fun e => by have := hEl cb e; omega)) (fun e => by have e : cb = g := e; omega)
  · have := hF5 cb hk; omega
  · rcases hrow k hk with h3 | h3
    · rcases hF2 k hk2 with h4 | h4
      · exact (hE k h3).1 h4
      · have := hEl k h3; omega
    · have := hF5 k hk2; omega
  · rcases hrow k hk with h3 | h3
    · exact (hE k h3).2 hk2
    · have := hD k hk2; omega
  · rcases hrow k hk with h3 | h3
    · have := hEl k h3; omega
    · omega
  · rcases hrow k hk with h3 | h3
    · exact .inl h3
    · exact .inr (by omega)
  · refine ((hF.mono (fun _ h => .inl h)).trans (hf5.mono (fun _ h => .inr h)) (fun _ _ h => h)).trans (hfs.mono (fun k e => ?_)) (fun _ _ h => h)
    exact .inl (e ▸ hgF)
set_option maxRecDepth 100000 in
set_option maxHeartbeats 3200000 in
theorem tkDefer_any (w : World) (F : Nat → Prop) (tb : Nat) (p : TPrg) (T : Tk) (X : TB) (h : TaskAt w F tb p T X) (hn : T.parts.length ≤ 1000) (P : List Part) (q : Part) (hP : T.parts = P ++ [q]) (M : List Mark) (m : Mark) (hM : T.marks = M ++ [m]) (hl : M.length ≤ 10000) (h0 : 0 ≤ m.thunks) (h16 : m.thunks < 16)
    (fn : Int) (ag : Nat) (al : List Int) (ac : Nat) (hal : ∀ j (hj : j < al.length), w.cell? ⟨ag, j, none⟩ = some (.int .i64 al[j])) (hag : ¬ F ag) (hal1 : 0 < al.length) (hal2 : al.length ≤ 1000)
    (EL : List ThV) (hE : Own thkE w 0 (.slice q.ta q.tn q.tc) EL) (hEl : EL.length ≤ 1000) (hEF : ∀ k, (Value.slice q.ta q.tn q.tc).ownBlock = some k → ¬ F k ∧ ¬ X.D k) :
    Calls Try.prog 18 #[.pointer (some ⟨tb, 0, none⟩), .int .i64 fn, .slice (some ⟨ag, 0, none⟩) al.length ac] w fun e w' => e = .returned (.bool true) ∧ DeferPost w F tb p T X.D P q (M ++ [⟨m.leaving, m.deferred, m.thunks + 1⟩]) EL fn al w' := by
  have hpl : T.parts.length = P.length + 1 := by rw [hP]; simp
  obtain ⟨a, c, hpv, hel⟩ := h.pv
  obtain ⟨g, rfl, hgo, hrst⟩ := hel P.length (by omega)
  clear hrst
  have tp := top_some w F tb p T X h hn P.length hpl g hgo
  rw [hpl] at hpv
  obtain ⟨N, hN⟩ : ∃ N, N = P.length + 1 := ⟨_, rfl⟩
  rw [← hN] at hpv
  have hT := fun wr (hw : Below w.heap.size w wr) => h.below hw
  have sd := fun wr (hw : Below w.heap.size w wr) => stDefer_some wr 0 X.mv M m (by have := (h.below hw).marks; rw [hM] at this; exact this) hl h0 h16
  have q5 := h.cells.2.2.2.2.2.1
  have q6 := h.cells.2.2.2.2.2.2.1
  obtain ⟨a6, n6, c6, hmv2⟩ := h.marks.slice
  rw [hmv2] at sd q5
  have hagl : ag < w.heap.size := World.block_lt (hal 0 hal1)
  have hElt := fun k (hk : (Value.slice q.ta q.tn q.tc).ownBlock = some k) => (hE.lt hk).2
  have hgF := h.fp g hgo
  clear hel hN hM hmv2 h hpl
  have TP := Lib.hid tp; clear tp
  have SD := Lib.hid sd; clear sd
  have HT := Lib.hid hT; clear hT
  have HP := Lib.hid hP; clear hP
  have HPV := Lib.hid hpv; clear hpv
  have HAL := Lib.hid hal; clear hal
  have HE := Lib.hid hE; clear hE
  have HEF := Lib.hid hEF; clear hEF
  have HELT := Lib.hid hElt; clear hElt
  have HGF := Lib.hid hgF; clear hgF
  go_enter Try.func18, Try.ntmps18
  go_wp2_with fail
  refine TP.out.mono ?_
  rintro e w1 ⟨rfl, n1', rfl⟩
  dsimp only
  go_upto_region 4 with fail
  have hb0 : Below w.heap.size w (w.drewN n1') := below_drewN (Below.refl _ _) n1'
  have q5 := below_cell hb0 q5
  have q6 := below_cell hb0 q6
  have HB0 := Lib.hid hb0; clear hb0
  generalize w.drewN n1' = w1 at *
  go_wp2_with fail
  refine (SD.out _ HB0.out).mono ?_
  rintro e w2 ⟨v2, rfl, ho2, hb2⟩
  obtain ⟨a2, n2, c2, rfl⟩ := ho2.slice
  have hb3 := HB0.out.trans (hb2.mono HB0.out.size)
  have hb4 := hb3.alloc hb3.size (.cells #[.slice a2 n2 c2, .slice none 0 0] 64)
  have ho4 := ho2.alloc (.cells #[.slice a2 n2 c2, .slice none 0 0] 64)
  have hrow := heap_new w2 (.cells #[.slice a2 n2 c2, .slice none 0 0] 64)
  obtain ⟨w4, hw4⟩ : ∃ w4, w4 = w2.alloc (.cells #[.slice a2 n2 c2, .slice none 0 0] 64) := ⟨_, rfl⟩
  obtain ⟨lb, hlb⟩ : ∃ lb, lb = w2.heap.size := ⟨_, rfl⟩
  rw [← hw4] at hb4 ho4 hrow
  rw [← hlb] at hrow
  have hwl := HB0.out.size
  clear hb2 hb3 ho2
  have HW4 := Lib.hid hw4; clear hw4
  have HLB := Lib.hid hlb; clear hlb
  have HB4 := Lib.hid hb4; clear hb4
  have HO4 := Lib.hid ho4; clear ho4
  have HROW := Lib.hid hrow; clear hrow
  dsimp only
  go_upto_region 5 with fail
  rw [← HW4.out, ← HLB.out]
  have hT4 := HT.out _ HB4.out
  have k0 : w4.cell? ⟨lb, 0, none⟩ = some (.slice a2 n2 c2) := (row_cell HROW.out 0).1
  have k1 : w4.cell? ⟨lb, 1, none⟩ = some (.slice none 0 0) := (row_cell HROW.out 1).1
  clear q5 q6
  have q5 := hT4.cells.2.2.2.2.2.1
  have q6 := hT4.cells.2.2.2.2.2.2.1
  have f5 : w4.frozen? ⟨tb, 5, none⟩ = false := (row_cell hT4.row 5).2
  have f6 : w4.frozen? ⟨tb, 6, none⟩ = false := (row_cell hT4.row 6).2
  have hw14 := HB4.out.size
  have hTw := HT.out w (Below.refl _ _)
  obtain ⟨hT5, hF5⟩ := hT4.mark (HO4.out.base (B' := w.heap.size) (fun k hk => by have := own_base HO4.out hk; omega)) (fun k hk => hk.elim (fun h => hTw.flt k h) (fun h => (hTw.out k h).2))
  have hF6 := (Fr.of_below HB4.out F).trans hF5 (fun k _ hk => hk)
  have hnew : ∀ k, F k ∨ (Value.slice a2 n2 c2).ownBlock = some k → F k ∨ w.heap.size ≤ k := fun k hk => by
    rcases hk with h1 | h1
    · exact .inl h1
    · exact .inr (by have := own_base HO4.out h1; omega)
  have hD := fun k (hk : X.D k) => (hTw.out k hk).2
  clear hT4 hF5 hTw
  have HT5 := Lib.hid hT5; clear hT5
  have HF6 := Lib.hid hF6; clear hF6
  have HNEW := Lib.hid hnew; clear hnew
  have HD := Lib.hid hD; clear hD
  go_upto_region 7 with fail
  obtain ⟨w5, hw5⟩ : ∃ w5, w5 = (w4.setCell ⟨tb, 5, none⟩ (.slice a2 n2 c2)).setCell ⟨tb, 6, none⟩ (.slice none 0 0) := ⟨_, rfl⟩
  rw [← hw5] at HT5 HF6 ⊢
  clear hw5 q5 q6 f5 f6 k0 k1
  have hsz5 : w.heap.size ≤ w5.heap.size := HF6.out.size
  have hal5 : ∀ j (hj : j < al.length), w5.drew.cell? ⟨ag, j, none⟩ = some (.int .i64 al[j]) := fun j hj => HF6.out.cell (HAL.out j hj) hag
  have cl := cloneInts_any w5.drew ag al ac hal5 (by omega)
  have hpo := HT5.out.parts
  have hpv5 : w5.drew.cell? ⟨g, P.length * 5 + 4, none⟩ = some (.slice q.ta q.tn q.tc) := by
    have h1 : Own partE w5 0 (.slice (some ⟨g, 0, none⟩) N c) (P ++ [q]) := by
      have h2 := HT5.out.parts
      rw [show ({ X with mv := .slice a2 n2 c2 } : TB).pv = X.pv from rfl, HPV.out] at h2
      rw [← HP.out]
      exact h2
    exact (own_lastc h1 4 _ rfl).1
  clear hpo hal5
  have hEF2 : ∀ k, (Value.slice q.ta q.tn q.tc).ownBlock = some k → ¬ (F k ∨ (Value.slice a2 n2 c2).ownBlock = some k) ∧ ¬ X.D k := fun k hk => ⟨fun h => by
    rcases h with h1 | h1
    · exact (HEF.out k hk).1 h1
    · have := own_base HO4.out h1
      have := HELT.out k hk
      omega, (HEF.out k hk).2⟩
  have CL := Lib.hid cl; clear cl
  have HEF2 := Lib.hid hEF2; clear hEF2
  go_cut [] (fun wx => DeferPost w F tb p T X.D P q (M ++ [⟨m.leaving, m.deferred, m.thunks + 1⟩]) EL fn al wx)
  case first =>
    go_region_law (first | (go_simp; go_at_call 36; refine CL.out.mono ?_; rintro e w6 ⟨v6, rfl, ho6, hb6⟩; obtain ⟨ca, cc, rfl, hcel⟩ := own_elems ho6; obtain ⟨cb, rfl, hcob, hc0⟩ := hcel 0 hal1; clear hc0; have kk4 := below_cell hb6 hpv5; have kk5 : g < w6.heap.size := World.block_lt kk4) | (refine step_append_fresh thkE rfl (.tmp 31) (.tmp 36) rfl 0 EL [⟨fn, some ⟨cb, 0, none⟩, al.length, cc⟩] _ rfl (((HE.out.fr HF6.out (fun k hk => (HEF.out k hk).1)).drew.below hb6).alloc _) w6.heap.size 0 1 rfl (CellsAt.new _ _ _ _) (by simp; omega) (by omega) ?_; intro v7 w7 ho7 hg7 hf7; obtain ⟨g7, c7, rfl, hx1, hx2⟩ := own_pop ho7; clear hx1 hx2; obtain ⟨hT7, hf57, f7, k7⟩ := defer_step HT5.out HP.out HPV.out hb6 hg7 HEF2.out))
    all_goals
      have hfin := defer_fin (X := X) hT7 rfl HP.out HPV.out HF6.out HNEW.out HT5.out.flt HGF.out hb6 hf57 HEF.out HELT.out HD.out (fun j hj => by obtain ⟨b', e1, _, e3⟩ := hcel j hj; injection e1 with e1; injection e1 with e1; subst e1; have := e3 0 _ rfl; simpa [intE] using this) (own_base ho6 hcob) (ho6.lt hcob).2 hg7 ho7 hf7
      have HFIN := Lib.hid hfin
      clear hfin hT7 hf57 hb6 hg7 ho7 hf7 ho6 hcel f7 k7
      go_wp2_with fail
      go_meet
      first | exact HFIN.out | (case rel => exact HFIN.out)
  case rest =>
    have HCUT := Lib.hid hcut
    clear hcut
    go_wp2_with fail
    go_ret
    exact ⟨rfl, HCUT.out⟩
end Go.Proofs.Ytmanoclahcpaoaa
