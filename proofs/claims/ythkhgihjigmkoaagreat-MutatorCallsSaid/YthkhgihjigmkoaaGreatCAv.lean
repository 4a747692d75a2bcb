import Derived.Test.YthkhgihjigmkoaaGreatCAq
import Derived.Test.YthkhgihjigmkoaaGreatCAp
import Derived.Test.YthkhgihjigmkoaaGreatCAk
import Derived.Test.YthkhgihjigmkoaaGreatCAt
set_option linter.unusedVariables false
set_option linter.unusedSimpArgs false
namespace Go.Proofs.YthkhgihjigmkoaaGreat.Tk
open Go.ChangeShapes Go.WideShapes Go.ChangeAt Go.RowKit Go.Maps
set_option maxRecDepth 100000 in
set_option maxHeartbeats 1600000 in
theorem tkPanic_any (w : World) (F : Nat → Prop) (tb : Nat) (p : TPrg) (T : Tk) (X : TB) (h : TaskAt w F tb p T X) (hl : T.marks.length ≤ 10000) (hal : X.al.length ≤ 10000) (code ptr : Int) :
  Calls Tryz.prog 122 #[.pointer (some ⟨tb, 0, none⟩), .int .i64 code, .int .i64 ptr] w fun e w' => e = .returned (.tuple #[]) ∧ ∃ F' X', TaskAt w' F' tb p T X' ∧ X'.Q X (X.al ++ [⟨code, ptr, 0, false, false⟩]) X.kf ∧ (∀ k, F' k → F k ∨ w.heap.size ≤ k) ∧ Fr F w w' := by
 have sp := stPanic_any w 0 X.mv T.marks h.marks hl 0 X.av X.al h.alarms hal code ptr
 obtain ⟨_, _, _, _, _, q5, q6, _⟩ := h.cells
 obtain ⟨a6, n6, c6, hmv2⟩ := h.marks.slice
 obtain ⟨a7, n7, c7, hav2⟩ := h.alarms.slice
 rw [hmv2, hav2] at sp
 rw [hmv2] at q5
 rw [hav2] at q6
 clear hmv2 hav2
 have SP := Lib.hid sp; clear sp
 have H := Lib.hid h; clear h
 go_enter Tryz.func122, Tryz.ntmps122
 go_wp2_with fail
 refine SP.out.mono ?_
 rintro e w4 ⟨v4, u4, rfl, ho4, hu4, hb4⟩
 obtain ⟨a4, n4, c4, rfl⟩ := ho4.slice
 obtain ⟨a8, n8, c8, rfl⟩ := hu4.slice
 have hT4 := H.out.below hb4
 have q5 := hT4.cells.2.2.2.2.2.1
 have q6 := hT4.cells.2.2.2.2.2.2.1
 have f5 : w4.frozen? ⟨tb, 5, none⟩ = false := (row_cell hT4.row 5).2
 have f6 : w4.frozen? ⟨tb, 6, none⟩ = false := (row_cell hT4.row 6).2
 obtain ⟨hT5, hF5⟩ := hT4.mark ho4 hu4 (fun k hk => hk.elim (fun h => H.out.flt k h) (fun h => (H.out.out k h).2))
 have hF6 := (Fr.of_below hb4 F).trans hF5 (fun k _ hk => hk)
 have hnew : ∀ k, (F k ∨ (Value.slice a4 n4 c4).ownBlock = some k) ∨ (Value.slice a8 n8 c8).ownBlock = some k → F k ∨ w.heap.size ≤ k := fun k hk => by
  rcases hk with (h1 | h1) | h1
  ·exact .inl h1
  ·exact .inr (own_base ho4 h1)
  ·exact .inr (own_base hu4 h1)
 clear hT4 hb4 ho4 hu4 hF5
 have HT5 := Lib.hid hT5; clear hT5
 have HF6 := Lib.hid hF6; clear hF6
 have HNEW := Lib.hid hnew; clear hnew
 go_wp2_with fail
 go_end0
 exact ⟨rfl, _, _, HT5.out, ⟨rfl, rfl, rfl, rfl⟩, HNEW.out, HF6.out⟩
theorem step_put_map {P : Program} {κ ν : Type} {K : KeyTy P κ} {val : ν → Value} {w : World} {b n : Nat} {f : κ → Option ν} {ops : Array Oper} {o : Oper} {a : Act} {G : Act → World → Prop} {Q : Exit → Act → World → Prop} {F : Prop} [DecidableEq κ] (hg : o.guard = none) (m x v : Operand) (t e : TypeId) (hop : o.op = Op.mapUpdate t m x v) (h : MapIs K val w b n f) (ht : P.underlying t = some (.map K.k e)) (hn : n < maxLen) (k : κ) (hk : K.wf k) (y : ν)
  (hm : a.eval m = .map (some b)) (hx : a.eval x = K.key k) (hv : a.eval v = val y)
  (hK : ∀ w', MapIs K val w' b (if (f k).isSome then n else n + 1) (upd f k (some y)) → w.mapTurned w' b → G (a.put o.dst undef) w') : if Region.wanted o (yielded ops a.tmps) = true then Oper.wp P o a w G Q else F := by
 have hw : Region.wanted o (yielded ops a.tmps) = true := by simp [Region.wanted, hg]
 rw [if_pos hw]
 obtain ⟨w', hrun, r1, r2⟩ := h.put ht hn k hk y
 unfold Oper.wp
 simp [execOp, hop, hm, hx, hv, hrun, Result.andThen]
 exact hK _ r1 r2
set_option maxRecDepth 100000 in
set_option maxHeartbeats 1600000 in
theorem tkKeep_any (w : World) (F : Nat → Prop) (tb : Nat) (p : TPrg) (T : Tk) (X : TB) (h : TaskAt w F tb p T X) (hn : T.parts.length ≤ 1000) (n : Nat) (hl : T.parts.length = n + 1) (hk : X.kc ≤ 1000000) (v : Int) :
  Calls Tryz.prog 124 #[.pointer (some ⟨tb, 0, none⟩), .int .i64 v] w fun e w' => e = .returned (.tuple #[]) ∧ TaskAt w' F tb p T { X with kf := setK X.kf n v, kc := X.kc + 1 } ∧ Fr F w w' := by
 obtain ⟨a, c, hpv, hel⟩ := h.pv
 obtain ⟨g, rfl, hgo, _⟩ := hel n (by omega)
 have tp := top_some w F tb p T X h hn n hl g hgo
 have dp := fun wr (hw : Below w.heap.size w wr) => depth_any wr F tb p T X (h.below hw)
 rw [hl] at dp
 obtain ⟨N, hN⟩ : ∃ N, N = n + 1 := ⟨_, rfl⟩
 rw [← hN] at dp
 have i1 : IntKind.i64.wrap ((N : Int) - 1) = (n : Int) := by rw [show ((N : Int) - 1) = (n : Int) from by omega]; exact IntWalk.i64_in _ (by omega)
 have hdb : i64B (n : Int) := by unfold i64B; omega
 have hz0 : i64B 0 := by unfold i64B; omega
 have hT := fun wr (hw : Below w.heap.size w wr) => h.below hw
 have q7 := h.cells.2.2.2.2.2.2.2
 clear hel hpv hN hn h
 have TP := Lib.hid tp; clear tp
 have DP := Lib.hid dp; clear dp
 have HT := Lib.hid hT; clear hT
 go_enter Tryz.func124, Tryz.ntmps124
 go_wp2_with fail
 refine TP.out.mono ?_
 rintro e w1 ⟨rfl, n1', rfl⟩
 have hb0 : Below w.heap.size w (w.drewN n1') := below_drewN (Below.refl _ _) n1'
 have q7 := below_cell hb0 q7
 have hr0 := hb0.drew
 have HB0 := Lib.hid hb0; clear hb0
 have HR0 := Lib.hid hr0; clear hr0
 obtain ⟨wB, hwB⟩ : ∃ wB, wB = w.drewN n1' := ⟨_, rfl⟩
 rw [← hwB] at HB0 q7 ⊢
 clear hwB HR0
 have dp4 := fun wx (hx : Below wB.heap.size wB wx) => (DP.out wx (HB0.out.trans (hx.mono HB0.out.size))).mono (fun e w' he => (show e = .returned (.int .i64 N) ∧ Below wx.heap.size wx w' from ⟨he.1, by rw [← he.2]; exact Below.refl _ _⟩))
 have DP4 := Lib.hid dp4
 clear dp4
 go_upto_region 1 with fail
 refine wp_region_noPanic ?_
 refine wp_region_held_drew (S := fun w' => w'.cell? ⟨tb, 7, none⟩ = some (.map (some X.kb))) (by kernel_rfl) ((by exact below_cell ((Below.refl wB.heap.size wB).drew) q7)) (fun _ => ?_)
 have HR1 := Lib.hid (Below.refl wB.heap.size wB).drew
 generalize wB.drew = r1 at *
 refine wpAnyH_take (i := 0) (v := ?_) rfl (by kernel_rfl) (by kernel_rfl) (by kernel_rfl) (fun _ _ _ h => h) (Or.inl ⟨by kernel_rfl, ?tq1⟩) (by exact below_cell HR1.out q7) ?_
 case tq1 => (intro wq hq; (try dsimp only at hq); go_simp; first | done | with_reducible rfl)
 refine wpAnyH_take (i := 1) (v := ?_) rfl (by kernel_rfl) (by kernel_rfl) (by kernel_rfl) (fun _ _ _ h => h) (Or.inl ⟨by kernel_rfl, ?tq2⟩) (by exact below_cell HR1.out q7) ?_
 case tq2 => (intro wq hq; (try dsimp only at hq); go_simp; first | done | with_reducible rfl)
 refine wpAnyH_take (i := 2) (v := ?_) rfl (by kernel_rfl) (by kernel_rfl) (by kernel_rfl) (fun _ _ _ h => h) (Or.inl ⟨by kernel_rfl, ?tq3⟩) (by exact below_cell HR1.out q7) ?_
 case tq3 => (intro wq hq; (try dsimp only at hq); go_simp; first | done | with_reducible rfl)
 refine wpAnyH_take (i := 3) (v := ?_) rfl (by kernel_rfl) (by kernel_rfl) (by kernel_rfl) (fun _ _ _ h => h) (Or.inl ⟨by kernel_rfl, ?tq4⟩) (by exact below_cell HR1.out q7) ?_
 case tq4 => (intro wq hq; (try dsimp only at hq); go_simp; first | done | with_reducible rfl)
 refine wpAnyH_take (i := 4) (v := ?_) rfl (by kernel_rfl) (by kernel_rfl) (by kernel_rfl) (fun _ _ _ h => h) (Or.inl ⟨by kernel_rfl, ?tq5⟩) (by exact below_cell HR1.out q7) ?_
 case tq5 => (intro wq hq; (try dsimp only at hq); go_simp; first | done | with_reducible rfl)
 refine wpAnyH_take (i := 8) (v := ?_) rfl (by kernel_rfl) (by kernel_rfl) (by kernel_rfl) (fun _ _ _ h => h) (Or.inl ⟨by kernel_rfl, ?tq6⟩) (by exact below_cell HR1.out q7) ?_
 case tq6 => (intro wq hq; (try dsimp only at hq); go_simp; first | done | with_reducible rfl)
 refine wpAnyH_ready (rs := [5]) (by kernel_rfl) (by simp) ?_
 refine (AllReadyH.cons rfl (fun K hK => ?_) AllReadyH.nil)
 go_simp
 go_at_call 34
 refine (DP4.out r1 HR1.out).mono ?_
 rintro e r2 ⟨rfl, hb⟩
 have HR2 := Lib.hid (HR1.out.trans (hb.mono HR1.out.size))
 clear hb
 refine hK.out _ _ (by exact below_cell HR2.out q7) (fun _ => ?_)
 clear hK K
 refine wpAnyH_take (i := 6) (v := ?_) rfl (by kernel_rfl) (by kernel_rfl) (by kernel_rfl) (fun _ _ _ h => h) (Or.inl ⟨by kernel_rfl, ?tq7⟩) (by exact below_cell HR2.out q7) ?_
 case tq7 => (intro wq hq; (try dsimp only at hq); go_simp; first | done | with_reducible rfl)
 refine wpAnyH_take (i := 7) (v := ?_) rfl (by kernel_rfl) (by kernel_rfl) (by kernel_rfl) (fun _ _ _ h => h) (Or.inl ⟨by kernel_rfl, ?tq8⟩) (by exact below_cell HR2.out q7) ?_
 case tq8 => (intro wq hq; (try dsimp only at hq); go_simp; first | done | with_reducible rfl)
 refine wpAnyH_ready (rs := [9]) (by kernel_rfl) (by simp) ?_
 refine (AllReadyH.cons rfl (fun K hK => ?_) AllReadyH.nil)
 obtain ⟨kn, hkn, hkm⟩ := (HT.out _ (HB0.out.trans (HR2.out.mono HB0.out.size))).kept
 refine step_put_map rfl (.tmp 10) (.tmp 14) (.tmp 15) 91 3 rfl hkm Tryz.underlying91 (by unfold maxLen; omega) ⟨((n : Int), (0 : Int)), hdb, hz0⟩ trivial v rfl rfl rfl ?_
 intro w9 hm9 ht9
 obtain ⟨hA, hB⟩ := (HT.out _ (HB0.out.trans (HR2.out.mono HB0.out.size))).turned (f := setK X.kf n v) (hm9.congr fun a _ => upd_setK X.kf n ⟨hdb, hz0⟩ v a) (X.kc + 1) (by split <;> omega) ht9
 have hC := (Fr.of_below HR2.out F).trans hB (fun _ _ h => h)
 have hD := (Fr.of_below HB0.out F).trans hC (fun _ _ h => h)
 clear hm9 ht9 hB hkm hkn
 have HA := Lib.hid hA
 have HC := Lib.hid hC
 have HD := Lib.hid hD
 clear hA hC hD
 refine hK.out _ _ HA.out.cells.2.2.2.2.2.2.2 (fun _ => ?_)
 clear hK K
 refine wpAnyH_done (by kernel_rfl) ?_ _
 refine NoPanic.normal ?_
 go_wp2_with fail
 go_end0
 exact ⟨rfl, HA.out, HD.out⟩
set_option maxRecDepth 100000 in
set_option maxHeartbeats 1600000 in
theorem tkValue_any (w : World) (F : Nat → Prop) (tb : Nat) (p : TPrg) (T : Tk) (X : TB) (h : TaskAt w F tb p T X) (hn : T.parts.length ≤ 1000) (n : Nat) (hl : T.parts.length = n + 1) (hI : i64B (n : Int) ∧ i64B 0) (x : Int) (b : Bool) (hx : (X.kf ⟨((n : Int), (0 : Int)), hI⟩ = some x ∧ b = true) ∨ (X.kf ⟨((n : Int), (0 : Int)), hI⟩ = none ∧ x = 0 ∧ b = false)) :
  Calls Tryz.prog 92 #[.pointer (some ⟨tb, 0, none⟩)] w fun e w' => e = .returned (.tuple #[.int .i64 x, .bool b]) ∧ Below w.heap.size w w' := by
 have dp4 := fun wx (hw : Below w.heap.size w wx) => (depth_any wx F tb p T X (h.below hw)).mono (fun e w' he => (show e = .returned (.int .i64 (T.parts.length : Nat)) ∧ Below wx.heap.size wx w' from ⟨he.1, by rw [← he.2]; exact Below.refl _ _⟩))
 rw [hl] at dp4
 obtain ⟨N, hN⟩ : ∃ N, N = n + 1 := ⟨_, rfl⟩
 rw [← hN] at dp4
 have i1 : IntKind.i64.wrap ((N : Int) - 1) = (n : Int) := by rw [show ((N : Int) - 1) = (n : Int) from by omega]; exact IntWalk.i64_in _ (by omega)
 have hkk : ∀ wx, Below w.heap.size w wx → wx.cell? ⟨tb, 7, none⟩ = some (.map (some X.kb)) ∧ (Instr.lookup 91 (.map (some X.kb)) (.agg #[.int .i64 n, .int .i64 0]) true).run Tryz.prog wx = .ok (.tuple #[.int .i64 x, .bool b]) wx := fun wx hw => by
  refine ⟨(h.below hw).cells.2.2.2.2.2.2.2, ?_⟩
  obtain ⟨kn, _, hkm⟩ := (h.below hw).kept
  have lk := hkm.look Tryz.underlying91 (zero_int wx) ⟨((n : Int), (0 : Int)), hI⟩ trivial
  rcases hx with ⟨h1, rfl⟩ | ⟨h1, rfl, rfl⟩
  ·exact (lk.1 x h1).2
  ·exact (lk.2 h1).2
 clear hN hl hn hx h
 have DP4 := Lib.hid dp4; clear dp4
 have HKK := Lib.hid hkk; clear hkk
 go_enter Tryz.func92, Tryz.ntmps92
 go_upto_region 3 with fail
 refine wp_region_noPanic ?_
 refine wp_region_held_drew (S := fun w' => Below w.heap.size w w') (by kernel_rfl) (Below.refl _ _).drew (fun _ => ?_)
 have HR1 := Lib.hid (Below.refl w.heap.size w).drew
 generalize w.drew = r1 at *
 refine wpAnyH_take (i := 0) (v := ?_) rfl (by kernel_rfl) (by kernel_rfl) (by kernel_rfl) (fun _ _ _ h => h) (Or.inl ⟨by kernel_rfl, ?tq1⟩) HR1.out ?_
 case tq1 => (intro wq hq; obtain ⟨f0, f1⟩ := HKK.out wq hq; go_simp; first | done | with_reducible rfl)
 refine wpAnyH_take (i := 1) (v := ?_) rfl (by kernel_rfl) (by kernel_rfl) (by kernel_rfl) (fun _ _ _ h => h) (Or.inl ⟨by kernel_rfl, ?tq2⟩) HR1.out ?_
 case tq2 => (intro wq hq; obtain ⟨f0, f1⟩ := HKK.out wq hq; go_simp; first | done | with_reducible rfl)
 refine wpAnyH_take (i := 2) (v := ?_) rfl (by kernel_rfl) (by kernel_rfl) (by kernel_rfl) (fun _ _ _ h => h) (Or.inl ⟨by kernel_rfl, ?tq3⟩) HR1.out ?_
 case tq3 => (intro wq hq; obtain ⟨f0, f1⟩ := HKK.out wq hq; go_simp; first | done | with_reducible rfl)
 refine wpAnyH_take (i := 3) (v := ?_) rfl (by kernel_rfl) (by kernel_rfl) (by kernel_rfl) (fun _ _ _ h => h) (Or.inl ⟨by kernel_rfl, ?tq4⟩) HR1.out ?_
 case tq4 => (intro wq hq; obtain ⟨f0, f1⟩ := HKK.out wq hq; go_simp; first | done | with_reducible rfl)
 refine wpAnyH_take (i := 4) (v := ?_) rfl (by kernel_rfl) (by kernel_rfl) (by kernel_rfl) (fun _ _ _ h => h) (Or.inl ⟨by kernel_rfl, ?tq5⟩) HR1.out ?_
 case tq5 => (intro wq hq; obtain ⟨f0, f1⟩ := HKK.out wq hq; go_simp; first | done | with_reducible rfl)
 refine wpAnyH_ready (rs := [5]) (by kernel_rfl) (by simp) ?_
 refine (AllReadyH.cons rfl (fun K hK => ?_) AllReadyH.nil)
 go_simp
 go_at_call 34
 refine (DP4.out r1 HR1.out).mono ?_
 rintro e r2 ⟨rfl, hb⟩
 have HR2 := Lib.hid (HR1.out.trans (hb.mono HR1.out.size))
 clear hb
 refine hK.out _ _ HR2.out (fun _ => ?_)
 clear hK K
 refine wpAnyH_take (i := 6) (v := ?_) rfl (by kernel_rfl) (by kernel_rfl) (by kernel_rfl) (fun _ _ _ h => h) (Or.inl ⟨by kernel_rfl, ?tq6⟩) HR2.out ?_
 case tq6 => (intro wq hq; obtain ⟨f0, f1⟩ := HKK.out wq hq; go_simp; first | done | with_reducible rfl)
 refine wpAnyH_take (i := 7) (v := ?_) rfl (by kernel_rfl) (by kernel_rfl) (by kernel_rfl) (fun _ _ _ h => h) (Or.inl ⟨by kernel_rfl, ?tq7⟩) HR2.out ?_
 case tq7 => (intro wq hq; obtain ⟨f0, f1⟩ := HKK.out wq hq; go_simp; first | done | with_reducible rfl)
 refine wpAnyH_take (i := 8) (v := ?_) rfl (by kernel_rfl) (by kernel_rfl) (by kernel_rfl) (fun _ _ _ h => h) (Or.inl ⟨by kernel_rfl, ?tq8⟩) HR2.out ?_
 case tq8 => (intro wq hq; obtain ⟨f0, f1⟩ := HKK.out wq hq; go_simp; first | done | with_reducible rfl)
 refine wpAnyH_take (i := 9) (v := ?_) rfl (by kernel_rfl) (by kernel_rfl) (by kernel_rfl) (fun _ _ _ h => h) (Or.inl ⟨by kernel_rfl, ?tq9⟩) HR2.out ?_
 case tq9 => (intro wq hq; obtain ⟨f0, f1⟩ := HKK.out wq hq; go_simp; first | done | with_reducible rfl)
 refine wpAnyH_take (i := 10) (v := ?_) rfl (by kernel_rfl) (by kernel_rfl) (by kernel_rfl) (fun _ _ _ h => h) (Or.inl ⟨by kernel_rfl, ?tq10⟩) HR2.out ?_
 case tq10 => (intro wq hq; obtain ⟨f0, f1⟩ := HKK.out wq hq; go_simp; first | done | with_reducible rfl)
 refine wpAnyH_take (i := 11) (v := ?_) rfl (by kernel_rfl) (by kernel_rfl) (by kernel_rfl) (fun _ _ _ h => h) (Or.inl ⟨by kernel_rfl, ?tq11⟩) HR2.out ?_
 case tq11 => (intro wq hq; obtain ⟨f0, f1⟩ := HKK.out wq hq; go_simp; first | done | with_reducible rfl)
 refine wpAnyH_ready (rs := [12]) (by kernel_rfl) (by simp) ?_
 refine (AllReadyH.cons rfl (fun K hK => ?_) AllReadyH.nil)
 go_simp
 refine hK.out _ _ HR2.out (fun _ => ?_)
 clear hK K
 refine wpAnyH_ready (rs := [13]) (by kernel_rfl) (by simp) ?_
 refine (AllReadyH.cons rfl (fun K hK => ?_) AllReadyH.nil)
 go_simp
 refine hK.out _ _ HR2.out (fun _ => ?_)
 clear hK K
 refine wpAnyH_done (by kernel_rfl) ?_ _
 refine NoPanic.normal ?_
 go_wp2_with fail
 go_ret2
 exact ⟨rfl, HR2.out⟩
end Go.Proofs.YthkhgihjigmkoaaGreat.Tk
namespace Go.Proofs.YthkhgihjigmkoaaGreat.Tk
open Go.ChangeShapes Go.WideShapes Go.ChangeAt Go.RowKit Go.Maps
set_option maxRecDepth 100000 in
set_option maxHeartbeats 1600000 in
theorem tkDeferred_any (w : World) (F : Nat → Prop) (tb : Nat) (p : TPrg) (T : Tk) (X : TB) (h : TaskAt w F tb p T X) (hn : T.parts.length ≤ 1000) (M : List Mark) (m : Mark) (hM : T.marks = M ++ [m]) (hl : T.parts.length = M.length + 1) :
  Calls Tryz.prog 94 #[.pointer (some ⟨tb, 0, none⟩)] w fun e w' => e = .returned (.bool m.deferred) ∧ Below w.heap.size w w' := by
 have hml : T.marks.length = M.length + 1 := by rw [hM]; simp
 obtain ⟨a5, c5, hmv, hmel⟩ := own_elems h.marks
 obtain ⟨mb, rfl, _, hmc⟩ := hmel M.length (by omega)
 have hm : T.marks[M.length]'(by omega) = m := by simp [hM]
 have l1 : w.cell? ⟨mb, M.length * 3 + 1, none⟩ = some (.bool (T.marks[M.length]'(by omega)).deferred) := hmc 1 _ rfl
 rw [hm] at l1
 have q5 := h.cells.2.2.2.2.2.1
 rw [hml] at hmv
 rw [hmv] at q5
 have dp4 := fun wx (hw : Below w.heap.size w wx) => (depth_any wx F tb p T X (h.below hw)).mono (fun e w' he => (show e = .returned (.int .i64 (T.parts.length : Nat)) ∧ Below wx.heap.size wx w' from ⟨he.1, by rw [← he.2]; exact Below.refl _ _⟩))
 rw [hl] at dp4
 obtain ⟨N, hN⟩ : ∃ N, N = M.length + 1 := ⟨_, rfl⟩
 rw [← hN] at dp4 q5
 have i1 : IntKind.i64.wrap ((N : Int) - 1) = (M.length : Int) := by rw [show ((N : Int) - 1) = (M.length : Int) from by omega]; exact IntWalk.i64_in _ (by omega)
 have n1 : (M.length : Int) < (N : Int) := by omega
 have n0 : 0 < N := by omega
 have hkk := fun wx (hw : Below w.heap.size w wx) => And.intro (below_cell hw q5) (below_cell hw l1)
 clear hN hl hn h hm hmc hmel hmv hml hM l1 q5
 generalize M.length = L at *
 obtain ⟨m0, m1, m2⟩ := m
 have DP4 := Lib.hid dp4; clear dp4
 have HKK := Lib.hid hkk; clear hkk
 go_enter Tryz.func94, Tryz.ntmps94
 go_upto_region 1 with fail
 refine wp_region_noPanic ?_
 refine wp_region_held_drew (S := fun w' => Below w.heap.size w w') (by kernel_rfl) (Below.refl _ _).drew (fun _ => ?_)
 have HR1 := Lib.hid (Below.refl w.heap.size w).drew
 generalize w.drew = r1 at *
 refine wpAnyH_take (i := 0) (v := ?_) rfl (by kernel_rfl) (by kernel_rfl) (by kernel_rfl) (fun _ _ _ h => h) (Or.inl ⟨by kernel_rfl, ?tq1⟩) HR1.out ?_
 case tq1 => (intro wq hq; obtain ⟨f0, f1⟩ := HKK.out wq hq; go_simp; first | done | with_reducible rfl)
 refine wpAnyH_ready (rs := [1]) (by kernel_rfl) (by simp) ?_
 refine (AllReadyH.cons rfl (fun K hK => ?_) AllReadyH.nil)
 go_simp
 go_at_call 34
 refine (DP4.out r1 HR1.out).mono ?_
 rintro e r2 ⟨rfl, hb⟩
 have HR2 := Lib.hid (HR1.out.trans (hb.mono HR1.out.size))
 clear hb
 refine hK.out _ _ HR2.out (fun _ => ?_)
 clear hK K
 refine wpAnyH_take (i := 2) (v := ?_) rfl (by kernel_rfl) (by kernel_rfl) (by kernel_rfl) (fun _ _ _ h => h) (Or.inl ⟨by kernel_rfl, ?tq2⟩) HR2.out ?_
 case tq2 => (intro wq hq; obtain ⟨f0, f1⟩ := HKK.out wq hq; go_simp; first | done | with_reducible rfl)
 refine wpAnyH_take (i := 3) (v := ?_) rfl (by kernel_rfl) (by kernel_rfl) (by kernel_rfl) (fun _ _ _ h => h) (Or.inl ⟨by kernel_rfl, ?tq3⟩) HR2.out ?_
 case tq3 => (intro wq hq; obtain ⟨f0, f1⟩ := HKK.out wq hq; go_simp; first | done | with_reducible rfl)
 refine wpAnyH_take (i := 4) (v := ?_) rfl (by kernel_rfl) (by kernel_rfl) (by kernel_rfl) (fun _ _ _ h => h) (Or.inl ⟨by kernel_rfl, ?tq4⟩) HR2.out ?_
 case tq4 => (intro wq hq; obtain ⟨f0, f1⟩ := HKK.out wq hq; go_simp; first | done | with_reducible rfl)
 refine wpAnyH_take (i := 5) (v := ?_) rfl (by kernel_rfl) (by kernel_rfl) (by kernel_rfl) (fun _ _ _ h => h) (Or.inl ⟨by kernel_rfl, ?tq5⟩) HR2.out ?_
 case tq5 => (intro wq hq; obtain ⟨f0, f1⟩ := HKK.out wq hq; go_simp; first | done | with_reducible rfl)
 refine wpAnyH_take (i := 6) (v := ?_) rfl (by kernel_rfl) (by kernel_rfl) (by kernel_rfl) (fun _ _ _ h => h) (Or.inl ⟨by kernel_rfl, ?tq6⟩) HR2.out ?_
 case tq6 => (intro wq hq; obtain ⟨f0, f1⟩ := HKK.out wq hq; go_simp; first | done | with_reducible rfl)
 refine wpAnyH_take (i := 7) (v := ?_) rfl (by kernel_rfl) (by kernel_rfl) (by kernel_rfl) (fun _ _ _ h => h) (Or.inl ⟨by kernel_rfl, ?tq7⟩) HR2.out ?_
 case tq7 => (intro wq hq; obtain ⟨f0, f1⟩ := HKK.out wq hq; go_simp; first | done | with_reducible rfl)
 refine wpAnyH_take (i := 8) (v := ?_) rfl (by kernel_rfl) (by kernel_rfl) (by kernel_rfl) (fun _ _ _ h => h) (Or.inl ⟨by kernel_rfl, ?tq8⟩) HR2.out ?_
 case tq8 => (intro wq hq; obtain ⟨f0, f1⟩ := HKK.out wq hq; go_simp; first | done | with_reducible rfl)
 refine wpAnyH_take (i := 9) (v := ?_) rfl (by kernel_rfl) (by kernel_rfl) (by kernel_rfl) (fun _ _ _ h => h) (Or.inl ⟨by kernel_rfl, ?tq9⟩) HR2.out ?_
 case tq9 => (intro wq hq; obtain ⟨f0, f1⟩ := HKK.out wq hq; go_simp; first | done | with_reducible rfl)
 refine wpAnyH_ready (rs := [10]) (by kernel_rfl) (by simp) ?_
 refine (AllReadyH.cons rfl (fun K hK => ?_) AllReadyH.nil)
 go_simp
 go_at_call 34
 refine (DP4.out r2 HR2.out).mono ?_
 rintro e r3 ⟨rfl, hb⟩
 have HR3 := Lib.hid (HR2.out.trans (hb.mono HR2.out.size))
 clear hb
 refine hK.out _ _ HR3.out (fun _ => ?_)
 clear hK K
 refine wpAnyH_take (i := 11) (v := ?_) rfl (by kernel_rfl) (by kernel_rfl) (by kernel_rfl) (fun _ _ _ h => h) (Or.inl ⟨by kernel_rfl, ?tq10⟩) HR3.out ?_
 case tq10 => (intro wq hq; obtain ⟨f0, f1⟩ := HKK.out wq hq; go_simp; first | done | with_reducible rfl)
 refine wpAnyH_take (i := 12) (v := ?_) rfl (by kernel_rfl) (by kernel_rfl) (by kernel_rfl) (fun _ _ _ h => h) (Or.inl ⟨by kernel_rfl, ?tq11⟩) HR3.out ?_
 case tq11 => (intro wq hq; obtain ⟨f0, f1⟩ := HKK.out wq hq; go_simp; first | done | with_reducible rfl)
 refine wpAnyH_take (i := 13) (v := ?_) rfl (by kernel_rfl) (by kernel_rfl) (by kernel_rfl) (fun _ _ _ h => h) (Or.inl ⟨by kernel_rfl, ?tq12⟩) HR3.out ?_
 case tq12 => (intro wq hq; obtain ⟨f0, f1⟩ := HKK.out wq hq; go_simp; first | done | with_reducible rfl)
 refine wpAnyH_take (i := 14) (v := ?_) rfl (by kernel_rfl) (by kernel_rfl) (by kernel_rfl) (fun _ _ _ h => h) (Or.inl ⟨by kernel_rfl, ?tq13⟩) HR3.out ?_
 case tq13 => (intro wq hq; obtain ⟨f0, f1⟩ := HKK.out wq hq; go_simp; first | done | with_reducible rfl)
 refine wpAnyH_take (i := 15) (v := ?_) rfl (by kernel_rfl) (by kernel_rfl) (by kernel_rfl) (fun _ _ _ h => h) (Or.inl ⟨by kernel_rfl, ?tq14⟩) HR3.out ?_
 case tq14 => (intro wq hq; obtain ⟨f0, f1⟩ := HKK.out wq hq; go_simp; first | done | with_reducible rfl)
 refine wpAnyH_ready (rs := [16]) (by kernel_rfl) (by simp) ?_
 refine (AllReadyH.cons rfl (fun K hK => ?_) AllReadyH.nil)
 go_simp
 refine hK.out _ _ HR3.out (fun _ => ?_)
 clear hK K
 refine wpAnyH_done (by kernel_rfl) ?_ _
 refine NoPanic.normal ?_
 go_wp2_with fail
 go_ret
 exact ⟨rfl, HR3.out⟩
set_option maxRecDepth 100000 in
theorem noRoom_any (w : World) (tb : Nat) (fn x : Int) (nd : ∀ wx, Below w.heap.size w wx → Calls Tryz.prog 15 #[.pointer (some ⟨tb, 0, none⟩), .int .i64 fn] wx fun e w' => e = .returned (.int .i64 x) ∧ Below wx.heap.size wx w') :
  Calls Tryz.prog 91 #[.pointer (some ⟨tb, 0, none⟩), .int .i64 fn] w fun e w' => e = .returned (.agg #[.int .i64 8, .int .i64 0, .int .i64 0, .int .i64 x, .int .i64 0, .bool false, .slice none 0 0]) ∧ Below w.heap.size w w' := by
 have hb0 := (Below.refl w.heap.size w).alloc (Nat.le_refl _) (.cells #[.int .i64 0, .int .i64 0, .int .i64 0, .int .i64 0, .int .i64 0, .bool false, .slice none 0 0] 63)
 have hr0 := heap_new w (.cells #[.int .i64 0, .int .i64 0, .int .i64 0, .int .i64 0, .int .i64 0, .bool false, .slice none 0 0] 63)
 have ND := Lib.hid nd; clear nd
 have HB0 := Lib.hid hb0; clear hb0
 have HR0 := Lib.hid hr0; clear hr0
 go_enter Tryz.func91, Tryz.ntmps91
 go_wp2_with fail
 refine (ND.out _ HB0.out).mono ?_
 rintro e w1 ⟨rfl, hb1⟩
 have hr1 := (Fr.of_below hb1 (fun _ => False)).heap HR0.out (fun h => h)
 obtain ⟨⟨z0, z1, z2, z3, z4, z5, z6⟩, y0, y1, y2, y3, y4, y5, y6⟩ := seven_cells hr1
 have hfs := seven_fr w1 (.int .i64 8) (.int .i64 0) (.int .i64 0) (.int .i64 x) (.int .i64 0) (.bool false) (.slice none 0 0) w.heap.size
 have hrs := seven_row hr1 (.int .i64 8) (.int .i64 0) (.int .i64 0) (.int .i64 x) (.int .i64 0) (.bool false) (.slice none 0 0)
 have hbf := (HB0.out.trans (hb1.mono HB0.out.size)).trans (hfs.below (Nat.le_trans HB0.out.size hb1.size) (fun k e => Nat.le_of_eq e.symm))
 clear hfs hr1 hb1
 have HRS := Lib.hid hrs; clear hrs
 have HBF := Lib.hid hbf; clear hbf
 go_wp2_with fail
 refine bodyPost_ret ?_ rfl ⟨rfl, HBF.out⟩
 have k0 := (row_cell HRS.out 0).1; have k1 := (row_cell HRS.out 1).1; have k2 := (row_cell HRS.out 2).1; have k3 := (row_cell HRS.out 3).1; have k4 := (row_cell HRS.out 4).1; have k5 := (row_cell HRS.out 5).1; have k6 := (row_cell HRS.out 6).1; simp at k0 k1 k2 k3 k4 k5 k6; simp [results, Tryz.results91, go_sem, k0, k1, k2, k3, k4, k5, k6]
end Go.Proofs.YthkhgihjigmkoaaGreat.Tk
