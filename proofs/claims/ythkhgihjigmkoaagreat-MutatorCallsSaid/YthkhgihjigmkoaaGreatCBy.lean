import Derived.Test.YthkhgihjigmkoaaGreatCBw
import Derived.Test.YthkhgihjigmkoaaGreatCBx
import Derived.Test.YthkhgihjigmkoaaGreatCAz
import Derived.Test.YthkhgihjigmkoaaGreatCAa
import Derived.ProofKit
set_option linter.unusedVariables false
set_option linter.unusedSimpArgs false
namespace Go.Proofs.YthkhgihjigmkoaaGreat.Tk
open Go.ChangeShapes Go.WideShapes Go.ChangeAt Go.RowKit Go.Maps
theorem below_of_drew {w w' : World} (h : ∃ m, w' = w.drewN m) : Below w.heap.size w w' := by
 obtain ⟨m, rfl⟩ := h
 exact below_drewN (Below.refl _ _) m
section
variable {w : World} {F : Nat → Prop} {tb : Nat} {X : TB} {B : Int} {ws : List Int}
theorem stepC_sub (h : TaskAt w F tb qC (K1 B 0 ws false) X) (hA : X.al = []) (hw : 11 ≤ ws.length ∧ ws.length ≤ 100) (D : Nat → Prop) (hD : ∀ k, D k → ¬ F k ∧ k < w.heap.size) (x y : Int) (hx : ws[7]? = some x) (hy : ws[8]? = some y) (c0 c1 c2 : Value) (ma : Option Addr) (hv : PrgVal w D (pC x y) c0 c1 c2) :
  Calls Tryz.prog 30 #[.agg #[c0, c1, c2], .pointer ma, .pointer (some ⟨tb, 0, none⟩)] w (RunPost w F tb qC X (K1 B 1 (ws.set 10 (doV 4 x y).1) false) (actV 0 0 0 0 0 false (.slice none 0 0))) := by
 refine step_run w F tb qC (K1 B 0 ws false) X h (by show 2 ≤ 1000; decide) (by rw [hA]; rfl) (by show 2 ≤ 10000; decide) (by rw [hA]; exact Nat.zero_le _) [⟨0, 2, 0, -1, none, 0, 0⟩] ⟨1, 0, 5, 0, none, 0, 0⟩ rfl D hD (pC x y) _ _ _ ma hv 1 (by show 1 < 2; decide) rfl 0 rfl (by show 0 < 2; decide) ⟨4, 3, 0, 1⟩ rfl _ 0 0 0 0 0 false none 0 0 (fun wr hb => ?_)
 exact run_do4 wr F tb qC (K1 B 0 ws false) X (h.below hb) (K1_ok B 0 ws false hw.2) [⟨0, 2, 0, -1, none, 0, 0⟩] ⟨1, 0, 5, 0, none, 0, 0⟩ rfl (by decide) 1 (by decide) rfl 5 rfl 3 0 1 (by decide) (by decide) (by show 5 + (2 + 3) < ws.length ∧ 5 + (2 + 0) < ws.length ∧ 5 + (2 + 1) < ws.length; omega) x y hx hy _ _ _ _
theorem stepC_ret (h : TaskAt w F tb qC (K1 B 1 ws false) X) (hA : X.al = []) (hk : X.kc ≤ 1000) (hw : 11 ≤ ws.length ∧ ws.length ≤ 100) (D : Nat → Prop) (hD : ∀ k, D k → ¬ F k ∧ k < w.heap.size) (x y v : Int) (hz : ws[10]? = some v) (c0 c1 c2 : Value) (ma : Option Addr) (hv : PrgVal w D (pC x y) c0 c1 c2) :
  Calls Tryz.prog 30 #[.agg #[c0, c1, c2], .pointer ma, .pointer (some ⟨tb, 0, none⟩)] w (RunPostG w F tb qC { X with kf := setK X.kf 1 v, kc := X.kc + 1 } (K1 B 1 ws true) [] (setK X.kf 1 v) (actV 0 0 0 0 0 false (.slice none 0 0))) := by
 obtain ⟨a0, n0, m0, a1, n1, m1, bb, o, m2, rfl, rfl, rfl, hbb, _, r1⟩ := resC hv
 have hok := K1_ok B 1 ws false hw.2
 refine step_runX w F tb qC (K1 B 1 ws false) X h (by show 2 ≤ 1000; decide) (by rw [hA]; rfl) (by show 2 ≤ 10000; decide) (by rw [hA]; exact Nat.zero_le _) [⟨0, 2, 0, -1, none, 0, 0⟩] ⟨1, 1, 5, 0, none, 0, 0⟩ rfl D hD (pC x y) _ _ _ ma hv 1 (by show 1 < 2; decide) rfl 1 rfl (by show 1 < 2; decide) ⟨22, 3, 0, 0⟩ rfl { X with kf := setK X.kf 1 v, kc := X.kc + 1 } rfl _ _ _ 0 0 0 0 0 false none 0 0 (fun wr hb => ?_)
 refine run_X22 wr F tb qC (K1 B 1 ws false) X (h.below hb) _ _ _ _ 3 0 0 { X with kf := setK X.kf 1 v, kc := X.kc + 1 } rfl _ _ _ 0 0 0 0 0 false none 0 0 (fun wq hq => ?_)
 have hbq := hb.trans (hq.mono hb.size)
 have hTq := h.below hbq
 have := calls_ret wq F tb qC (K1 B 1 ws false) X hTq (.slice a0 n0 m0) (.slice a1 n1 m1) (.pointer ma) 3 0 0 1 bb o 2 m2 (by decide) 1 (by decide) (fun wx hx => below_cell (hbq.trans (hx.mono hbq.size)) r1)
  (fun wx hx => (fn_some wx F tb qC (K1 B 1 ws false) X (hTq.below hx) (by show 2 ≤ 1000; decide) 1 rfl).mono (fun e w' he => (show e = .returned (.int .i64 (1 : Nat)) ∧ Below wx.heap.size wx w' from ⟨he.1, below_of_drew he.2⟩)))
  v (fun wx hx => slotC1 (hTq.below hx) hw 3 (by decide) v hz)
  { X with kf := setK X.kf 1 v, kc := X.kc + 1 } (fun wx hx => tkKeep_any wx F tb qC (K1 B 1 ws false) X (hTq.below hx) (by show 2 ≤ 1000; decide) 1 rfl (by omega) v)
  (K1 B 1 ws true) rfl (fun wx hT => tkLeave_any wx F tb qC (K1 B 1 ws false) _ hT [⟨false, false, 0⟩] ⟨false, false, 0⟩ rfl (by show 1 ≤ 10000; decide) (by show X.al.length ≤ 10000; rw [hA]; exact Nat.zero_le _))
 rw [show ({ X with kf := setK X.kf 1 v, kc := X.kc + 1 } : TB).al = [] from hA] at this
 exact this
def slC (d : Nat) : Nat := if d = 0 then 3 else 4
theorem fitsC0 (B pc : Int) (ws : List Int) (h : 5 ≤ ws.length) : Fits qC (K0 B pc ws) slC := ⟨rfl, fun d hd => by
 have : d < 1 := hd
 obtain rfl : d = 0 := by omega
 exact ⟨0, by decide, rfl, rfl, 0, rfl, by rw [qC_words0]; show 0 + 5 ≤ ws.length; omega⟩⟩
theorem fitsC1 (B pc : Int) (ws : List Int) (lv : Bool) (h : 11 ≤ ws.length) : Fits qC (K1 B pc ws lv) slC := ⟨rfl, fun d hd => by
 have : d < 2 := hd
 obtain rfl | rfl : d = 0 ∨ d = 1 := by omega
 ·exact ⟨0, by decide, rfl, rfl, 0, rfl, by rw [qC_words0]; show 0 + 5 ≤ ws.length; omega⟩
 ·exact ⟨1, by decide, rfl, rfl, 5, rfl, by rw [qC_words1]; show 5 + 6 ≤ ws.length; omega⟩⟩
theorem lifeC1 {pc : Int} {lv : Bool} (h : TaskAt w F tb qC (K1 B pc ws lv) X) (hA : X.al = []) (hw : 11 ≤ ws.length ∧ ws.length ≤ 100) :
  Calls Tryz.prog 21 #[.pointer (some ⟨tb, 0, none⟩)] w (LifePost w [] (fun _ _ => True)) := by
 refine (lifeAll_any w F tb qC (K1 B pc ws lv) X h qC_small (K1_ok B pc ws lv hw.2) slC (fitsC1 B pc ws lv hw.1) (fun q hq => ?_) (by rw [hA]; exact Nat.zero_le _)).mono ?_
 ·have h1 : q ∈ ([⟨0, 2, 0, -1, none, 0, 0⟩, ⟨1, pc, 5, 0, none, 0, 0⟩] : List Part) := hq
  simp at h1
  rcases h1 with h1 | h1 <;> rw [h1]
 ·rintro e w' ⟨fr, v, av, g1, g2, g3, rfl, ha, _, hv, _, _, _, hb⟩
  obtain ⟨a3, n3, c3, rfl⟩ := hv.slice
  obtain ⟨a5, n5, c5, rfl⟩ := ha.slice
  rw [hA] at ha
  exact ⟨_, _, _, _, _, _, _, _, _, _, _, rfl, ha, trivial, hb⟩
theorem lifeC0 {pc : Int} (h : TaskAt w F tb qC (K0 B pc ws) X) (hA : X.al = []) (hw : 11 ≤ ws.length ∧ ws.length ≤ 100) :
  Calls Tryz.prog 21 #[.pointer (some ⟨tb, 0, none⟩)] w (LifePost w [] (fun wy v => ∃ g c, v = .slice (some ⟨g, 0, none⟩) (0 + 1) c ∧ wy.cell? ⟨g, 0 * 9 + 3, none⟩ = some (.bool false))) := by
 refine (lifeAll_any w F tb qC (K0 B pc ws) X h qC_small (K0_ok B pc ws hw.2) slC (fitsC0 B pc ws (by omega)) (fun q hq => ?_) (by rw [hA]; exact Nat.zero_le _)).mono ?_
 ·have h1 : q ∈ ([⟨0, pc, 0, -1, none, 0, 0⟩] : List Part) := hq
  simp at h1
  rw [h1]
 ·rintro e w' ⟨fr, v, av, g1, g2, g3, rfl, ha, hsp, hv, hfl, _, _, hb⟩
  have hfl : fr.length = 1 := hfl
  obtain ⟨a3, c3, rfl, hel⟩ := own_elems hv
  obtain ⟨a5, n5, c5, rfl⟩ := ha.slice
  obtain ⟨g, rfl, _, hc⟩ := hel 0 (by omega)
  obtain ⟨q, m, _, hm, _, _, _, h3, _⟩ := hsp 0 (by omega)
  have hm : some (⟨false, false, 0⟩ : Mark) = some m := hm
  injection hm with hm
  rw [hA] at ha
  refine ⟨_, _, _, _, _, _, _, _, _, _, _, rfl, ha, ⟨g, c3, by rw [hfl], ?_⟩, hb⟩
  have := hc 3 _ rfl
  rw [h3, ← hm] at this
  exact this
theorem stepC_pop (h : TaskAt w F tb qC (K1 B 1 ws true) X) (hA : X.al = []) (v : Int) (kf0 : { x : Int × Int // i64B x.1 ∧ i64B x.2 } → Option Int) (hk : X.kf = setK kf0 1 v) (hw : 11 ≤ ws.length ∧ ws.length ≤ 100) (D : Nat → Prop) (hD : ∀ k, D k → ¬ F k ∧ k < w.heap.size) (x y : Int) (c0 c1 c2 : Value) (ma : Option Addr) (hv : PrgVal w D (pC x y) c0 c1 c2) :
  Calls Tryz.prog 30 #[.agg #[c0, c1, c2], .pointer ma, .pointer (some ⟨tb, 0, none⟩)] w (RunPostG w F tb qC X (K0 B 3 (ws.set 2 v)) [] (delK X.kf 1) (actV 0 0 0 0 0 false (.slice none 0 0))) := by
 obtain ⟨a0, n0, m0, a1, n1, m1, bb, o, m2, rfl, rfl, rfl, hbb, _, r1⟩ := resC hv
 have hok := K1_ok B 1 ws true hw.2
 have hI : i64B ((1 : Nat) : Int) ∧ i64B 0 := by constructor <;> unfold i64B <;> omega
 have hkv : X.kf ⟨(((1 : Nat) : Int), (0 : Int)), hI⟩ = some v := by
  rw [hk]; unfold setK; rw [if_pos rfl]
 have hw2 : 11 ≤ (ws.set 2 v).length ∧ (ws.set 2 v).length ≤ 100 := by simpa using hw
 refine step_popG w F tb qC (K1 B 1 ws true) X h (by rw [hA]; rfl) (by show 2 ≤ 10000; decide) (by rw [hA]; exact Nat.zero_le _) _ _ _ _ _ _ _ _ _ ma _ _ _ 0 0 0 0 0 false none 0 0 (fun wr hb => ?_)
 have hT := h.below hb
 exact pop_go wr F tb qC X hT.flt (.slice a0 n0 m0) (.slice a1 n1 m1) 1 bb o 2 m2 (by decide) 1 (by decide) (fun wx hx => below_cell (hb.trans (hx.mono hb.size)) r1) ⟨_, _, _, _, _, _, rfl, rfl⟩ v true
  (fun wx hx => tkValue_any wx F tb qC (K1 B 1 ws true) X (hT.below hx) (by show 2 ≤ 1000; decide) 1 rfl hI v true (.inl ⟨hkv, rfl⟩))
  (fun wx hx => (fn_some wx F tb qC (K1 B 1 ws true) X (hT.below hx) (by show 2 ≤ 1000; decide) 1 rfl).mono (fun e w' he => (show e = .returned (.int .i64 (1 : Nat)) ∧ Below wx.heap.size wx w' from ⟨he.1, below_of_drew he.2⟩)))
  (fun wx hx => lifeC1 (hT.below hx) hA hw)
  (fun wx hx => tkDeferred_any wx F tb qC (K1 B 1 ws true) X (hT.below hx) (by show 2 ≤ 1000; decide) [⟨false, false, 0⟩] ⟨true, false, 0⟩ rfl rfl)
  (K0 B 2 (ws.set 2 v)) (delK X.kf 1)
  (fun wx hx => pop_any wx F tb qC (K1 B 1 ws true) X (hT.below hx) hok [⟨0, 2, 0, -1, none, 0, 0⟩] ⟨1, 1, 5, 0, none, 0, 0⟩ rfl [⟨false, false, 0⟩] ⟨true, false, 0⟩ rfl v true (K0 B 2 (ws.set 2 v)) [⟨false, false, 0⟩] [] (fun wy mv av h1 h2 => by rw [hA] at h2; exact stPop_some wy 0 mv _ _ h1 (by show 1 ≤ 9000; decide) 0 av h2) (fun e => absurd e (by decide)) (fun _ wy F' X' hT' => by
   have := set_in wy F' tb qC (K0 B 2 ws) X' hT' (K0_ok B 2 ws hw.2) 0 rfl 0 (by decide) rfl 0 rfl 0 (by decide) (by decide) (by show 0 + (2 + 0) < ws.length; omega) v
   exact this))
  0 (fun wx F1 X1 hT1 hA1 => lifeC0 hT1 hA1 hw2) (by decide) 2 (by decide)
  (fun wx F1 X1 hT1 => (pc_some wx F1 tb qC (K0 B 2 (ws.set 2 v)) X1 hT1 (by show 1 ≤ 1000; decide) 0 rfl).mono (fun e w' he => (show e = .returned (.int .i64 2) ∧ Below wx.heap.size wx w' from ⟨he.1, below_of_drew he.2⟩)))
  (K0 B 3 (ws.set 2 v)) (fun wx F1 X1 hT1 => goto_any wx F1 tb qC (K0 B 2 (ws.set 2 v)) X1 hT1 (by show 1 ≤ 1000; decide) [] ⟨0, 2, 0, -1, none, 0, 0⟩ rfl 3) (fun k hk => (hT.out k hk).2)
theorem plC {mb b nm : Nat} {C : Nat} {V : Nat → Prop} {Ms : Nat → Flo} (hMs : ∀ i, i < 2 → Ms i = tblF (tC i)) (hm : MapsAt w C mb b nm V (allM 2 Ms)) :
  Calls Tryz.prog 49 #[.pointer (some ⟨mb, 0, none⟩), .int .i64 0, .int .i64 2] w fun e w' => e = .returned (.int .u16 (0 : Nat)) ∧ Below w.heap.size w w' := by
 have hI : i64B 0 ∧ i64B 2 := ⟨⟨by omega, by omega⟩, ⟨by omega, by omega⟩⟩
 have hrow : ∀ i q K, tblF (tC i) q = some K → K.length ≤ 16 := fun i q K h => by
  unfold tblF tC at h
  split at h
  ·rcases q with _ | _ | _ | _ | q
   ·injection h with h; rw [← h]; simp
   ·injection h with h; rw [← h]; simp
   ·injection h with h; rw [← h]; simp
   ·injection h with h; rw [← h]; simp
   ·cases h
  ·rcases q with _ | _ | q
   ·injection h with h; rw [← h]; simp
   ·injection h with h; rw [← h]; simp
   ·cases h
 have hcl : ∀ x K, allM 2 Ms x = some K → K.length ≤ 16 := fun x K hx => by
  unfold allM at hx
  split at hx
  ·next h1 =>
   split at hx
   ·rw [hMs _ (by have := h1.2; omega)] at hx
    exact hrow _ _ _ hx
   ·cases hx
  ·cases hx
 have := mplaces_any w C mb b nm V _ hm 0 2 hI hcl
 have e : allM 2 Ms ⟨((0 : Int), (2 : Int)), hI⟩ = tblF (tC 0) 2 := by
  unfold allM
  rw [if_pos (by simp), if_pos (by simp)]
  show Ms 0 _ = _
  rw [hMs 0 (by omega)]
  simp
 rw [e] at this
 exact this
theorem moveC (h : TaskAt w F tb qC (K0 B 2 ws) X) (hB : baseOk B) (hw : 5 ≤ ws.length ∧ ws.length < 11) (x y : Int) (hx : ws[3]? = some x) (hy : ws[4]? = some y) {C mb b nm : Nat} {V : Nat → Prop} {Ms : Nat → Flo} (hMs : ∀ i, i < 2 → Ms i = tblF (tC i)) (hm : ∀ wr, Below w.heap.size w wr → MapsAt wr C mb b nm V (allM 2 Ms)) :
  Calls Tryz.prog 14 #[.pointer (some ⟨tb, 0, none⟩), .pointer (some ⟨mb, 0, none⟩), .int .i64 5, .int .i64 11] w fun e w' => e = .returned (.bool true) ∧ ∃ L F' X', L.length = 11 ∧ L[3]? = some x ∧ L[4]? = some y ∧ TaskAt w' F' tb qC (K0 1073782784 2 L) X' ∧ X'.Q X X.al X.kf ∧ (∀ k, F' k → F k ∨ w.heap.size ≤ k) ∧ Fr F w w' := by
 have hd0 : ∀ d, d < (K0 B 2 ws).parts.length → d = 0 := fun d hd => by have : d < 1 := hd; omega
 refine (move_any w F tb qC (K0 B 2 ws) X h qC_small (K0_ok B 2 ws (by omega)) hB (by show 1 ≤ ws.length; omega) (by show ws.length ≤ 4096; omega) (.pointer (some ⟨mb, 0, none⟩)) (fun _ => 0) (fun wr hw d hd => ?_) (fun _ _ => by omega) 5 (by omega) 11 (by omega) (by omega) ?_ (fun d hd k hk => by simp at hk)).mono ?_
 ·obtain rfl := hd0 d hd
  exact plC hMs (hm wr hw)
 ·rw [usedC0]; decide
 ·rintro e w' ⟨rfl, L, F', X', ⟨h0, hget⟩, hT, hQ, hF, hf⟩
  have hno : ∀ o, ¬ hitS (K0 B 2 ws) (fun _ => 0) (K0 B 2 ws).parts.length 0 o := fun o ⟨d, k, hd, _, hk, e⟩ => by simp at hk
  refine ⟨rfl, L, F', X', h0, ?_, ?_, hT, hQ, hF, hf⟩
  ·rw [(hget 3 (by omega)).2 (hno 3)]
   show some (ws.getD 3 0) = _
   rw [List.getD_eq_getElem?_getD, hx]; rfl
  ·rw [(hget 4 (by omega)).2 (hno 4)]
   show some (ws.getD 4 0) = _
   rw [List.getD_eq_getElem?_getD, hy]; rfl
def stC (B : Int) (ws : List Int) (v : Int) (k : Nat) : Tk := if k = 0 then K1 B 0 ws false else if k = 1 then K1 B 1 (ws.set 10 v) false else if k = 2 then K1 B 1 (ws.set 10 v) true else K0 B 3 ((ws.set 10 v).set 2 v)
def StX (v : Int) (k : Nat) (X : TB) : Prop := X.al = [] ∧ X.kc ≤ k ∧ (k = 2 → ∃ kf0, X.kf = setK kf0 1 v)
theorem stepC_k (k : Nat) (hk : k < 3) (v : Int) (h : TaskAt w F tb qC (stC B ws v k) X) (hX : StX v k X) (hw : 11 ≤ ws.length ∧ ws.length ≤ 100) (D : Nat → Prop) (hD : ∀ k, D k → ¬ F k ∧ k < w.heap.size) (x y : Int) (hx : ws[7]? = some x) (hy : ws[8]? = some y) (hvv : (doV 4 x y).1 = v) (c0 c1 c2 : Value) (ma : Option Addr) (hv : PrgVal w D (pC x y) c0 c1 c2) :
  Calls Tryz.prog 30 #[.agg #[c0, c1, c2], .pointer ma, .pointer (some ⟨tb, 0, none⟩)] w fun e w' => e = .returned (actV 0 0 0 0 0 false (.slice none 0 0)) ∧ ∃ F' X', TaskAt w' F' tb qC (stC B ws v (k + 1)) X' ∧ StX v (k + 1) X' ∧ (∀ k, F' k → F k ∨ w.heap.size ≤ k) ∧ Fr F w w' := by
 have hw2 : 11 ≤ (ws.set 10 v).length ∧ (ws.set 10 v).length ≤ 100 := by simpa using hw
 have hz : (ws.set 10 v)[10]? = some v := by rw [List.getElem?_set_self (by omega)]
 obtain ⟨hA, hkc, hkf⟩ := hX
 obtain rfl | rfl | rfl : k = 0 ∨ k = 1 ∨ k = 2 := by omega
 ·have := stepC_sub h hA hw D hD x y hx hy c0 c1 c2 ma hv
  rw [hvv] at this
  refine this.mono ?_
  rintro e w' ⟨rfl, F', X', hT, ⟨q1, q2, q3, q4⟩, hF, hf⟩
  exact ⟨rfl, F', X', hT, ⟨by rw [q2, hA], by omega, fun e => absurd e (by decide)⟩, hF, hf⟩
 ·refine (stepC_ret h hA (by omega) hw2 D hD x y v hz c0 c1 c2 ma hv).mono ?_
  rintro e w' ⟨rfl, F', X', hT, ⟨q1, q2, q3, q4⟩, hF, hf⟩
  have q4 : X'.kc = X.kc + 1 := q4
  exact ⟨rfl, F', X', hT, ⟨q2, by omega, fun _ => ⟨_, q3⟩⟩, hF, hf⟩
 ·obtain ⟨kf0, hkf0⟩ := hkf rfl
  refine (stepC_pop h hA v kf0 hkf0 hw2 D hD x y c0 c1 c2 ma hv).mono ?_
  rintro e w' ⟨rfl, F', X', hT, ⟨q1, q2, q3, q4⟩, hF, hf⟩
  exact ⟨rfl, F', X', hT, ⟨q2, by omega, fun e => absurd e (by decide)⟩, hF, hf⟩
theorem stC_end (v : Int) (hw : 11 ≤ ws.length) (x y : Int) (hx : ws[3]? = some x) (hy : ws[4]? = some y) : ((ws.set 10 v).set 2 v)[2]? = some v ∧ ((ws.set 10 v).set 2 v)[3]? = some x ∧ ((ws.set 10 v).set 2 v)[4]? = some y := by
 refine ⟨?_, ?_, ?_⟩ <;> simp [List.getElem?_set] <;> first | omega | assumption
theorem depC1 {pc : Int} {lv : Bool} (h : TaskAt w F tb qC (K1 B pc ws lv) X) : Calls Tryz.prog 34 #[.pointer (some ⟨tb, 0, none⟩)] w fun e w' => e = .returned (.int .i64 2) ∧ Below w.heap.size w w' :=
 (depth_any w F tb qC _ X h).mono (fun e w' he => ⟨he.1, by rw [← he.2]; exact Below.refl _ _⟩)
theorem depC0 {pc : Int} (h : TaskAt w F tb qC (K0 B pc ws) X) : Calls Tryz.prog 34 #[.pointer (some ⟨tb, 0, none⟩)] w fun e w' => e = .returned (.int .i64 1) ∧ Below w.heap.size w w' :=
 (depth_any w F tb qC _ X h).mono (fun e w' he => ⟨he.1, by rw [← he.2]; exact Below.refl _ _⟩)
theorem fnC1 {pc : Int} {lv : Bool} (h : TaskAt w F tb qC (K1 B pc ws lv) X) : Calls Tryz.prog 38 #[.pointer (some ⟨tb, 0, none⟩)] w fun e w' => e = .returned (.int .i64 1) ∧ Below w.heap.size w w' :=
 (fn_some w F tb qC _ X h (by show 2 ≤ 1000; decide) 1 rfl).mono (fun e w' he => ⟨he.1, below_of_drew he.2⟩)
theorem pcC0 {pc : Int} (h : TaskAt w F tb qC (K0 B pc ws) X) : Calls Tryz.prog 31 #[.pointer (some ⟨tb, 0, none⟩)] w fun e w' => e = .returned (.int .i64 pc) ∧ Below w.heap.size w w' :=
 (pc_some w F tb qC _ X h (by show 1 ≤ 1000; decide) 0 rfl).mono (fun e w' he => ⟨he.1, below_of_drew he.2⟩)
end
set_option maxRecDepth 100000 in
theorem act_kindM (w : World) (k a f v fn : Int) (b : Bool) (r : Value) : (Instr.field 63 (.agg #[.int .i64 k, .int .i64 a, .int .i64 f, .int .i64 v, .int .i64 fn, .bool b, r]) 0).run Tryz.prog w = .ok (.int .i64 k) w := by kernel_rfl
theorem shB_w32 (b : Int) : shB (wrap32 b) = shB b := by unfold shB; rw [w32_w32]
theorem doV_w32 (op a b : Int) : doV op (wrap32 a) (wrap32 b) = doV op a b := by
 unfold doV
 rw [w32_add, w32_sub, w32_mul, w32_mul_l, w32_w32, w32_w32, shB_w32]
def opA (x y : Int) : Obj := .cells #[.int .i64 1, .int .i64 1, .int .i64 x, .int .i64 0, .int .i64 1, .int .i64 2, .int .i64 y, .int .i64 0, .int .i64 21, .int .i64 0, .int .i64 1, .int .i64 1, .int .i64 27, .int .i64 0, .int .i64 0, .int .i64 0] 59
def opB : Obj := .cells #[.int .i64 1, .int .i64 1] 3
def opC : Obj := .cells #[.int .i64 4, .int .i64 3, .int .i64 0, .int .i64 1, .int .i64 22, .int .i64 3, .int .i64 0, .int .i64 0] 59
def opD (n : Nat) : Obj := .cells #[.slice none 0 0, .int .i64 0, .int .i64 3, .slice none 0 0, .slice (some ⟨n, 0, none⟩) 4 4, .slice (some ⟨n + 1, 0, none⟩) 2 2, .int .i64 1, .int .i64 4, .slice none 0 0, .slice (some ⟨n + 1 + 1, 0, none⟩) 2 2] 74
def opP (n : Nat) : Obj := .cells #[.slice none 0 0, .slice none 0 0, .slice (some ⟨n + 1 + 1 + 1, 0, none⟩) 2 2] 27
theorem progW (w : World) (x y : Int) : ∃ W, W = (((((w.alloc (opA x y)).alloc opB).alloc opC).alloc (opD w.heap.size)).alloc (opP w.heap.size)) ∧ Below w.heap.size w W ∧ W.heap.size = w.heap.size + 5 ∧ W.heap[w.heap.size + 1 + 1 + 1 + 1]? = some (opP w.heap.size) ∧ PV W (fun k => w.heap.size ≤ k ∧ k < W.heap.size) qC (.slice none 0 0) (.slice none 0 0) (.slice (some ⟨w.heap.size + 1 + 1 + 1, 0, none⟩) 2 2) ∧ PrgVal W (fun k => w.heap.size ≤ k ∧ k < W.heap.size) (pC x y) (.slice none 0 0) (.slice none 0 0) (.slice (some ⟨w.heap.size + 1 + 1 + 1, 0, none⟩) 2 2) := by
 obtain ⟨W1, h1⟩ : ∃ W1, W1 = w.alloc (opA x y) := ⟨_, rfl⟩
 have s1 : W1.heap.size = w.heap.size + 1 := by rw [h1]; simp
 have b1 : Below w.heap.size w W1 := by rw [h1]; exact (Below.refl _ _).alloc (Nat.le_refl _) _
 have r1 : W1.heap[w.heap.size]? = some (opA x y) := by rw [h1]; exact heap_new _ _
 obtain ⟨W2, h2⟩ : ∃ W2, W2 = W1.alloc opB := ⟨_, rfl⟩
 have s2 : W2.heap.size = w.heap.size + 1 + 1 := by rw [h2]; simp [s1]
 have b2 : Below W1.heap.size W1 W2 := by rw [h2]; exact (Below.refl _ _).alloc (Nat.le_refl _) _
 have r2 : W2.heap[w.heap.size + 1]? = some opB := by rw [h2, ← s1]; exact heap_new _ _
 obtain ⟨W3, h3⟩ : ∃ W3, W3 = W2.alloc opC := ⟨_, rfl⟩
 have s3 : W3.heap.size = w.heap.size + 1 + 1 + 1 := by rw [h3]; simp [s2]
 have b3 : Below W2.heap.size W2 W3 := by rw [h3]; exact (Below.refl _ _).alloc (Nat.le_refl _) _
 have r3 : W3.heap[w.heap.size + 1 + 1]? = some opC := by rw [h3, ← s2]; exact heap_new _ _
 obtain ⟨W4, h4⟩ : ∃ W4, W4 = W3.alloc (opD w.heap.size) := ⟨_, rfl⟩
 have s4 : W4.heap.size = w.heap.size + 1 + 1 + 1 + 1 := by rw [h4]; simp [s3]
 have b4 : Below W3.heap.size W3 W4 := by rw [h4]; exact (Below.refl _ _).alloc (Nat.le_refl _) _
 have r4 : W4.heap[w.heap.size + 1 + 1 + 1]? = some (opD w.heap.size) := by rw [h4, ← s3]; exact heap_new _ _
 obtain ⟨W5, h5⟩ : ∃ W5, W5 = W4.alloc (opP w.heap.size) := ⟨_, rfl⟩
 have s5 : W5.heap.size = w.heap.size + 1 + 1 + 1 + 1 + 1 := by rw [h5]; simp [s4]
 have b5 : Below W4.heap.size W4 W5 := by rw [h5]; exact (Below.refl _ _).alloc (Nat.le_refl _) _
 have r5 : W5.heap[w.heap.size + 1 + 1 + 1 + 1]? = some (opP w.heap.size) := by rw [h5, ← s4]; exact heap_new _ _
 have up : ∀ {v v' : World} {k : Nat} {o : Obj}, Below v.heap.size v v' → v.heap[k]? = some o → v'.heap[k]? = some o := fun hb hr => (Fr.of_below hb (fun _ => False)).heap hr (fun h => h)
 have r1 := up b5 (up b4 (up b3 (up b2 r1)))
 have r2 := up b5 (up b4 (up b3 r2))
 have r3 := up b5 (up b4 r3)
 have r4 := up b5 r4
 have hb : Below w.heap.size w W5 := b1.trans (b2.mono (by omega))|>.trans (b3.mono (by omega))|>.trans (b4.mono (by omega))|>.trans (b5.mono (by omega))
 have pg := progC (W := W5) (x := x) (y := y) (fun k => w.heap.size ≤ k ∧ k < W5.heap.size) (A := w.heap.size) (B := w.heap.size + 1) (C := w.heap.size + 1 + 1) (D := w.heap.size + 1 + 1 + 1) ⟨by omega, by omega⟩ ⟨by omega, by omega⟩ ⟨by omega, by omega⟩ ⟨by omega, by omega⟩ r1 r2 r3 r4
 exact ⟨W5, by rw [h5, h4, h3, h2, h1], hb, s5, r5, pg.1, pg.2⟩
end Go.Proofs.YthkhgihjigmkoaaGreat.Tk
namespace Go.Proofs.YthkhgihjigmkoaaGreat.Tk
open Go.ChangeShapes Go.WideShapes Go.ChangeAt Go.RowKit Go.Maps
set_option maxRecDepth 100000 in
set_option maxHeartbeats 1600000 in
theorem sameIntsM_any (w : World) (D D' : Nat → Prop) (a a' : Option Addr) (l m : List Int) (c c' : Nat) (hl : IntSl w D a l) (hm : IntSl w D' a' m) (hn : l.length ≤ 1000000) (hn' : m.length ≤ 1000000) :
  Calls Tryz.prog 23 #[.slice a l.length c, .slice a' m.length c'] w fun e w' => e = .returned (.bool (decide (l = m))) ∧ ∃ n, w' = w.drewN n := by
 by_cases hlen : l.length = m.length
 case neg =>
  have h1 : ((l.length : Int) != (m.length : Int)) = true := by rw [bne_iff_ne]; omega
  have h2 : decide (l = m) = false := by simp; intro h; rw [h] at hlen; exact hlen rfl
  rw [h2]
  clear h2 hlen
  go_enter Tryz.func23, Tryz.ntmps23
  go_wp2_with fail
  go_ret
  exact ⟨rfl, 0, rfl⟩
 have h1 : ((l.length : Int) != (m.length : Int)) = false := by rw [bne_eq_false_iff_eq]; omega
 have HLEN := Lib.hid hlen; clear hlen
 have HL := Lib.hid hl; clear hl
 have HM := Lib.hid hm; clear hm
 go_enter Tryz.func23, Tryz.ntmps23
 go_wp2_with fail
 clear h1
 go_loopw [5] (fun i wr => ∃ k : Nat, k ≤ l.length ∧ i = .int .i64 k ∧ l.take k = m.take k ∧ ∃ n, wr = w.drewN n) (fun i _ => l.length - (intOf i).toNat)
 case atStart => exact ⟨0, Nat.zero_le _, rfl, rfl, 0, rfl⟩
 case round =>
  obtain ⟨k, hk, rfl, ht, n, hwr⟩ := hrel
  by_cases hlt : k < l.length
  ·have hlt2 : k < m.length := by have := HLEN.out; omega
   obtain ⟨b, o, rfl, _, hx⟩ := HL.out k hlt
   obtain ⟨b', o', rfl, _, hy⟩ := HM.out k hlt2
   have hx1 : wr.cell? ⟨b, o + k, none⟩ = some (.int .i64 l[k]) := by rw [hwr]; exact hx
   have hy1 : wr.cell? ⟨b', o' + k, none⟩ = some (.int .i64 m[k]) := by rw [hwr]; exact hy
   have hs := take_eq_step l m k hlt hlt2 ht
   have hne := ne_of_get l m k hlt hlt2
   clear hx hy ht
   generalize l[k] = x at *
   generalize m[k] = y at *
   have HS := Lib.hid hs; clear hs
   have HWR := Lib.hid hwr; clear hwr
   have HNE := Lib.hid hne; clear hne
   by_cases hxy : x = y
   ·subst hxy
    go_wp2_with fail
    go_quiet (fail)
    go_wp2_with fail
    go_roundw
    case rel => exact ⟨k + 1, by omega, by go_num, by first | exact HS.out rfl | exact HS.out trivial, by rw [HWR.out]; exact ⟨_, by first | rfl | (simp; rfl)⟩⟩
    case measure => simp [intOf]; omega
   ·have hb : (x != y) = true := by rw [bne_iff_ne]; exact hxy
    have hb2 : (x == y) = false := by simpa using hxy
    have hd : decide (l = m) = false := by simpa using HNE.out hxy
    have HD := Lib.hid hd; clear hd hxy
    go_wp2_with fail
    go_quiet (fail)
    go_wp2_with fail
    go_ret
    exact ⟨by rw [HD.out]; rfl, by rw [HWR.out]; exact ⟨_, by first | rfl | (simp; rfl)⟩⟩
  ·have hd : decide (l = m) = true := by
    have h := HLEN.out
    have hk2 : k = l.length := by omega
    rw [hk2, List.take_length, List.take_of_length_le (by omega)] at ht
    simpa using ht
   have HD := Lib.hid hd
   have HWR := Lib.hid hwr; clear hwr
   clear hd ht
   go_wp2_with fail
   go_ret
   exact ⟨by rw [HD.out]; rfl, by rw [HWR.out]; exact ⟨_, rfl⟩⟩
end Go.Proofs.YthkhgihjigmkoaaGreat.Tk
namespace Go.Proofs.YthkhgihjigmkoaaGreat
open Go.RowKit
theorem trodAll_stays {H : Type} {enc : TypeId × Value → H} {P : Program} (hl : laidOutB P = true) {W W' : World} (hb : Below W.heap.size W W') :
  ∀ (ts : List TypeId) (vs : List Value) (ds : List (DataW H)) (ps : List MemPlace), (∀ t ∈ ts, P.readableRec t = true ∧ t < P.types.size) →
   DataW.TrodAll enc P W 0 (fun _ => true) true ts vs ds ps → (∀ x ∈ ps, x.block < W.heap.size) → DataW.TrodAll enc P W' 0 (fun b => decide (b < W.heap.size)) true ts vs ds ps
 | [], [], [], _, _, h, _ => h
 | t :: ts, v :: vs, d :: ds, _, ht, ⟨p, q, h1, h2, he⟩, hlt => by
  subst he
  exact ⟨p, q, Below.trod hl (ht t (List.mem_cons_self ..)).1 (ht t (List.mem_cons_self ..)).2 h1 hb (fun x hx => hlt x (List.mem_append_left _ hx)),
   trodAll_stays hl hb ts vs ds q (fun t' h' => ht t' (List.mem_cons_of_mem _ h')) h2 (fun x hx => hlt x (List.mem_append_right _ hx)), rfl⟩
theorem trodAll_length {H : Type} {enc : TypeId × Value → H} {P : Program} {W : World} {b : Nat} {sp : Nat → Bool} {hd : Bool} :
  ∀ (ts : List TypeId) (vs : List Value) (ds : List (DataW H)) (ps : List MemPlace), DataW.TrodAll enc P W b sp hd ts vs ds ps → ds.length = ts.length
 | [], [], [], _, _ => rfl
 | _ :: ts, _ :: vs, _ :: ds, _, ⟨_, q, _, h, _⟩ => congrArg (· + 1) (trodAll_length ts vs ds q h)
theorem law_post {H : Type} {enc : TypeId × Value → H} {P : Program} {f : Func} {s : ChangeSpec} {W W' : World} {args : Array Value} {ds gs : List (DataW H)} {before : List MemPlace} {T : TypeId}
  (hl : laidOutB P = true) (hps : f.params.toList.all (fun t => P.readableRec t && decide (t < P.types.size)) = true) (hrt : f.resultTypes = #[T]) (hT : P.underlying T = some .bool)
  (hW : DataW.Whole enc P f.params.toList s.vars false W args.toList ds gs before) (hv : s.vars = [])
  (hs : ∀ ds : List (DataW H), ds.length = f.params.toList.length → s.fn H ds = { results := [.lit (.bool true)], args := ds }) (hb : Below W.heap.size W W') :
  s.post enc P f false true false false W args (.bool true) W' := by
 have hW0 := hW
 obtain ⟨p, q, hA, hV, hpq, hz, hn⟩ := hW
 rw [hv] at hV
 match gs, hV with
 | [], hV =>
  have hq : q = [] := hV
  subst hq
  rw [List.append_nil] at hpq
  subst hpq
  have hfn := hs ds (trodAll_length _ _ _ _ hA)
  have hps' : ∀ t ∈ f.params.toList, P.readableRec t = true ∧ t < P.types.size := fun t ht => by
   have := List.all_eq_true.1 hps t ht
   simpa using this
  refine ⟨ds, [], before, [], before, [], hW0, ?_, ?_, ?_, ?_, fun h => by cases h⟩
  ·rw [List.append_nil, hfn, hrt]
   exact ⟨[], [], ⟨1, by simp [DataW.trod, hT, Value.cells]⟩, rfl, rfl⟩
  ·rw [List.append_nil, hfn]
   exact trodAll_stays hl hb _ _ _ _ hps' hA hW0.lt
  ·rw [List.append_nil, hfn, hv]
   exact rfl
  ·exact hb.frame _
 | _ :: _, hV => exact hV.elim
end Go.Proofs.YthkhgihjigmkoaaGreat
