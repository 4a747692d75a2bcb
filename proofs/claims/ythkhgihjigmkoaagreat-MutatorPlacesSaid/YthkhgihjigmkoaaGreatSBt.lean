/- MutatorPlaces' program: its flow; its steps; its stack moved. A law's end: it answered true, and below the heap's old size nothing has turned: then each argument reads as it did. Nothing of the program stands here. -/
import Derived.Test.YthkhgihjigmkoaaGreatSBp
import Derived.Test.YthkhgihjigmkoaaGreatSBr
import Derived.Test.YthkhgihjigmkoaaGreatSAm
import Derived.Test.YthkhgihjigmkoaaGreatSBs
import Derived.Test.YthkhgihjigmkoaaGreatSAq
import Derived.Test.YthkhgihjigmkoaaGreatSBn
import Derived.Test.YthkhgihjigmkoaaGreatSAo
import Derived.Test.YthkhgihjigmkoaaGreatSAa
import Derived.ProofKit
set_option linter.unusedVariables false
set_option linter.unusedSimpArgs false
namespace Go.Proofs.YthkhgihjigmkoaaGreat.Tk
open Go.ChangeShapes Go.WideShapes Go.ChangeAt Go.RowKit Go.Maps
def codeP (x : Int) : List Ins := [⟨18, 0, 0, 0⟩, ⟨1, 1, x, 0⟩, ⟨20, 0, 0, 1⟩, ⟨19, 2, 0, 0⟩, ⟨18, 0, 0, 0⟩, ⟨19, 1, 0, 0⟩]
def tP (_ : Nat) : List (Option (List Int)) := [some [0, 0, 0], some [64, 0, 0], some [64, 1, 0], some [64, 1, 0], some [64, 1, 1], some [64, 1, 1], some [64, 1, 1]]
theorem plc_tab (x : Int) : TabOk (pS (3 : Nat) (codeP x)) tP ∧ (progS (pS (3 : Nat) (codeP x))).1 = 0 := by
  have h : (solB (pS (3 : Nat) (codeP x)) (fnAt (pS (3 : Nat) (codeP x)) 0) (tP 0) = true ∧ treeB (pS (3 : Nat) (codeP x)) (fnAt (pS (3 : Nat) (codeP x)) 0) (tP 0) [0, 0, 1, 2, 3, 4, 5] = true) ∧ (flowE (pS (3 : Nat) (codeP x)) (fnAt (pS (3 : Nat) (codeP x)) 0) (tblF (tP 0))).1 = 0 ∧ (progS (pS (3 : Nat) (codeP x))).1 = 0 :=
    ⟨⟨by kernel_rfl, by kernel_rfl⟩, by kernel_rfl, by kernel_rfl⟩
  refine ⟨fun i hi => ?_, h.2.2⟩
  obtain rfl : i = 0 := by have : i < 1 := hi; omega
  refine ⟨isFlow_tbl (par := [0, 0, 1, 2, 3, 4, 5]) (fun j hj => ?_) h.1.1 h.1.2, h.2.1⟩
  have hj : j ∈ codeP x ++ [(⟨27, 0, 0, 0⟩ : Ins)] := hj
  simp [codeP] at hj
  rcases hj with rfl | rfl | rfl | rfl | rfl | rfl | rfl <;> exact insOk_of _ _ _ _ _ (by decide)
theorem plc_B (x : Int) (hx : i64B x) : PrgB (pS (3 : Nat) (codeP x)) ∧ PrgR (pS (3 : Nat) (codeP x)) := by
  unfold i64B at hx
  unfold PrgB PrgR FunB Ins.wf i64B pS codeP
  simp
  omega
/-- the words, but the one that has the place -/
def pv (x : Int) : Nat → List Int
  | 0 => List.replicate 64 0
  | 1 => List.replicate 64 0
  | 2 => (List.replicate 64 0).set 3 x
  | 3 => ((List.replicate 64 0).set 3 x).set 5 x
  | 4 => (((List.replicate 64 0).set 3 x).set 5 x).set 4 x
  | 5 => ((List.replicate 64 0).set 3 x).set 4 x
  | _ => ((List.replicate 64 0).set 3 0).set 4 x
theorem pv_len (x : Int) (i : Nat) : (pv x i).length = 64 := by
  unfold pv
  split <;> simp
def pw (B x : Int) (i : Nat) : List Int := (pv x i).set 2 (if i = 0 then 0 else B + 5)
theorem pw_len (B x : Int) (i : Nat) : (pw B x i).length = 64 := by unfold pw; rw [List.length_set]; exact pv_len x i
/-- the task on a stack at B -/
def SG (B : Int) (pc : Int) (ws : List Int) : Tk := ⟨B, ws, [⟨0, pc, 0, -1, none, 0, 0⟩], [⟨false, false, 0⟩]⟩
theorem SG_ok (B pc : Int) (ws : List Int) (h : ws.length = 64) : TkOk (SG B pc ws) := SF_ok pc ws h
theorem SG_in (B pc : Int) (ws : List Int) (sl : Nat) : ∀ q ∈ (SG B pc ws).parts, ∃ j : Nat, j < (qS sl).funcs.length ∧ q.fn = j := fun q hq => by
  have h1 : q ∈ ([⟨0, pc, 0, -1, none, 0, 0⟩] : List Part) := hq
  simp at h1
  exact ⟨0, by show 0 < 1; decide, by rw [h1]; rfl⟩
theorem objS : objO (qS (3 : Nat)) ((qS (3 : Nat)).funcs[0]'(by decide)) 0 = (5, 2) := by decide
theorem SG_within (B pc : Int) (ws : List Int) (hl : ws.length = 64) (k : Nat) (hk : k < 2) : withinR (qS (3 : Nat)) (SG B pc ws) (B + 5 + k) := by
  refine ⟨by show B ≤ _; omega, by show _ < B + (ws.length : Int); omega, ⟨0, pc, 0, -1, none, 0, 0⟩, List.mem_singleton.2 rfl, ?_⟩
  refine ⟨0, by decide, rfl, 0, by decide, ?_, ?_⟩
  · show ((5 : Nat) : Int) ≤ B + 5 + (k : Int) - B - 0
    omega
  · show B + 5 + (k : Int) - B - 0 < ((7 : Nat) : Int)
    omega
theorem placeS (B pc : Int) (ws : List Int) (hl : ws.length = 64) : placeN (qS (3 : Nat)) (SG B pc ws) ((0 : Nat) : Int) ((qS (3 : Nat)).funcs[0]'(by decide)) 0 = B + 5 := by
  unfold placeN
  rw [objS]
  simp only
  rw [if_neg (by decide), if_pos (by show (0 : Int) ≤ 0 + 5 ∧ (0 : Int) + 5 < (ws.length : Int); omega)]
  show B + (0 + 5) = B + 5
  omega
theorem plcStep {w : World} {F : Nat → Prop} {tb : Nat} {X : TB} {B x : Int} (hB : baseOk B) (hx : wrap32 x = x) (i : Nat) (hi : i < 6) (h : TaskAt w F tb (qS (3 : Nat)) (SG B i (pw B x i)) X) (D : Nat → Prop) (hD : ∀ k, D k → ¬ F k ∧ k < w.heap.size) (c0 c1 c2 : Value) (ma : Option Addr) (hv : PrgVal w D (pS (3 : Nat) (codeP x)) c0 c1 c2) (hp : ∀ wr, Below w.heap.size w wr → PV wr D (qS (3 : Nat)) c0 c1 c2) :
    Calls Tryz.prog 30 #[.agg #[c0, c1, c2], .pointer ma, .pointer (some ⟨tb, 0, none⟩)] w (RunPost w F tb (qS (3 : Nat)) X (SG B ((i + 1 : Nat) : Int) (pw B x (i + 1))) (actV 0 0 0 0 0 false (.slice none 0 0))) := by
  have hps := qS_small 3 (by omega)
  have hBb : -9000000000000 ≤ B ∧ B ≤ 9000000000000 := ⟨by have := hB.1; omega, by have := hB.2; omega⟩
  have hlen := pw_len B x i
  have hok := SG_ok B i (pw B x i) hlen
  have hin : ∀ k, k < 10 → 0 + (2 + k) < (SG B i (pw B x i)).words.length := fun k hk => by show 0 + (2 + k) < (pw B x i).length; omega
  have w0 : IntKind.i64.wrap (B + 5 + 0) = B + 5 := by rw [Int.add_zero]; exact IntWalk.i64_in _ (by omega)
  have hwi : withinR (qS (3 : Nat)) (SG B i (pw B x i)) (B + 5) := by have := SG_within B i (pw B x i) hlen 0 (by omega); simpa using this
  have stp : ∀ (ins : Ins) (_ : (codeP x ++ [(⟨27, 0, 0, 0⟩ : Ins)])[i]? = some ins) (T' : Tk) (_ : ∀ wr, Below w.heap.size w wr → Calls Tryz.prog 69 #[.agg (stepV c0 c1 c2 (.pointer ma) tb ins.op ins.a ins.b ins.c)] wr (RunPost wr F tb (qS (3 : Nat)) X T' (actV 0 0 0 0 0 false (.slice none 0 0)))), Calls Tryz.prog 30 #[.agg #[c0, c1, c2], .pointer ma, .pointer (some ⟨tb, 0, none⟩)] w (RunPost w F tb (qS (3 : Nat)) X T' (actV 0 0 0 0 0 false (.slice none 0 0))) := fun ins hins T' RUN => by
    obtain ⟨hl, hins⟩ := List.getElem?_eq_some_iff.1 hins
    exact step_run w F tb (qS (3 : Nat)) (SG B i (pw B x i)) X h (by show 1 ≤ 1000; decide) rfl (by show 1 ≤ 10000; decide) [] ⟨0, i, 0, -1, none, 0, 0⟩ rfl D hD (pS (3 : Nat) (codeP x)) c0 c1 c2 ma hv 0 (by show 0 < 1; decide) rfl i rfl hl ins hins T' 0 0 0 0 0 false none 0 0 RUN
  have addr : ∀ wr, Below w.heap.size w wr → Calls Tryz.prog 69 #[.agg (stepV c0 c1 c2 (.pointer ma) tb 18 0 0 0)] wr (RunPost wr F tb (qS (3 : Nat)) X ⟨B, (clearL (pw B x i) 5 2).set 2 (B + 5), [⟨0, (i : Int) + 1, 0, -1, none, 0, 0⟩], [⟨false, false, 0⟩]⟩ (actV 0 0 0 0 0 false (.slice none 0 0))) := fun wr hw => run_18 wr F tb (qS (3 : Nat)) (SG B i (pw B x i)) X (h.below hw) c0 c1 c2 (.pointer ma) 0 0 0 _ 0 0 0 0 0 false none 0 0 (fun wx hx => by
    exact local_addr wx F tb (qS (3 : Nat)) (SG B i (pw B x i)) X ((h.below hw).below hx) hps hok [] ⟨0, i, 0, -1, none, 0, 0⟩ rfl ⟨by show (0 : Int) ≤ (i : Int); omega, by show (i : Int) ≤ 100000; omega⟩ (SG_in B i _ 3) hB 0 (by decide) rfl 0 rfl 0 (by decide) (by decide) (hin 0 (by decide)) 0 ⟨by decide, by decide⟩ (B + 5) 5 2 (placeS B i _ hlen) (by rw [objS]; rfl) rfl (by show 5 + 2 ≤ (pw B x i).length; omega) (fun k hk => SG_within B i _ hlen k hk) c0 c1 c2 (.pointer ma) D (fun k hk => Nat.lt_of_lt_of_le (hD k hk).2 (Nat.le_trans hw.size hx.size)) (fun wy hy => hp wy (hw.trans ((hx.trans (hy.mono hx.size)).mono hw.size))) 0)
  have hi2 : i = 0 ∨ i = 1 ∨ i = 2 ∨ i = 3 ∨ i = 4 ∨ i = 5 := by omega
  rcases hi2 with rfl | rfl | rfl | rfl | rfl | rfl
  · exact stp ⟨18, 0, 0, 0⟩ rfl _ addr
  · refine stp ⟨1, 1, x, 0⟩ rfl _ (fun wr hw => ?_)
    have rs := run_setInt wr F tb (qS (3 : Nat)) (SG B (1 : Nat) (pw B x 1)) X (h.below hw) hok [] ⟨0, (1 : Nat), 0, -1, none, 0, 0⟩ rfl ⟨by decide, by decide⟩ 0 (by decide) rfl 0 rfl 1 (by decide) (by decide) (hin 1 (by decide)) c0 c1 c2 (.pointer ma) x 0
    rw [hx] at rs
    exact rs
  · refine stp ⟨20, 0, 0, 1⟩ rfl _ (fun wr hw => run_20 wr F tb (qS (3 : Nat)) (SG B (2 : Nat) (pw B x 2)) X (h.below hw) c0 c1 c2 (.pointer ma) 0 0 1 _ 0 0 0 0 0 false none 0 0 (fun wx hx => ?_))
    exact local_lstore wx F tb (qS (3 : Nat)) (SG B (2 : Nat) (pw B x 2)) X ((h.below hw).below hx) hps hok [] ⟨0, (2 : Nat), 0, -1, none, 0, 0⟩ rfl ⟨by decide, by decide⟩ (SG_in B _ _ 3) hB 0 (by decide) rfl 0 rfl 0 1 (by decide) (by decide) ⟨hin 0 (by decide), hin 1 (by decide)⟩ (B + 5) rfl 0 (B + 5) w0 hwi 5 (by show 5 < (pw B x 2).length; omega) (by show B + 5 - B = 5; omega) x rfl c0 c1 c2 (.pointer ma)
  · refine stp ⟨19, 2, 0, 0⟩ rfl _ (fun wr hw => run_19 wr F tb (qS (3 : Nat)) (SG B (3 : Nat) (pw B x 3)) X (h.below hw) c0 c1 c2 (.pointer ma) 2 0 0 _ 0 0 0 0 0 false none 0 0 (fun wx hx => ?_))
    exact local_lload wx F tb (qS (3 : Nat)) (SG B (3 : Nat) (pw B x 3)) X ((h.below hw).below hx) hps hok [] ⟨0, (3 : Nat), 0, -1, none, 0, 0⟩ rfl ⟨by decide, by decide⟩ (SG_in B _ _ 3) hB 0 (by decide) rfl 0 rfl 2 0 (by decide) (by decide) ⟨hin 2 (by decide), hin 0 (by decide)⟩ (B + 5) rfl 0 (B + 5) w0 hwi 5 (by show 5 < (pw B x 3).length; omega) (by show B + 5 - B = 5; omega) x rfl c0 c1 c2 (.pointer ma)
  · exact stp ⟨18, 0, 0, 0⟩ rfl _ addr
  · refine stp ⟨19, 1, 0, 0⟩ rfl _ (fun wr hw => run_19 wr F tb (qS (3 : Nat)) (SG B (5 : Nat) (pw B x 5)) X (h.below hw) c0 c1 c2 (.pointer ma) 1 0 0 _ 0 0 0 0 0 false none 0 0 (fun wx hx => ?_))
    exact local_lload wx F tb (qS (3 : Nat)) (SG B (5 : Nat) (pw B x 5)) X ((h.below hw).below hx) hps hok [] ⟨0, (5 : Nat), 0, -1, none, 0, 0⟩ rfl ⟨by decide, by decide⟩ (SG_in B _ _ 3) hB 0 (by decide) rfl 0 rfl 1 0 (by decide) (by decide) ⟨hin 1 (by decide), hin 0 (by decide)⟩ (B + 5) rfl 0 (B + 5) w0 hwi 5 (by show 5 < (pw B x 5).length; omega) (by show B + 5 - B = 5; omega) 0 rfl c0 c1 c2 (.pointer ma)
theorem plP {w : World} {B mb b nm : Nat} {V : Nat → Prop} {Ms : Nat → Flo} (hMs : ∀ i, i < 1 → Ms i = tblF (tP i)) (hm : MapsAt w B mb b nm V (allM 1 Ms)) (i : Nat) (h1 : 1 ≤ i) (h6 : i ≤ 6) :
    Calls Tryz.prog 49 #[.pointer (some ⟨mb, 0, none⟩), .int .i64 0, .int .i64 i] w fun e w' => e = .returned (.int .u16 (1 : Nat)) ∧ Below w.heap.size w w' := by
  have hI : i64B 0 ∧ i64B (i : Int) := ⟨⟨by omega, by omega⟩, ⟨by omega, by omega⟩⟩
  have hrow : ∀ q K, tblF (tP 0) q = some K → K.length ≤ 16 := fun q K h => by
    unfold tblF tP at h
    rcases q with _ | _ | _ | _ | _ | _ | _ | q
    · injection h with h; rw [← h]; simp
    · injection h with h; rw [← h]; simp
    · injection h with h; rw [← h]; simp
    · injection h with h; rw [← h]; simp
    · injection h with h; rw [← h]; simp
    · injection h with h; rw [← h]; simp
    · injection h with h; rw [← h]; simp
    · cases h
  have hcl : ∀ x K, allM 1 Ms x = some K → K.length ≤ 16 := fun x K hx => by
    unfold allM at hx
    split at hx
    · next h1 =>
      split at hx
      · have e : x.1.1.toNat = 0 := by have := h1.2; omega
        rw [e, hMs 0 (by omega)] at hx
        exact hrow _ _ hx
      · cases hx
    · cases hx
  have := mplaces_any w B mb b nm V _ hm 0 (i : Int) hI hcl
  have e : allM 1 Ms ⟨((0 : Int), (i : Int)), hI⟩ = tblF (tP 0) i := by
    unfold allM
    rw [if_pos (by simp), if_pos (by simp)]
    show Ms 0 _ = _
    rw [hMs 0 (by omega)]
    simp
  rw [e] at this
  have hi2 : i = 1 ∨ i = 2 ∨ i = 3 ∨ i = 4 ∨ i = 5 ∨ i = 6 := by omega
  rcases hi2 with rfl | rfl | rfl | rfl | rfl | rfl <;> exact this
theorem bit1 (k : Nat) : (1 : Nat).testBit k = true ↔ k = 0 := by
  cases k with
  | zero => simp
  | succ k => simp [Nat.testBit_succ]
theorem moveP {w : World} {F : Nat → Prop} {tb : Nat} {X : TB} {B x : Int} (hB : baseOk B) (i : Nat) (h1 : 1 ≤ i) (h6 : i ≤ 6) (h : TaskAt w F tb (qS (3 : Nat)) (SG B i (pw B x i)) X) {C mb b nm : Nat} {V : Nat → Prop} {Ms : Nat → Flo} (hMs : ∀ i, i < 1 → Ms i = tblF (tP i)) (hm : ∀ wr, Below w.heap.size w wr → MapsAt wr C mb b nm V (allM 1 Ms)) (serial : Nat) (hs : serial ≤ 1000) :
    Calls Tryz.prog 14 #[.pointer (some ⟨tb, 0, none⟩), .pointer (some ⟨mb, 0, none⟩), .int .i64 serial, .int .i64 64] w fun e w' => e = .returned (.bool true) ∧ ∃ F' X', TaskAt w' F' tb (qS (3 : Nat)) (SG (1073741824 + (serial : Int) * 8192) i (pw (1073741824 + (serial : Int) * 8192) x i)) X' ∧ (∀ k, F' k → F k ∨ w.heap.size ≤ k) ∧ Fr F w w' := by
  have hlen := pw_len B x i
  have hd0 : ∀ d, d < (SG B i (pw B x i)).parts.length → d = 0 := fun d hd => by have : d < 1 := hd; omega
  refine (move_any w F tb (qS (3 : Nat)) (SG B i (pw B x i)) X h (qS_small 3 (by omega)) (SG_ok B i _ hlen) hB (by show 1 ≤ (pw B x i).length; omega) (by show (pw B x i).length ≤ 4096; omega) (.pointer (some ⟨mb, 0, none⟩)) (fun _ => 1) (fun wr hw d hd => ?_) (fun _ _ => by omega) serial (by omega) 64 (by omega) (by omega) ?_ (fun d hd k hk => ?_)).mono ?_
  · obtain rfl := hd0 d hd
    exact plP hMs (hm wr hw) i h1 h6
  · have e := usedN_last (p := qS (3 : Nat)) (T := SG B i (pw B x i)) (n := 0) rfl
    rw [e]
    show (0 : Int) + (wordsN (qS (3 : Nat)) 0 : Nat) ≤ 64
    rw [qS_words]
    decide
  · obtain rfl := hd0 d hd
    obtain rfl := (bit1 k).1 hk
    exact ⟨0, by decide, rfl, by decide, by show (0 : Int) + (2 + 0) < ((pw B x i).length : Int); omega, by show (0 : Int) + (2 + 0) < 64; decide⟩
  · rintro e w' ⟨rfl, L, F', X', hL, hT, hF, hf⟩
    have hLe : L = pw (1073741824 + (serial : Int) * 8192) x i := by
      obtain ⟨h0, hget⟩ := hL
      refine List.ext_getElem? fun o => ?_
      rcases Nat.lt_or_ge o 64 with ho | ho
      · obtain ⟨g1, g2⟩ := hget o ho
        by_cases h2 : o = 2
        · subst h2
          rw [g1 ⟨0, 0, by show 0 < 1; decide, .inl (by show 0 < 1; decide), (bit1 0).2 rfl, by show ((2 : Nat) : Int) = 0 + (2 + 0); decide⟩]
          have e : (SG B i (pw B x i)).words.getD 2 0 = B + 5 := by
            show (pw B x i).getD 2 0 = _
            rw [List.getD_eq_getElem?_getD]
            unfold pw
            rw [List.getElem?_set_self (by rw [pv_len]; omega), if_neg (by omega)]
            rfl
          rw [e]
          unfold pw
          rw [List.getElem?_set_self (by rw [pv_len]; omega), if_neg (by omega)]
          unfold movedI
          have hz : ((pv x i).set 2 (B + 5)).length = 64 := by rw [List.length_set]; exact pv_len x i
          rw [if_pos (by show B ≤ B + 5 ∧ B + 5 < B + (((pv x i).set 2 (B + 5)).length : Int); omega), if_pos (by show B + 5 - B < 64; omega)]
          show some (1073741824 + (serial : Int) * 8192 + (B + 5 - B)) = _
          congr 1
          omega
        · rw [g2 (fun ⟨d, k, hd, _, hk, e⟩ => by
            obtain rfl := hd0 d hd
            obtain rfl := (bit1 k).1 hk
            have e : (o : Int) = 0 + (2 + 0) := e
            omega)]
          show some ((pw B x i).getD o 0) = _
          rw [List.getD_eq_getElem?_getD]
          unfold pw
          rw [List.getElem?_set_ne (by omega), List.getElem?_set_ne (by omega), List.getElem?_eq_getElem (by rw [pv_len]; exact ho)]
          rfl
      · rw [List.getElem?_eq_none (by omega), List.getElem?_eq_none (by rw [pw_len]; exact ho)]
    rw [hLe] at hT
    exact ⟨rfl, F', X', hT, hF, hf⟩
end Go.Proofs.YthkhgihjigmkoaaGreat.Tk
namespace Go.Proofs.YthkhgihjigmkoaaGreat
open Go.RowKit
theorem trodAll_stays {H : Type} {enc : TypeId × Value → H} {P : Program} (hl : laidOutB P = true) {W W' : World} (hb : Below W.heap.size W W') :
    ∀ (ts : List TypeId) (vs : List Value) (ds : List (DataW H)) (ps : List MemPlace), (∀ t ∈ ts, P.readableRec t = true ∧ t < P.types.size) →
      DataW.TrodAll enc P W 0 (fun _ => true) true ts vs ds ps → (∀ x ∈ ps, x.block < W.heap.size) → DataW.TrodAll enc P W' 0 (fun b => decide (b < W.heap.size)) true ts vs ds ps
  | [], [], [], _, _, h, _ => h
  | t :: ts, v :: vs, d :: ds, _, ht, ⟨p, q, h1, h2, he⟩, hlt => by
    subst he
    exact ⟨p, q, Below.trod hl (ht t (List.mem_cons_self ..)).1 (ht t (List.mem_cons_self ..)).2 h1 hb (fun x hx => hlt x (List.mem_append_left _ hx)),
      trodAll_stays hl hb ts vs ds q (fun t' h' => ht t' (List.mem_cons_of_mem _ h')) h2 (fun x hx => hlt x (List.mem_append_right _ hx)), rfl⟩

theorem trodAll_length {H : Type} {enc : TypeId × Value → H} {P : Program} {W : World} {b : Nat} {sp : Nat → Bool} {hd : Bool} :
    ∀ (ts : List TypeId) (vs : List Value) (ds : List (DataW H)) (ps : List MemPlace), DataW.TrodAll enc P W b sp hd ts vs ds ps → ds.length = ts.length
  | [], [], [], _, _ => rfl
  | _ :: ts, _ :: vs, _ :: ds, _, ⟨_, q, _, h, _⟩ => congrArg (· + 1) (trodAll_length ts vs ds q h)

theorem law_post {H : Type} {enc : TypeId × Value → H} {P : Program} {f : Func} {s : ChangeSpec} {W W' : World} {args : Array Value} {ds gs : List (DataW H)} {before : List MemPlace} {T : TypeId}
    (hl : laidOutB P = true) (hps : f.params.toList.all (fun t => P.readableRec t && decide (t < P.types.size)) = true) (hrt : f.resultTypes = #[T]) (hT : P.underlying T = some .bool)
    (hW : DataW.Whole enc P f.params.toList s.vars false W args.toList ds gs before) (hv : s.vars = [])
    (hs : ∀ ds : List (DataW H), ds.length = f.params.toList.length → s.fn H ds = { results := [.lit (.bool true)], args := ds }) (hb : Below W.heap.size W W') :
    s.post enc P f false true false false W args (.bool true) W' := by
  have hW0 := hW
  obtain ⟨p, q, hA, hV, hpq, hz, hn⟩ := hW
  rw [hv] at hV
  match gs, hV with
  | [], hV =>
    have hq : q = [] := hV
    subst hq
    rw [List.append_nil] at hpq
    subst hpq
    have hfn := hs ds (trodAll_length _ _ _ _ hA)
    have hps' : ∀ t ∈ f.params.toList, P.readableRec t = true ∧ t < P.types.size := fun t ht => by
      have := List.all_eq_true.1 hps t ht
      simpa using this
    refine ⟨ds, [], before, [], before, [], hW0, ?_, ?_, ?_, ?_, fun h => by cases h⟩
    · rw [List.append_nil, hfn, hrt]
      exact ⟨[], [], ⟨1, by simp [DataW.trod, hT, Value.cells]⟩, rfl, rfl⟩
    · rw [List.append_nil, hfn]
      exact trodAll_stays hl hb _ _ _ _ hps' hA hW0.lt
    · rw [List.append_nil, hfn, hv]
      exact rfl
    · exact hb.frame _
  | _ :: _, hV => exact hV.elim
end Go.Proofs.YthkhgihjigmkoaaGreat
