/- Walk: Task.push. -/
import Derived.Test.YtmanoclahcpaoaaTkN
namespace Go.Proofs.Ytmanoclahcpaoaa
open Go.ChangeShapes Go.WideShapes Go.ChangeAt Go.RowKit Go.Maps

/-- the words behind the first k arguments -/
def setArgs (words : List Int) (base : Nat) (al : List Int) (k : Nat) : List Int := (List.range k).foldl (fun s i => s.set (base + (2 + i)) (al[i]?.getD 0)) words
theorem setArgs_len (words : List Int) (base : Nat) (al : List Int) (k : Nat) : (setArgs words base al k).length = words.length := by
  unfold setArgs
  induction k with
  | zero => rfl
  | succ k ih => rw [List.range_succ, List.foldl_append]; simp [ih]
theorem setArgs_succ (words : List Int) (base : Nat) (al : List Int) (k : Nat) (hk : k < al.length) : setArgs words base al (k + 1) = (setArgs words base al k).set (base + (2 + k)) al[k] := by
  unfold setArgs
  rw [List.range_succ, List.foldl_append]
  simp [hk]
/-- a task behind a push -/
def pushT (T : Tk) (un wn : Nat) (j : Nat) (ret : Int) (al : List Int) : Tk := ⟨T.base, setArgs (clearL T.words un wn) un al al.length, T.parts ++ [⟨j, 0, un, ret, none, 0, 0⟩], T.marks⟩
set_option maxRecDepth 100000 in
set_option maxHeartbeats 3200000 in
theorem push_any (w : World) (F : Nat → Prop) (tb : Nat) (p : TPrg) (T : Tk) (X : TB) (h : TaskAt w F tb p T X) (hp : PSmall p) (ht : TkOk T) (hlen : T.parts.length < 1000) (j : Nat) (hj : j < p.funcs.length) (un : Nat) (hun : usedN p T = un) (hfit : un + wordsN p j ≤ T.words.length)
    (D : Nat → Prop) (a : Option Addr) (al : List Int) (c : Nat) (hal : IntSl w D a al) (hD : ∀ k, D k → ¬ F k ∧ k < w.heap.size) (hsl : (al.length : Int) ≤ p.funcs[j].slots) (hal2 : al.length ≤ 3000) (ret : Int) :
    Calls Try.prog 28 #[.pointer (some ⟨tb, 0, none⟩), .int .i64 j, .slice a al.length c, .int .i64 ret] w fun e w' => e = .returned (.tuple #[]) ∧ ∃ F' X', TaskAt w' F' tb p (pushT T un (wordsN p j) j ret al) X' ∧ (∀ k, F' k → F k ∨ w.heap.size ≤ k) ∧ Fr F w w' := by
  have us := used_any w F tb p T X h hp ht
  rw [hun] at us
  have hwn : 2 + al.length ≤ wordsN p j := by rw [wordsN_at j hj]; unfold frameN; omega
  obtain ⟨wn, hwn0⟩ : ∃ wn, wn = wordsN p j := ⟨_, rfl⟩
  have hb1 := ht.2.2.1
  have hprg := h.prg
  obtain ⟨⟨a0, n0, m0, e0⟩, ⟨a1, m1, e1, _⟩, a2, m2, e2, _⟩ := hprg
  have wd := fun wr (hw : Below w.heap.size w wr) => words_any wr X.D (fun k hk => Nat.lt_of_lt_of_le (h.out k hk).2 hw.size) p X.c0 X.c1 X.c2 j (h.prg.below hw) hp
  rw [← hwn0] at hwn hfit wd ⊢
  rw [e0, e1, e2] at wd
  have cl := fun wr (hw : Below w.heap.size w wr) => clear_any wr X.sb X.wb T.base T.words (h.below hw).st hb1 un wn (by omega) hfit
  have hcells : ∀ wr, Below w.heap.size w wr → wr.cell? ⟨tb, 0, none⟩ = some (.slice a0 n0 m0) ∧ wr.cell? ⟨tb, 1, none⟩ = some (.slice a1 p.shapes.length m1) ∧ wr.cell? ⟨tb, 2, none⟩ = some (.slice a2 p.funcs.length m2) ∧ wr.cell? ⟨tb, 3, none⟩ = some (.pointer (some ⟨X.sb, 0, none⟩)) := fun wr hw => by
    obtain ⟨q0, q1, q2, q3, _⟩ := (h.below hw).cells
    rw [e0] at q0
    rw [e1] at q1
    rw [e2] at q2
    exact ⟨q0, q1, q2, q3⟩
  have hcl : ∀ wr, Below w.heap.size w wr → TaskAt (wr.setCells X.wb un (List.replicate wn (.int .i64 0))) F tb p ⟨T.base, clearL T.words un wn, T.parts, T.marks⟩ X ∧ Fr F w (wr.setCells X.wb un (List.replicate wn (.int .i64 0))) := fun wr hw =>
    ⟨(h.below hw).words (sets_fr _ _ _) _ (clearL_len _ _ _) (intRow_sets wn wr un T.words (h.below hw).wrow), (Fr.of_below hw F).trans (sets_fr _ _ _) (fun k _ e => e ▸ h.fw)⟩
  obtain ⟨en, hen⟩ : ∃ en, en = un + wn := ⟨_, rfl⟩
  have i1 : IntKind.i64.wrap ((un : Int) + (wn : Int)) = (en : Int) := by rw [show ((un : Int) + (wn : Int)) = (en : Int) from by omega]; exact IntWalk.i64_in _ (by omega)
  rw [← hen] at cl
  have hwb := h.distinct.2.1
  clear e0 e1 e2
  have US := Lib.hid us; clear us
  have WD := Lib.hid wd; clear wd
  have CL := Lib.hid cl; clear cl
  have HCELLS := Lib.hid hcells; clear hcells
  have HCL := Lib.hid hcl; clear hcl
  have HEN := Lib.hid hen; clear hen
  have HWN0 := Lib.hid hwn0; clear hwn0
  have HUN := Lib.hid hun; clear hun
  go_enter Try.func28, Try.ntmps28
  go_wp2_with fail
  refine US.out.mono ?_
  rintro e w1 ⟨rfl, hb⟩
  obtain ⟨q0, q1, q2, q3⟩ := HCELLS.out w1 hb
  have hr0 := hb.drew
  have HB := Lib.hid hb; clear hb
  have HR0 := Lib.hid hr0; clear hr0
  go_upto_region 1 with fail
  go_cut [] (fun wx => TaskAt wx F tb p ⟨T.base, clearL T.words un wn, T.parts, T.marks⟩ X ∧ Fr F w wx)
  case first =>
    go_region_law (first | (go_simp; go_at_call 44; refine (CL.out w3 hbw).mono ?_; rintro e w4 ⟨rfl, rfl⟩) | (go_simp; go_at_call 23; refine (WD.out _ HR0.out).mono ?_; rintro e w3 ⟨rfl, hb3⟩; have hbw := HR0.out.trans (hb3.mono HR0.out.size); obtain ⟨z0, z1, z2, z3⟩ := HCELLS.out w3 hbw))
    all_goals
      have hq := HCL.out w3 hbw
      clear hb3 z0 z1 z2 z3
      have HQ := Lib.hid hq; clear hq
      go_wp2_with fail
      go_meet
      first | exact HQ.out | (case rel => exact HQ.out)
  case rest =>
    obtain ⟨hT, hF⟩ := hcut
    clear q0 q1 q2 q3
    have hpt := hT.parts
    have q4 := hT.cells.2.2.2.2.1
    have hlt := hT.lt
    have hd4 := hT.distinct.2.2.2.1
    have hrow := hT.row
    have HPT := Lib.hid hpt; clear hpt
    have HF := Lib.hid hF; clear hF
    go_wp2_with (at_builtin; refine append_fresh partE rfl (.tmp 31) (.tmp 36) rfl 0 T.parts [⟨j, 0, un, ret, none, 0, 0⟩] _ rfl (HPT.out.alloc _) wc.heap.size 0 1 rfl (CellsAt.new _ _ _ _) ?c1 ?c2 ?_)
    case c1 => first | omega | (show T.parts.length + 1 ≤ 100000000; omega)
    try (case c2 => exact Nat.zero_le _)
    intro v5 w5 ho5 hg5 hf5
    obtain ⟨a5, n5, c5, rfl⟩ := ho5.slice
    obtain ⟨hT2, hF2⟩ := hT.push ho5 hg5 hf5
    have hrow5 := (hg5.block tb (by simp; omega) (fun e => (hd4 _ e.symm).1 rfl)).trans ((Below.heap_alloc wc _ tb hlt).trans hrow)
    have f4 : w5.frozen? ⟨tb, 4, none⟩ = false := (row_cell hrow5 4).2
    have q4 : w5.cell? ⟨tb, 4, none⟩ = some X.pv := (row_cell hrow5 4).1
    have hnew : ∀ k, F k ∨ (Value.slice a5 n5 c5).ownBlock = some k → F k ∨ w.heap.size ≤ k := fun k hk => by
      rcases hk with h1 | h1
      · exact .inl h1
      · rcases hf5 k h1 with h2 | h2
        · exact .inl (hT.fp k h2)
        · have := HF.out.size
          simp at h2
          exact .inr (by omega)
    have hF3 := HF.out.trans hF2 (fun k _ hk => hk)
    clear hT hg5 hf5 ho5 hrow hrow5 hd4 hF2
    obtain ⟨F', X2, hT2, hnew⟩ : ∃ F' X2, TaskAt (w5.setCell ⟨tb, 4, none⟩ (.slice a5 n5 c5)) F' tb p ⟨T.base, clearL T.words un wn, T.parts ++ [⟨j, 0, un, ret, none, 0, 0⟩], T.marks⟩ X2 ∧ ∀ k, F' k → F k ∨ w.heap.size ≤ k := ⟨_, _, hT2, hnew⟩
    have HRW := Lib.hid hnew
    clear hnew
    have HT2 := Lib.hid hT2; clear hT2
    have HF3 := Lib.hid hF3; clear hF3
    go_wp2_with fail
    obtain ⟨w6, hw6⟩ : ∃ w6, w6 = w5.setCell ⟨tb, 4, none⟩ (.slice a5 n5 c5) := ⟨_, rfl⟩
    rw [← hw6] at HT2 HF3 ⊢
    clear hw6 f4 q4
    have hok : ∀ l, l.length = T.words.length → TkOk ⟨T.base, l, T.parts ++ [⟨j, 0, un, ret, none, 0, 0⟩], T.marks⟩ := fun l hl => by
      refine ⟨by simp; omega, ht.2.1, by simp only; omega, fun q hq => ?_⟩
      rcases List.mem_append.1 hq with h1 | h1
      · exact ht.2.2.2 q h1
      · simp at h1
        subst h1
        simp only
        omega
    have hpl : (T.parts ++ [(⟨j, 0, un, ret, none, 0, 0⟩ : Part)]).length = T.parts.length + 1 := by simp
    have hpn : ∀ h, (T.parts ++ [(⟨j, 0, un, ret, none, 0, 0⟩ : Part)])[T.parts.length]'h = ⟨j, 0, un, ret, none, 0, 0⟩ := fun h => by simp
    have hcw := clearL_len T.words un wn
    obtain ⟨W0, hW0⟩ : ∃ W0, W0 = clearL T.words un wn := ⟨_, rfl⟩
    have hgoal : ∀ wr, TaskAt wr F' tb p ⟨T.base, setArgs W0 un al al.length, T.parts ++ [⟨j, 0, un, ret, none, 0, 0⟩], T.marks⟩ X2 → Fr F' w6 wr → ∃ F' X', TaskAt wr F' tb p (pushT T un wn j ret al) X' ∧ (∀ k, F' k → F k ∨ w.heap.size ≤ k) ∧ Fr F w wr := fun wr h1 h2 => by
      refine ⟨F', X2, ?_, HRW.out, HF3.out.trans h2 (fun k hk1 hk2 => (HRW.out k hk2).elim (fun h => h) (fun h => absurd h (by omega)))⟩
      unfold pushT
      rw [← hW0]
      exact h1
    have halr : ∀ wr, Fr F' w6 wr → IntSl wr D a al := fun wr h2 => (hal.fr HF3.out (fun k hk => (hD k hk).1)).fr h2 (fun k hk hk2 => (HRW.out k hk2).elim (hD k hk).1 (fun h => by have := (hD k hk).2; omega))
    rw [← hW0] at hcw HT2
    generalize T.parts ++ [(⟨j, 0, un, ret, none, 0, 0⟩ : Part)] = P' at *
    clear hal hD hW0 hlt hwb
    have hplen : P'.length = T.parts.length + 1 := hpl
    clear hpl
    have HOK := Lib.hid hok; clear hok
    have HPN := Lib.hid hpn; clear hpn
    have HGOAL := Lib.hid hgoal; clear hgoal
    have HALR := Lib.hid halr; clear halr
    have HPLEN := Lib.hid hplen; clear hplen
    go_loopw [42] (fun i wr => ∃ k : Nat, k ≤ al.length ∧ i = .int .i64 k ∧ TaskAt wr F' tb p ⟨T.base, setArgs W0 un al k, P', T.marks⟩ X2 ∧ Fr F' w6 wr) (fun i _ => al.length - (intOf i).toNat)
    case atStart => exact ⟨0, Nat.zero_le _, rfl, HT2.out, Fr.refl _ _⟩
    case round =>
      obtain ⟨k, hk, rfl, hTr, hFr⟩ := hrel
      by_cases hltk : k < al.length
      · obtain ⟨b', o', rfl, _, hx⟩ := HALR.out wr hFr k hltk
        have hsl2 := setArgs_len W0 un al k
        have hss := setArgs_succ W0 un al k hltk
        have hpn2 := HPN.out (by rw [HPLEN.out]; omega)
        have st := set_in wr F' tb p ⟨T.base, setArgs W0 un al k, P', T.marks⟩ X2 hTr (HOK.out _ (by rw [hsl2, hcw])) T.parts.length HPLEN.out j hj (by simp only; rw [hpn2]) un (by simp only; rw [hpn2]) k (by omega) (by omega) (by simp only; rw [hsl2, hcw]; omega) al[k]
        simp only at st
        rw [← hss] at st
        generalize al[k] = x at *
        clear hsl2 hss hpn2 hTr
        have ST := Lib.hid st; clear st
        have HFR := Lib.hid hFr; clear hFr
        go_wp2_with fail
        refine ST.out.mono ?_
        rintro e w9 ⟨rfl, hT9, hF9⟩
        have hF10 := HFR.out.trans hF9 (fun _ _ h => h)
        clear hF9
        have HT9 := Lib.hid hT9; clear hT9
        have HF10 := Lib.hid hF10; clear hF10
        go_wp2_with fail
        go_roundw
        case rel => exact ⟨k + 1, by omega, by go_num, HT9.out, HF10.out⟩
        case measure => simp [intOf]; omega
      · have hk' : k = al.length := by omega
        subst hk'
        have hg := HGOAL.out wr hTr hFr
        clear hTr hFr
        have HG := Lib.hid hg; clear hg
        go_wp2_with fail
        go_end0
        exact ⟨rfl, HG.out⟩
end Go.Proofs.Ytmanoclahcpaoaa
