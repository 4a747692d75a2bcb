import Derived.Test.YthkhgihjigmkoaaGreatCAl
set_option linter.unusedVariables false
set_option linter.unusedSimpArgs false
namespace Go.Proofs.YthkhgihjigmkoaaGreat.Tk
open Go.ChangeShapes Go.WideShapes Go.ChangeAt Go.RowKit Go.Maps
def setArgs (words : List Int) (base : Nat) (al : List Int) (k : Nat) : List Int := (List.range k).foldl (fun s i => s.set (base + (2 + i)) (al[i]?.getD 0)) words
theorem setArgs_len (words : List Int) (base : Nat) (al : List Int) (k : Nat) : (setArgs words base al k).length = words.length := by
 unfold setArgs
 induction k with
 | zero => rfl
 | succ k ih => rw [List.range_succ, List.foldl_append]; simp [ih]
theorem setArgs_succ (words : List Int) (base : Nat) (al : List Int) (k : Nat) (hk : k < al.length) : setArgs words base al (k + 1) = (setArgs words base al k).set (base + (2 + k)) al[k] := by
 unfold setArgs
 rw [List.range_succ, List.foldl_append]
 simp [hk]
def pushT (T : Tk) (un wn : Nat) (j : Nat) (ret : Int) (al : List Int) : Tk := ⟨T.base, setArgs (clearL T.words un wn) un al al.length, T.parts ++ [⟨j, 0, un, ret, none, 0, 0⟩], T.marks⟩
set_option maxRecDepth 100000 in
set_option maxHeartbeats 3200000 in
theorem push_any (w : World) (F : Nat → Prop) (tb : Nat) (p : TPrg) (T : Tk) (X : TB) (h : TaskAt w F tb p T X) (hp : PSmall p) (ht : TkOk T) (hlen : T.parts.length < 1000) (j : Nat) (hj : j < p.funcs.length) (un : Nat) (hun : usedN p T = un) (hfit : un + wordsN p j ≤ T.words.length)
  (D : Nat → Prop) (a : Option Addr) (al : List Int) (c : Nat) (hal : IntSl w D a al) (hD : ∀ k, D k → ¬ F k ∧ k < w.heap.size) (hsl : (al.length : Int) ≤ p.funcs[j].slots) (hal2 : al.length ≤ 3000) (ret : Int) :
  Calls Tryz.prog 59 #[.pointer (some ⟨tb, 0, none⟩), .int .i64 j, .slice a al.length c, .int .i64 ret] w fun e w' => e = .returned (.tuple #[]) ∧ ∃ F' X', TaskAt w' F' tb p (pushT T un (wordsN p j) j ret al) X' ∧ X'.Q X X.al X.kf ∧ (∀ k, F' k → F k ∨ w.heap.size ≤ k) ∧ Fr F w w' := by
 have us := used_any w F tb p T X h hp ht
 rw [hun] at us
 have hwn : 2 + al.length ≤ wordsN p j := by rw [wordsN_at j hj]; unfold frameN; omega
 obtain ⟨wn, hwn0⟩ : ∃ wn, wn = wordsN p j := ⟨_, rfl⟩
 have hb1 := ht.2.2.1
 have hprg := h.prg
 obtain ⟨⟨a0, n0, m0, e0⟩, ⟨a1, m1, e1, _⟩, a2, m2, e2, _⟩ := hprg
 have wd := fun wr (hw : Below w.heap.size w wr) => words_any wr X.D (fun k hk => Nat.lt_of_lt_of_le (h.out k hk).2 hw.size) p X.c0 X.c1 X.c2 j (h.prg.below hw) hp
 rw [← hwn0] at hwn hfit wd ⊢
 rw [e0, e1, e2] at wd
 have cl := fun wr (hw : Below w.heap.size w wr) => clear_any wr X.sb X.wb T.base T.words (h.below hw).st hb1 un wn (by omega) hfit
 have hcells : ∀ wr, Below w.heap.size w wr → wr.cell? ⟨tb, 0, none⟩ = some (.slice a0 n0 m0) ∧ wr.cell? ⟨tb, 1, none⟩ = some (.slice a1 p.shapes.length m1) ∧ wr.cell? ⟨tb, 2, none⟩ = some (.slice a2 p.funcs.length m2) ∧ wr.cell? ⟨tb, 3, none⟩ = some (.pointer (some ⟨X.sb, 0, none⟩)) := fun wr hw => by
  obtain ⟨q0, q1, q2, q3, _⟩ := (h.below hw).cells
  rw [e0] at q0
  rw [e1] at q1
  rw [e2] at q2
  exact ⟨q0, q1, q2, q3⟩
 have hcl : ∀ wr, Below w.heap.size w wr → TaskAt (wr.setCells X.wb un (List.replicate wn (.int .i64 0))) F tb p ⟨T.base, clearL T.words un wn, T.parts, T.marks⟩ X ∧ Fr F w (wr.setCells X.wb un (List.replicate wn (.int .i64 0))) := fun wr hw =>
  ⟨(h.below hw).words (sets_fr _ _ _) _ (clearL_len _ _ _) (intRow_sets wn wr un T.words (h.below hw).wrow), (Fr.of_below hw F).trans (sets_fr _ _ _) (fun k _ e => e ▸ h.fw)⟩
 obtain ⟨en, hen⟩ : ∃ en, en = un + wn := ⟨_, rfl⟩
 have i1 : IntKind.i64.wrap ((un : Int) + (wn : Int)) = (en : Int) := by rw [show ((un : Int) + (wn : Int)) = (en : Int) from by omega]; exact IntWalk.i64_in _ (by omega)
 rw [← hen] at cl
 have hwb := h.distinct.2.1
 clear e0 e1 e2
 have US := Lib.hid us; clear us
 have WD := Lib.hid wd; clear wd
 have CL := Lib.hid cl; clear cl
 have HCELLS := Lib.hid hcells; clear hcells
 have HCL := Lib.hid hcl; clear hcl
 have HEN := Lib.hid hen; clear hen
 have HWN0 := Lib.hid hwn0; clear hwn0
 have HUN := Lib.hid hun; clear hun
 go_enter Tryz.func59, Tryz.ntmps59
 go_wp2_with fail
 refine US.out.mono ?_
 rintro e w1 ⟨rfl, hb⟩
 obtain ⟨q0, q1, q2, q3⟩ := HCELLS.out w1 hb
 have hr0 := hb.drew
 have HB := Lib.hid hb; clear hb
 have HR0 := Lib.hid hr0; clear hr0
 go_upto_region 1 with fail
 go_cut [] (fun wx => TaskAt wx F tb p ⟨T.base, clearL T.words un wn, T.parts, T.marks⟩ X ∧ Fr F w wx)
 case first =>
  go_region_law (first | (go_simp; go_at_call 86; refine (CL.out w3 hbw).mono ?_; rintro e w4 ⟨rfl, rfl⟩) | (go_simp; go_at_call 44; refine (WD.out _ HR0.out).mono ?_; rintro e w3 ⟨rfl, hb3⟩; have hbw := HR0.out.trans (hb3.mono HR0.out.size); obtain ⟨z0, z1, z2, z3⟩ := HCELLS.out w3 hbw))
  all_goals
   have hq := HCL.out w3 hbw
   clear hb3 z0 z1 z2 z3
   have HQ := Lib.hid hq; clear hq
   go_wp2_with fail
   go_meet
   first | exact HQ.out | (case rel => exact HQ.out)
 case rest =>
  obtain ⟨hT, hF⟩ := hcut
  clear q0 q1 q2 q3
  have hpt := hT.parts
  have q4 := hT.cells.2.2.2.2.1
  have hlt := hT.lt
  have hd4 := hT.distinct.2.2.2.1
  have hrow := hT.row
  have HPT := Lib.hid hpt; clear hpt
  have HF := Lib.hid hF; clear hF
  go_wp2_with (at_builtin; refine append_fresh partE rfl (.tmp 31) (.tmp 36) rfl 0 T.parts [⟨j, 0, un, ret, none, 0, 0⟩] _ rfl (HPT.out.alloc _) wc.heap.size 0 1 rfl (CellsAt.new _ _ _ _) ?c1 ?c2 ?_)
  case c1 => first | omega | (show T.parts.length + 1 ≤ 100000000; omega)
  try (case c2 => exact Nat.zero_le _)
  intro v5 w5 ho5 hg5 hf5
  obtain ⟨a5, n5, c5, rfl⟩ := ho5.slice
  obtain ⟨hT2, hF2⟩ := hT.push ho5 hg5 hf5
  have hrow5 := (hg5.block tb (by simp; omega) (fun e => (hd4 _ e.symm).1 rfl)).trans ((Below.heap_alloc wc _ tb hlt).trans hrow)
  have f4 : w5.frozen? ⟨tb, 4, none⟩ = false := (row_cell hrow5 4).2
  have q4 : w5.cell? ⟨tb, 4, none⟩ = some X.pv := (row_cell hrow5 4).1
  have hnew : ∀ k, F k ∨ (Value.slice a5 n5 c5).ownBlock = some k → F k ∨ w.heap.size ≤ k := fun k hk => by
   rcases hk with h1 | h1
   ·exact .inl h1
   ·rcases hf5 k h1 with h2 | h2
    ·exact .inl (hT.fp k h2)
    ·have := HF.out.size
     simp at h2
     exact .inr (by omega)
  have hF3 := HF.out.trans hF2 (fun k _ hk => hk)
  clear hT hg5 hf5 ho5 hrow hrow5 hd4 hF2
  obtain ⟨F', X2, hT2, hxq, hnew⟩ : ∃ F' X2, TaskAt (w5.setCell ⟨tb, 4, none⟩ (.slice a5 n5 c5)) F' tb p ⟨T.base, clearL T.words un wn, T.parts ++ [⟨j, 0, un, ret, none, 0, 0⟩], T.marks⟩ X2 ∧ X2.Q X X.al X.kf ∧ ∀ k, F' k → F k ∨ w.heap.size ≤ k := ⟨_, { X with pv := .slice a5 n5 c5 }, hT2, ⟨rfl, rfl, rfl, rfl⟩, hnew⟩
  have HXQ := Lib.hid hxq
  clear hxq
  have HRW := Lib.hid hnew
  clear hnew
  have HT2 := Lib.hid hT2; clear hT2
  have HF3 := Lib.hid hF3; clear hF3
  go_wp2_with fail
  obtain ⟨w6, hw6⟩ : ∃ w6, w6 = w5.setCell ⟨tb, 4, none⟩ (.slice a5 n5 c5) := ⟨_, rfl⟩
  rw [← hw6] at HT2 HF3 ⊢
  clear hw6 f4 q4
  have hok : ∀ l, l.length = T.words.length → TkOk ⟨T.base, l, T.parts ++ [⟨j, 0, un, ret, none, 0, 0⟩], T.marks⟩ := fun l hl => by
   refine ⟨by simp; omega, ht.2.1, by simp only; omega, fun q hq => ?_⟩
   rcases List.mem_append.1 hq with h1 | h1
   ·exact ht.2.2.2 q h1
   ·simp at h1
    subst h1
    simp only
    omega
  have hpl : (T.parts ++ [(⟨j, 0, un, ret, none, 0, 0⟩ : Part)]).length = T.parts.length + 1 := by simp
  have hpn : ∀ h, (T.parts ++ [(⟨j, 0, un, ret, none, 0, 0⟩ : Part)])[T.parts.length]'h = ⟨j, 0, un, ret, none, 0, 0⟩ := fun h => by simp
  have hcw := clearL_len T.words un wn
  obtain ⟨W0, hW0⟩ : ∃ W0, W0 = clearL T.words un wn := ⟨_, rfl⟩
  have hgoal : ∀ wr, TaskAt wr F' tb p ⟨T.base, setArgs W0 un al al.length, T.parts ++ [⟨j, 0, un, ret, none, 0, 0⟩], T.marks⟩ X2 → Fr F' w6 wr → ∃ F' X', TaskAt wr F' tb p (pushT T un wn j ret al) X' ∧ X'.Q X X.al X.kf ∧ (∀ k, F' k → F k ∨ w.heap.size ≤ k) ∧ Fr F w wr := fun wr h1 h2 => by
   refine ⟨F', X2, ?_, HXQ.out, HRW.out, HF3.out.trans h2 (fun k hk1 hk2 => (HRW.out k hk2).elim (fun h => h) (fun h => absurd h (by omega)))⟩
   unfold pushT
   rw [← hW0]
   exact h1
  have halr : ∀ wr, Fr F' w6 wr → IntSl wr D a al := fun wr h2 => (hal.fr HF3.out (fun k hk => (hD k hk).1)).fr h2 (fun k hk hk2 => (HRW.out k hk2).elim (hD k hk).1 (fun h => by have := (hD k hk).2; omega))
  rw [← hW0] at hcw HT2
  generalize T.parts ++ [(⟨j, 0, un, ret, none, 0, 0⟩ : Part)] = P' at *
  clear hal hD hW0 hlt hwb
  have hplen : P'.length = T.parts.length + 1 := hpl
  clear hpl
  have HOK := Lib.hid hok; clear hok
  have HPN := Lib.hid hpn; clear hpn
  have HGOAL := Lib.hid hgoal; clear hgoal
  have HALR := Lib.hid halr; clear halr
  have HPLEN := Lib.hid hplen; clear hplen
  go_loopw [42] (fun i wr => ∃ k : Nat, k ≤ al.length ∧ i = .int .i64 k ∧ TaskAt wr F' tb p ⟨T.base, setArgs W0 un al k, P', T.marks⟩ X2 ∧ Fr F' w6 wr) (fun i _ => al.length - (intOf i).toNat)
  case atStart => exact ⟨0, Nat.zero_le _, rfl, HT2.out, Fr.refl _ _⟩
  case round =>
   obtain ⟨k, hk, rfl, hTr, hFr⟩ := hrel
   by_cases hltk : k < al.length
   ·obtain ⟨b', o', rfl, _, hx⟩ := HALR.out wr hFr k hltk
    have hsl2 := setArgs_len W0 un al k
    have hss := setArgs_succ W0 un al k hltk
    have hpn2 := HPN.out (by rw [HPLEN.out]; omega)
    have st := set_in wr F' tb p ⟨T.base, setArgs W0 un al k, P', T.marks⟩ X2 hTr (HOK.out _ (by rw [hsl2, hcw])) T.parts.length HPLEN.out j hj (by simp only; rw [hpn2]) un (by simp only; rw [hpn2]) k (by omega) (by omega) (by simp only; rw [hsl2, hcw]; omega) al[k]
    simp only at st
    rw [← hss] at st
    generalize al[k] = x at *
    clear hsl2 hss hpn2 hTr
    have ST := Lib.hid st; clear st
    have HFR := Lib.hid hFr; clear hFr
    go_wp2_with fail
    refine ST.out.mono ?_
    rintro e w9 ⟨rfl, hT9, hF9⟩
    have hF10 := HFR.out.trans hF9 (fun _ _ h => h)
    clear hF9
    have HT9 := Lib.hid hT9; clear hT9
    have HF10 := Lib.hid hF10; clear hF10
    go_wp2_with fail
    go_roundw
    case rel => exact ⟨k + 1, by omega, by go_num, HT9.out, HF10.out⟩
    case measure => simp [intOf]; omega
   ·have hk' : k = al.length := by omega
    subst hk'
    have hg := HGOAL.out wr hTr hFr
    clear hTr hFr
    have HG := Lib.hid hg; clear hg
    go_wp2_with fail
    go_end0
    exact ⟨rfl, HG.out⟩
end Go.Proofs.YthkhgihjigmkoaaGreat.Tk
namespace Go.Proofs.YthkhgihjigmkoaaGreat.Tk
open Go.ChangeShapes Go.WideShapes Go.ChangeAt Go.RowKit Go.Maps
set_option maxRecDepth 100000 in
set_option maxHeartbeats 1600000 in
theorem stEnter_any (w : World) (B : Nat) (v : Value) (l : List Mark) (h : Own markE w B v l) (hn : l.length ≤ 10000) (B2 : Nat) (av : Value) (A : List Alarm) (ha : Own alarmE w B2 av A) (hna : A.length ≤ 10000) :
  Calls Tryz.prog 60 #[.agg #[v, av]] w (StPost w (l ++ [⟨false, false, 0⟩]) A) := by
 obtain ⟨a, n, c, rfl⟩ := h.slice
 obtain ⟨a', n', c', rfl⟩ := ha.slice
 have hb0 := (((Below.refl w.heap.size w).alloc (Nat.le_refl _) (.cells #[.slice a n c, .slice a' n' c'] 95)).alloc (by simp) (.cells #[.slice none 0 0, .slice none 0 0] 95))
 have hz0 : ((w.alloc (.cells #[.slice a n c, .slice a' n' c'] 95)).alloc (.cells #[.slice none 0 0, .slice none 0 0] 95)).heap.size = w.heap.size + 2 := by simp
 have hrow := heap_new (w.alloc (.cells #[.slice a n c, .slice a' n' c'] 95)) (.cells #[.slice none 0 0, .slice none 0 0] 95)
 rw [show (w.alloc (.cells #[.slice a n c, .slice a' n' c'] 95)).heap.size = w.heap.size + 1 from by simp] at hrow
 have hrow1 := row_alloc (heap_new w (.cells #[.slice a n c, .slice a' n' c'] 95)) (.cells #[.slice none 0 0, .slice none 0 0] 95)
 obtain ⟨W, hW⟩ : ∃ W, W = (w.alloc (.cells #[.slice a n c, .slice a' n' c'] 95)).alloc (.cells #[.slice none 0 0, .slice none 0 0] 95) := ⟨_, rfl⟩
 rw [← hW] at hb0 hz0 hrow hrow1
 have k0 : W.cell? ⟨w.heap.size, 0, none⟩ = some (.slice a n c) := (row_cell hrow1 0).1
 have k1 : W.cell? ⟨w.heap.size, 1, none⟩ = some (.slice a' n' c') := (row_cell hrow1 1).1
 have ow := own_any W B (.slice a n c) _ (h.below hb0) (by first | omega | (simp; done) | (simp; omega)) B2 (.slice a' n' c') _ (ha.below hb0) (by first | omega | (simp; done) | (simp; omega))
 have HW := Lib.hid hW
 have HROW := Lib.hid hrow
 have HROW1 := Lib.hid hrow1
 clear hW hrow hrow1 h ha
 have OW := Lib.hid ow; clear ow
 have HB0 := Lib.hid hb0; clear hb0
 have HZ0 := Lib.hid hz0; clear hz0
 go_enter Tryz.func60, Tryz.ntmps60
 go_upto_region 1 with fail
 rw [← HW.out]
 go_wp2_with fail
 refine OW.out.mono ?_
 rintro e w3 ⟨v3, u3, rfl, ho3, hu3, hb3⟩
 obtain ⟨a3, n3, c3, rfl⟩ := ho3.slice
 obtain ⟨a4, n4, c4, rfl⟩ := hu3.slice
 have hrow3 := (Fr.of_below hb3 (fun _ => False)).heap HROW1.out (fun h => h)
 have hrow4 := (Fr.of_below hb3 (fun _ => False)).heap HROW.out (fun h => h)
 have f0 : w3.frozen? ⟨w.heap.size, 0, none⟩ = false := (row_cell hrow3 0).2
 have f1 : w3.frozen? ⟨w.heap.size, 1, none⟩ = false := (row_cell hrow3 1).2
 have k0 : w3.cell? ⟨w.heap.size, 0, none⟩ = some (.slice a n c) := (row_cell hrow3 0).1
 have k1 : w3.cell? ⟨w.heap.size, 1, none⟩ = some (.slice a' n' c') := (row_cell hrow3 1).1
 have hs := SOwn.start hrow3 hrow4 ho3 hu3 (Nat.le_of_eq HZ0.out.symm) (Nat.le_of_eq HZ0.out.symm) (HB0.out.trans (hb3.mono HB0.out.size))
 clear hrow3 hrow4 ho3 hu3 hb3
 have HS := Lib.hid hs; clear hs
 go_upto_region 2 with fail
 obtain ⟨w4, hw4⟩ : ∃ w4, w4 = (w3.setCell ⟨w.heap.size, 0, none⟩ (.slice a3 n3 c3)).setCell ⟨w.heap.size, 1, none⟩ (.slice a4 n4 c4) := ⟨_, rfl⟩
 rw [← hw4] at HS ⊢
 clear hw4 f0 f1 k0 k1
 obtain ⟨k0, k1, f0, f1⟩ := HS.out.cells
 clear f1
 go_wp2_with (at_builtin; refine append_fresh markE rfl (.tmp 6) (.tmp 8) rfl (w.heap.size + 2) l [⟨false, false, 0⟩] _ rfl (HS.out.om.alloc _) w4.heap.size 0 1 rfl (CellsAt.new _ _ _ _) ?c1 ?c2 ?_)
 case c1 => simp; omega
 case c2 => have := HS.out.sz; simp; omega
 intro v5 w5 ho5 hg5 hf5
 obtain ⟨a5, n5, c5, rfl⟩ := ho5.slice
 obtain ⟨hr5, hs5⟩ := HS.out.appendM ho5 hg5
 clear k0 k1 f0
 have k0 : w5.cell? ⟨w.heap.size, 0, none⟩ = some (.slice a3 n3 c3) := (row_cell hr5 0).1
 have f0 : w5.frozen? ⟨w.heap.size, 0, none⟩ = false := (row_cell hr5 0).2
 clear hr5 ho5 hg5 hf5 HS
 have HS := Lib.hid hs5
 clear hs5
 go_upto_region 3 with fail
 obtain ⟨w6, hw6⟩ : ∃ w6, w6 = w5.setCell ⟨w.heap.size, 0, none⟩ (.slice a5 n5 c5) := ⟨_, rfl⟩
 rw [← hw6] at HS ⊢
 clear hw6 k0 f0
 obtain ⟨k0, k1, f0, f1⟩ := HS.out.cells
 obtain ⟨q0, q1, g0, g1⟩ := HS.out.rcells
 have hd := HS.out.done
 have HP := Lib.hid (show StPost w _ _ (.returned (.agg #[_, _])) _ from ⟨_, _, rfl, hd.2⟩)
 have HR := Lib.hid hd.1
 clear hd
 go_wp2_with (with_reducible refine bodyPost_ret ?_ rfl HP.out; have j0 := (row_cell HR.out 0).1; have j1 := (row_cell HR.out 1).1; simp at j0 j1; simp [results, Tryz.results60, go_sem, j0, j1])
set_option maxRecDepth 100000 in
set_option maxHeartbeats 1600000 in
theorem stPanic_any (w : World) (B : Nat) (v : Value) (l : List Mark) (h : Own markE w B v l) (hn : l.length ≤ 10000) (B2 : Nat) (av : Value) (A : List Alarm) (ha : Own alarmE w B2 av A) (hna : A.length ≤ 10000) (code ptr : Int) :
  Calls Tryz.prog 143 #[.agg #[v, av], .int .i64 code, .int .i64 ptr] w (StPost w l (A ++ [⟨code, ptr, 0, false, false⟩])) := by
 obtain ⟨a, n, c, rfl⟩ := h.slice
 obtain ⟨a', n', c', rfl⟩ := ha.slice
 have hb0 := (((Below.refl w.heap.size w).alloc (Nat.le_refl _) (.cells #[.slice a n c, .slice a' n' c'] 95)).alloc (by simp) (.cells #[.slice none 0 0, .slice none 0 0] 95))
 have hz0 : ((w.alloc (.cells #[.slice a n c, .slice a' n' c'] 95)).alloc (.cells #[.slice none 0 0, .slice none 0 0] 95)).heap.size = w.heap.size + 2 := by simp
 have hrow := heap_new (w.alloc (.cells #[.slice a n c, .slice a' n' c'] 95)) (.cells #[.slice none 0 0, .slice none 0 0] 95)
 rw [show (w.alloc (.cells #[.slice a n c, .slice a' n' c'] 95)).heap.size = w.heap.size + 1 from by simp] at hrow
 have hrow1 := row_alloc (heap_new w (.cells #[.slice a n c, .slice a' n' c'] 95)) (.cells #[.slice none 0 0, .slice none 0 0] 95)
 obtain ⟨W, hW⟩ : ∃ W, W = (w.alloc (.cells #[.slice a n c, .slice a' n' c'] 95)).alloc (.cells #[.slice none 0 0, .slice none 0 0] 95) := ⟨_, rfl⟩
 rw [← hW] at hb0 hz0 hrow hrow1
 have k0 : W.cell? ⟨w.heap.size, 0, none⟩ = some (.slice a n c) := (row_cell hrow1 0).1
 have k1 : W.cell? ⟨w.heap.size, 1, none⟩ = some (.slice a' n' c') := (row_cell hrow1 1).1
 have ow := own_any W B (.slice a n c) _ (h.below hb0) (by first | omega | (simp; done) | (simp; omega)) B2 (.slice a' n' c') _ (ha.below hb0) (by first | omega | (simp; done) | (simp; omega))
 have HW := Lib.hid hW
 have HROW := Lib.hid hrow
 have HROW1 := Lib.hid hrow1
 clear hW hrow hrow1 h ha
 have OW := Lib.hid ow; clear ow
 have HB0 := Lib.hid hb0; clear hb0
 have HZ0 := Lib.hid hz0; clear hz0
 go_enter Tryz.func143, Tryz.ntmps143
 go_upto_region 1 with fail
 rw [← HW.out]
 go_wp2_with fail
 refine OW.out.mono ?_
 rintro e w3 ⟨v3, u3, rfl, ho3, hu3, hb3⟩
 obtain ⟨a3, n3, c3, rfl⟩ := ho3.slice
 obtain ⟨a4, n4, c4, rfl⟩ := hu3.slice
 have hrow3 := (Fr.of_below hb3 (fun _ => False)).heap HROW1.out (fun h => h)
 have hrow4 := (Fr.of_below hb3 (fun _ => False)).heap HROW.out (fun h => h)
 have f0 : w3.frozen? ⟨w.heap.size, 0, none⟩ = false := (row_cell hrow3 0).2
 have f1 : w3.frozen? ⟨w.heap.size, 1, none⟩ = false := (row_cell hrow3 1).2
 have k0 : w3.cell? ⟨w.heap.size, 0, none⟩ = some (.slice a n c) := (row_cell hrow3 0).1
 have k1 : w3.cell? ⟨w.heap.size, 1, none⟩ = some (.slice a' n' c') := (row_cell hrow3 1).1
 have hs := SOwn.start hrow3 hrow4 ho3 hu3 (Nat.le_of_eq HZ0.out.symm) (Nat.le_of_eq HZ0.out.symm) (HB0.out.trans (hb3.mono HB0.out.size))
 clear hrow3 hrow4 ho3 hu3 hb3
 have HS := Lib.hid hs; clear hs
 go_upto_region 2 with fail
 obtain ⟨w4, hw4⟩ : ∃ w4, w4 = (w3.setCell ⟨w.heap.size, 0, none⟩ (.slice a3 n3 c3)).setCell ⟨w.heap.size, 1, none⟩ (.slice a4 n4 c4) := ⟨_, rfl⟩
 rw [← hw4] at HS ⊢
 clear hw4 f0 f1 k0 k1
 obtain ⟨k0, k1, f0, f1⟩ := HS.out.cells
 clear f0
 go_wp2_with (at_builtin; refine append_fresh alarmE rfl (.tmp 10) (.tmp 14) rfl (w.heap.size + 2) A [⟨code, ptr, 0, false, false⟩] _ rfl (HS.out.oa.alloc _) w4.heap.size 0 1 rfl (CellsAt.new _ _ _ _) ?c1 ?c2 ?_)
 case c1 => simp; omega
 case c2 => have := HS.out.sz; simp; omega
 intro v5 w5 ho5 hg5 hf5
 obtain ⟨a5, n5, c5, rfl⟩ := ho5.slice
 obtain ⟨hr5, hs5⟩ := HS.out.appendA ho5 hg5
 clear k0 k1 f1
 have k1 : w5.cell? ⟨w.heap.size, 1, none⟩ = some (.slice a4 n4 c4) := (row_cell hr5 1).1
 have f1 : w5.frozen? ⟨w.heap.size, 1, none⟩ = false := (row_cell hr5 1).2
 clear hr5 ho5 hg5 hf5 HS
 have HS := Lib.hid hs5
 clear hs5
 go_upto_region 3 with fail
 obtain ⟨w6, hw6⟩ : ∃ w6, w6 = w5.setCell ⟨w.heap.size, 1, none⟩ (.slice a5 n5 c5) := ⟨_, rfl⟩
 rw [← hw6] at HS ⊢
 clear hw6 k1 f1
 obtain ⟨k0, k1, f0, f1⟩ := HS.out.cells
 obtain ⟨q0, q1, g0, g1⟩ := HS.out.rcells
 have hd := HS.out.done
 have HP := Lib.hid (show StPost w _ _ (.returned (.agg #[_, _])) _ from ⟨_, _, rfl, hd.2⟩)
 have HR := Lib.hid hd.1
 clear hd
 go_wp2_with (with_reducible refine bodyPost_ret ?_ rfl HP.out; have j0 := (row_cell HR.out 0).1; have j1 := (row_cell HR.out 1).1; simp at j0 j1; simp [results, Tryz.results143, go_sem, j0, j1])
set_option maxRecDepth 100000 in
set_option maxHeartbeats 1600000 in
theorem stLeave_some (w : World) (B : Nat) (v : Value) (l : List Mark) (m : Mark) (h : Own markE w B v (l ++ [m])) (hn : l.length ≤ 10000) (B2 : Nat) (av : Value) (A : List Alarm) (ha : Own alarmE w B2 av A) (hna : A.length ≤ 10000) :
  Calls Tryz.prog 144 #[.agg #[v, av]] w (StPost w (l ++ [⟨true, m.deferred, m.thunks⟩]) A) := by
 obtain ⟨N, hN⟩ : ∃ N, l.length + 1 = N := ⟨_, rfl⟩
 have n0 : (0 : Int) < (N : Int) := by omega
 have i1 : IntKind.i64.wrap ((N : Int) - 1) = (l.length : Int) := by rw [show ((N : Int) - 1) = (l.length : Int) from by omega]; exact IntWalk.i64_in _ (by omega)
 have n1 : (l.length : Int) < (N : Int) := by omega
 obtain ⟨a, n, c, rfl⟩ := h.slice
 obtain ⟨a', n', c', rfl⟩ := ha.slice
 have hb0 := (((Below.refl w.heap.size w).alloc (Nat.le_refl _) (.cells #[.slice a n c, .slice a' n' c'] 95)).alloc (by simp) (.cells #[.slice none 0 0, .slice none 0 0] 95))
 have hz0 : ((w.alloc (.cells #[.slice a n c, .slice a' n' c'] 95)).alloc (.cells #[.slice none 0 0, .slice none 0 0] 95)).heap.size = w.heap.size + 2 := by simp
 have hrow := heap_new (w.alloc (.cells #[.slice a n c, .slice a' n' c'] 95)) (.cells #[.slice none 0 0, .slice none 0 0] 95)
 rw [show (w.alloc (.cells #[.slice a n c, .slice a' n' c'] 95)).heap.size = w.heap.size + 1 from by simp] at hrow
 have hrow1 := row_alloc (heap_new w (.cells #[.slice a n c, .slice a' n' c'] 95)) (.cells #[.slice none 0 0, .slice none 0 0] 95)
 obtain ⟨W, hW⟩ : ∃ W, W = (w.alloc (.cells #[.slice a n c, .slice a' n' c'] 95)).alloc (.cells #[.slice none 0 0, .slice none 0 0] 95) := ⟨_, rfl⟩
 rw [← hW] at hb0 hz0 hrow hrow1
 have k0 : W.cell? ⟨w.heap.size, 0, none⟩ = some (.slice a n c) := (row_cell hrow1 0).1
 have k1 : W.cell? ⟨w.heap.size, 1, none⟩ = some (.slice a' n' c') := (row_cell hrow1 1).1
 have ow := own_any W B (.slice a n c) _ (h.below hb0) (by first | omega | (simp; done) | (simp; omega)) B2 (.slice a' n' c') _ (ha.below hb0) (by first | omega | (simp; done) | (simp; omega))
 have HW := Lib.hid hW
 have HROW := Lib.hid hrow
 have HROW1 := Lib.hid hrow1
 clear hW hrow hrow1 h ha
 have OW := Lib.hid ow; clear ow
 have HB0 := Lib.hid hb0; clear hb0
 have HZ0 := Lib.hid hz0; clear hz0
 go_enter Tryz.func144, Tryz.ntmps144
 go_upto_region 1 with fail
 rw [← HW.out]
 go_wp2_with fail
 refine OW.out.mono ?_
 rintro e w3 ⟨v3, u3, rfl, ho3, hu3, hb3⟩
 obtain ⟨a3, n3, c3, rfl⟩ := ho3.slice
 obtain ⟨a4, n4, c4, rfl⟩ := hu3.slice
 have hrow3 := (Fr.of_below hb3 (fun _ => False)).heap HROW1.out (fun h => h)
 have hrow4 := (Fr.of_below hb3 (fun _ => False)).heap HROW.out (fun h => h)
 have f0 : w3.frozen? ⟨w.heap.size, 0, none⟩ = false := (row_cell hrow3 0).2
 have f1 : w3.frozen? ⟨w.heap.size, 1, none⟩ = false := (row_cell hrow3 1).2
 have k0 : w3.cell? ⟨w.heap.size, 0, none⟩ = some (.slice a n c) := (row_cell hrow3 0).1
 have k1 : w3.cell? ⟨w.heap.size, 1, none⟩ = some (.slice a' n' c') := (row_cell hrow3 1).1
 have hs := SOwn.start hrow3 hrow4 ho3 hu3 (Nat.le_of_eq HZ0.out.symm) (Nat.le_of_eq HZ0.out.symm) (HB0.out.trans (hb3.mono HB0.out.size))
 clear hrow3 hrow4 ho3 hu3 hb3
 have HS := Lib.hid hs; clear hs
 go_upto_region 2 with fail
 obtain ⟨w4, hw4⟩ : ∃ w4, w4 = (w3.setCell ⟨w.heap.size, 0, none⟩ (.slice a3 n3 c3)).setCell ⟨w.heap.size, 1, none⟩ (.slice a4 n4 c4) := ⟨_, rfl⟩
 rw [← hw4] at HS ⊢
 clear hw4 f0 f1 k0 k1
 obtain ⟨k0, k1, f0, f1⟩ := HS.out.cells
 obtain ⟨g3, cc3, he3, hc3, _⟩ := own_pop HS.out.om
 injection he3 with e1 e2 e3
 subst e1 e2 e3
 rw [hN] at k0 HS
 have c0 : w4.cell? ⟨g3, l.length * 3, none⟩ = some (.bool m.leaving) := (own_lastc HS.out.om 0 _ rfl).1
 have f3 : w4.frozen? ⟨g3, l.length * 3, none⟩ = false := (own_lastc HS.out.om 0 _ rfl).2
 have hs5 := HS.out.mark (y := ⟨true, m.deferred, m.thunks⟩) 0 (.bool true) rfl
 clear f0 f1 k1
 have HS5 := Lib.hid hs5
 clear hs5 HS
 go_upto_region 5 with fail
 obtain ⟨w6, hw6⟩ : ∃ w6, w6 = w4.setCell ⟨g3, l.length * 3, none⟩ (.bool true) := ⟨_, rfl⟩
 have HS := Lib.hid (show SOwn w (l ++ [⟨true, m.deferred, m.thunks⟩]) A (.slice (some ⟨g3, 0, none⟩) N c3) (.slice a4 n4 c4) w6 from by rw [hw6]; exact HS5.out)
 rw [← hw6]
 clear hw6 k0 c0 f3 HS5
 obtain ⟨k0, k1, f0, f1⟩ := HS.out.cells
 obtain ⟨q0, q1, g0, g1⟩ := HS.out.rcells
 have hd := HS.out.done
 have HP := Lib.hid (show StPost w _ _ (.returned (.agg #[_, _])) _ from ⟨_, _, rfl, hd.2⟩)
 have HR := Lib.hid hd.1
 clear hd
 go_wp2_with (with_reducible refine bodyPost_ret ?_ rfl HP.out; have j0 := (row_cell HR.out 0).1; have j1 := (row_cell HR.out 1).1; simp at j0 j1; simp [results, Tryz.results144, go_sem, j0, j1])
end Go.Proofs.YthkhgihjigmkoaaGreat.Tk
namespace Go.Proofs.YthkhgihjigmkoaaGreat.Tk
open Go.ChangeShapes Go.WideShapes Go.ChangeAt Go.RowKit Go.Maps
def enterT (T : Tk) (un wn : Nat) (j : Nat) (ret : Int) (al : List Int) : Tk := ⟨T.base, (pushT T un wn j ret al).words, (pushT T un wn j ret al).parts, T.marks ++ [⟨false, false, 0⟩]⟩
set_option maxRecDepth 100000 in
set_option maxHeartbeats 3200000 in
theorem enter_yes (w : World) (F : Nat → Prop) (tb : Nat) (p : TPrg) (T : Tk) (X : TB) (h : TaskAt w F tb p T X) (hp : PSmall p) (ht : TkOk T) (hlen : T.parts.length < 1000) (j : Nat) (hj : j < p.funcs.length) (un : Nat) (hun : usedN p T = un) (hfit : un + wordsN p j ≤ T.words.length)
  (D : Nat → Prop) (a : Option Addr) (al : List Int) (c : Nat) (hal : IntSl w D a al) (hD : ∀ k, D k → ¬ F k ∧ k < w.heap.size) (hna : al.length = p.funcs[j].nargs) (hsl : (al.length : Int) ≤ p.funcs[j].slots) (hal2 : al.length ≤ 3000) (hal9 : X.al.length ≤ 10000) (ret : Int) :
  Calls Tryz.prog 20 #[.pointer (some ⟨tb, 0, none⟩), .int .i64 j, .slice a al.length c, .int .i64 ret] w fun e w' => e = .returned (.bool true) ∧ ∃ F' X', TaskAt w' F' tb p (enterT T un (wordsN p j) j ret al) X' ∧ X'.Q X X.al X.kf ∧ (∀ k, F' k → F k ∨ w.heap.size ≤ k) ∧ Fr F w w' := by
 have hfb : fitsB p T j al.length = true := by
  rw [fitsB_at hj, hna, hun]
  simp
  omega
 have fi := fits_any w F tb p T X h hp ht j a al.length c hal2
 rw [hfb] at fi
 have pu := fun wr (hw : Below w.heap.size w wr) => push_any wr F tb p T X (h.below hw) hp ht hlen j hj un hun hfit D a al c (hal.fr (Fr.of_below hw (fun _ => False)) (fun _ _ h => h)) (fun k hk => ⟨(hD k hk).1, Nat.lt_of_lt_of_le (hD k hk).2 hw.size⟩) hsl hal2 ret
 have hm := ht.2.1
 have hma := hal9
 generalize wordsN p j = wn at *
 clear h hfb hfit hal hD hna hsl hal9
 have FI := Lib.hid fi; clear fi
 have PU := Lib.hid pu; clear pu
 have HUN := Lib.hid hun; clear hun
 go_enter Tryz.func20, Tryz.ntmps20
 go_wp2_with fail
 refine FI.out.mono ?_
 rintro e w1 ⟨rfl, hb⟩
 have HB := Lib.hid hb
 clear hb
 go_wp2_with fail
 refine (PU.out w1 HB.out).mono ?_
 rintro e w2 ⟨rfl, F2, X2, hT2, hxq, hF2, hfr2⟩
 have q5 := hT2.cells.2.2.2.2.2.1
 have q6 := hT2.cells.2.2.2.2.2.2.1
 have em := stEnter_any w2 0 X2.mv T.marks hT2.marks (by omega) 0 X2.av X2.al hT2.alarms (by rw [hxq.2.1]; exact hma)
 obtain ⟨a5, n5, c5, hmv⟩ := hT2.marks.slice
 obtain ⟨a6, n6, c6, hav⟩ := hT2.alarms.slice
 rw [hmv] at em q5
 rw [hav] at em q6
 have EM := Lib.hid em; clear em
 have HT2 := Lib.hid hT2; clear hT2
 have HF2 := Lib.hid hF2; clear hF2
 have HFR2 := Lib.hid hfr2; clear hfr2
 have HMV := Lib.hid hmv; clear hmv
 have HAV := Lib.hid hav; clear hav
 have HXQ := Lib.hid hxq; clear hxq
 go_wp2_with fail
 refine EM.out.mono ?_
 rintro e w3 ⟨v3, u3, rfl, ho3, hu3, hb3⟩
 obtain ⟨a3, n3, c3, rfl⟩ := ho3.slice
 obtain ⟨a4, n4, c4, rfl⟩ := hu3.slice
 have hT3 := HT2.out.below hb3
 obtain ⟨hT4, hF4⟩ := hT3.mark ho3 hu3 (fun k hk => hk.elim (fun h => HT2.out.flt k h) (fun h => (HT2.out.out k h).2))
 have q5 := hT3.cells.2.2.2.2.2.1
 have q6 := hT3.cells.2.2.2.2.2.2.1
 have f5 : w3.frozen? ⟨tb, 5, none⟩ = false := (row_cell hT3.row 5).2
 have f6 : w3.frozen? ⟨tb, 6, none⟩ = false := (row_cell hT3.row 6).2
 have hs2 := HFR2.out.size
 have hfin : ∃ F' X', TaskAt ((w3.setCell ⟨tb, 5, none⟩ (.slice a3 n3 c3)).setCell ⟨tb, 6, none⟩ (.slice a4 n4 c4)) F' tb p (enterT T un wn j ret al) X' ∧ X'.Q X X.al X.kf ∧ (∀ k, F' k → F k ∨ w.heap.size ≤ k) ∧ Fr F w ((w3.setCell ⟨tb, 5, none⟩ (.slice a3 n3 c3)).setCell ⟨tb, 6, none⟩ (.slice a4 n4 c4)) := by
  have hz1 := HB.out.size
  refine ⟨_, _, hT4, ⟨HXQ.out.1, HXQ.out.2.1, HXQ.out.2.2.1, HXQ.out.2.2.2⟩, fun k hk => ?_, ?_⟩
  ·rcases hk with (h1 | h1) | h1
   ·rcases HF2.out k h1 with h2 | h2
    ·exact .inl h2
    ·exact .inr (by omega)
   ·have := (ho3.lt h1).1
    exact .inr (by omega)
   ·have := (hu3.lt h1).1
    exact .inr (by omega)
  ·have h1 := (Fr.of_below HB.out F).trans HFR2.out (fun k _ hk => hk)
   have h2 := h1.trans (Fr.of_below hb3 F) (fun k _ hk => hk)
   exact h2.trans hF4 (fun k hk1 hk2 => (HF2.out k hk2).elim (fun h => h) (fun h => absurd h (by omega)))
 clear hT3 hT4 hF4 ho3 hu3 hb3 hs2
 have HFIN := Lib.hid hfin; clear hfin
 go_wp2_with fail
 go_ret
 exact ⟨rfl, HFIN.out⟩
end Go.Proofs.YthkhgihjigmkoaaGreat.Tk
namespace Go.Proofs.YthkhgihjigmkoaaGreat.Tk
open Go.ChangeShapes Go.WideShapes Go.ChangeAt Go.RowKit Go.Maps
set_option maxRecDepth 100000 in
theorem fit_stay (w : World) (first need : Int) (h1 : 1 ≤ first) (h2 : need ≤ first) (h3 : first ≤ 1000000) :
  Calls Tryz.prog 45 #[.int .i64 first, .int .i64 need] w fun e w' => e = .returned (.int .i64 first) ∧ w = w' := by
 have n1 : ¬ first < 1 := by omega
 have n2 : ¬ first < need := by omega
 have n3 : ¬ 1000000 < first := by omega
 go_enter Tryz.func45, Tryz.ntmps45
 go_wp2_with fail
 go_loopw [0] (fun v wr => v = .int .i64 first ∧ wr = w) (fun _ _ => 0)
 case atStart => exact ⟨rfl, by first | rfl | trivial⟩
 case round =>
  obtain ⟨rfl, rfl⟩ := hrel
  go_wp2_with fail
  go_ret
  exact ⟨rfl, by first | rfl | trivial⟩
set_option maxRecDepth 100000 in
theorem make_ints (w : World) (n : Nat) (hn : n ≤ 100000) : (Instr.makeSlice 23 (.int .i64 n) (.int .i64 n)).run Tryz.prog w = .ok (.slice (some ⟨w.heap.size, 0, none⟩) n n) (w.alloc (intRow (List.replicate n 0) 3)) := by
 obtain ⟨i0, hi, hz0, hz1, hz2⟩ := info_parts intE.info
 have h := run_makeSlice (P := Tryz.prog) (w := w) 23 3 i0 (.int .i64 0) Tryz.underlying23 hi hz0 .i64 .i64 (n : Int) (n : Int) (by omega) (Int.le_refl _) (by rw [hz1]; show (n : Int).toNat * 1 ≤ 16777216; omega) (by rw [hz2]; show (8 : Int) * (n : Int) ≤ 281474976710656; omega) (by omega)
 rw [h]
 simp only [Int.toNat_natCast, hz1]
 have e : madeCells (Value.int .i64 0).cells (n * intE.size) = ((List.replicate n (0 : Int)).map (Value.int .i64)).toArray := by
  show madeCells #[Value.int .i64 0] (n * 1) = _
  unfold madeCells
  apply Array.ext
  ·simp
  ·intro i h1 h2
   simp [Nat.mod_one]
 rw [e]
 rfl
set_option maxRecDepth 100000 in
set_option maxHeartbeats 1600000 in
theorem stNew_any (w : World) (serial : Nat) (hs : serial ≤ 100000) (n : Nat) (h1 : 1 ≤ n) (h2 : n ≤ 4096) :
  Calls Tryz.prog 46 #[.int .i64 serial, .int .i64 n] w fun e w' => ∃ sb wb, e = .returned (.pointer (some ⟨sb, 0, none⟩)) ∧ StAt w' sb wb (1073741824 + (serial : Int) * 8192) (List.replicate n 0) ∧ w.heap.size ≤ sb ∧ w.heap.size ≤ wb ∧ sb < w'.heap.size ∧ wb < w'.heap.size ∧ Below w.heap.size w w' := by
 have mk := fun w => make_ints w n (by omega)
 have n1 : ¬ (serial : Int) < 0 := by omega
 have n2 : ¬ (100000 : Int) < (serial : Int) := by omega
 have n3 : ¬ (n : Int) < 1 := by omega
 have n4 : ¬ (4096 : Int) < (n : Int) := by omega
 have m1 : (0 : Int) ≤ (serial : Int) := by omega
 have m2 : (serial : Int) ≤ 100000 := by omega
 have m3 : (1 : Int) ≤ (n : Int) := by omega
 have m4 : (n : Int) ≤ 4096 := by omega
 go_enter Tryz.func46, Tryz.ntmps46
 go_wp2_with fail
 go_ret
 have hr1 := heap_new (w.alloc (intRow (List.replicate n 0) 3)) (.cells #[.int .i64 (1073741824 + (serial : Int) * 8192), .slice (some ⟨w.heap.size, 0, none⟩) n n] 142)
 rw [show (w.alloc (intRow (List.replicate n 0) 3)).heap.size = w.heap.size + 1 from by simp] at hr1
 have hr2 := row_alloc (heap_new w (intRow (List.replicate n 0) 3)) (.cells #[.int .i64 (1073741824 + (serial : Int) * 8192), .slice (some ⟨w.heap.size, 0, none⟩) n n] 142)
 refine ⟨w.heap.size + 1, rfl, w.heap.size, ⟨?_, hr2⟩, ?_⟩
 ·rw [List.length_replicate]
  exact hr1
 ·refine ⟨by omega, Nat.le_refl _, by simp, by simp; omega, ((Below.refl _ _).alloc (Nat.le_refl _) _).alloc (by simp) _⟩
end Go.Proofs.YthkhgihjigmkoaaGreat.Tk
namespace Go.Proofs.YthkhgihjigmkoaaGreat.Tk
open Go.ChangeShapes Go.WideShapes Go.ChangeAt Go.RowKit Go.Maps
set_option maxRecDepth 100000 in
theorem base_any (w : World) (sb wb : Nat) (base : Int) (l : List Int) (h : StAt w sb wb base l) :
  Calls Tryz.prog 61 #[.pointer (some ⟨sb, 0, none⟩)] w fun e w' => e = .returned (.int .i64 base) ∧ w = w' := by
 obtain ⟨k0, k1⟩ := h.cells
 clear h
 go_enter Tryz.func61, Tryz.ntmps61
 go_wp2_with fail
 go_ret
 exact ⟨rfl, rfl⟩
end Go.Proofs.YthkhgihjigmkoaaGreat.Tk
