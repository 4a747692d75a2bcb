import Derived.Test.YtjcjhfnjamphlaaGreatZAg
set_option linter.unusedVariables false
set_option linter.unusedSimpArgs false
namespace Go.Proofs.YtjcjhfnjamphlaaGreat
open Go.ChangeShapes Go.WideShapes Go.ChangeAt Go.RowKit
def OutOk {α : Type} (E : Elem Tryz.prog α) (HE : Elem Tryz.prog Hd) (mk : Nat → Nat → α) (w wr : World) (B : Nat) (hs : List Hd) (ls : List (List α)) (vo : Value) (i : Nat) : Prop :=
 ∃ hs2 : List Hd, Own HE wr w.heap.size vo hs2 ∧ hs2.length = i ∧ ∀ j (h : j < hs2.length) (h1 : j < hs.length) (h2 : j < ls.length), hs2[j].n = ls[j].length + 72 ∧ Own E wr B hs2[j].val (marks mk j 0 (ls[j].length + 72)) ∧
  ∀ k, hs2[j].val.ownBlock = some k → (hs[j].val.ownBlock = some k ∨ w.heap.size ≤ k) ∧ vo.ownBlock ≠ some k
theorem OutOk.fr {α : Type} {E : Elem Tryz.prog α} {HE : Elem Tryz.prog Hd} {mk : Nat → Nat → α} {w wr wr' : World} {B : Nat} {hs : List Hd} {ls : List (List α)} {vo : Value} {i : Nat} {F : Nat → Prop} (h : OutOk E HE mk w wr B hs ls vo i) (hi : i ≤ hs.length) (hl : hs.length = ls.length) (hf : Fr F wr wr')
  (h1 : ∀ k, w.heap.size ≤ k → k < wr.heap.size → ¬ F k) (h2 : ∀ j (hj : j < hs.length), j < i → ∀ k, hs[j].val.ownBlock = some k → ¬ F k) : OutOk E HE mk w wr' B hs ls vo i := by
 obtain ⟨hs2, g1, g2, g3⟩ := h
 refine ⟨hs2, g1.fr hf (fun k hk => h1 k (g1.lt hk).1 (g1.lt hk).2), g2, fun j hj hj1 hj2 => ?_⟩
 obtain ⟨e1, e2, e3⟩ := g3 j hj hj1 hj2
 refine ⟨e1, e2.fr hf (fun k hk => ?_), e3⟩
 rcases (e3 k hk).1 with h | h
 ·exact h2 j hj1 (by omega) k h
 ·exact h1 k h (e2.lt hk).2
theorem OutOk.snoc {α : Type} {E : Elem Tryz.prog α} {HE : Elem Tryz.prog Hd} {mk : Nat → Nat → α} {w wr wr' : World} {B : Nat} {hs : List Hd} {ls : List (List α)} {vo vo' : Value} {i : Nat} {hs2 : List Hd} {x : Hd} (hB : B ≤ w.heap.size)
  (g1 : Own HE wr w.heap.size vo hs2) (g2 : hs2.length = i) (g3 : ∀ j (h : j < hs2.length) (h1 : j < hs.length) (h2 : j < ls.length), hs2[j].n = ls[j].length + 72 ∧ Own E wr B hs2[j].val (marks mk j 0 (ls[j].length + 72)) ∧ ∀ k, hs2[j].val.ownBlock = some k → (hs[j].val.ownBlock = some k ∨ w.heap.size ≤ k) ∧ vo.ownBlock ≠ some k)
  (hi : i < ls.length) (hi1 : i < hs.length) (hn : x.n = ls[i].length + 72) (hx : Own E wr B x.val (marks mk i 0 (ls[i].length + 72))) (hxb : ∀ k, x.val.ownBlock = some k → (hs[i].val.ownBlock = some k ∨ w.heap.size ≤ k) ∧ vo.ownBlock ≠ some k)
  (ho : Own HE wr' w.heap.size vo' (hs2 ++ [x])) (hg : wr.grownBy wr' vo.ownBlock) (hf : Fresh wr vo vo') : OutOk E HE mk w wr' B hs ls vo' (i + 1) := by
 have hfr : Fr (fun k => vo.ownBlock = some k) wr wr' := (Fr.refl _ _).grown hg (fun k hk _ => hk)
 have hne : ∀ (y : Value) l, Own E wr B y l → (∀ k, y.ownBlock = some k → vo.ownBlock ≠ some k) → ∀ k, y.ownBlock = some k → vo'.ownBlock ≠ some k := fun y l hy h k hk e => by
  rcases hf k e with h5 | h5
  ·exact h k hk h5
  ·have := (hy.lt hk).2; omega
 refine ⟨hs2 ++ [x], ho, by simp [g2], fun j hj hj1 hj2 => ?_⟩
 rcases snoc_get hs2 x j hj with ⟨h5, h6⟩ | ⟨h5, h6⟩
 ·rw [h6]
  obtain ⟨e1, e2, e3⟩ := g3 j h5 hj1 hj2
  exact ⟨e1, e2.fr hfr (fun k hk => (e3 k hk).2), fun k hk => ⟨(e3 k hk).1, hne _ _ e2 (fun k hk => (e3 k hk).2) k hk⟩⟩
 ·rw [h6]
  have : j = i := by omega
  subst this
  exact ⟨hn, hx.fr hfr (fun k hk => (hxb k hk).2), fun k hk => ⟨(hxb k hk).1, hne _ _ hx (fun k hk => (hxb k hk).2) k hk⟩⟩
set_option maxRecDepth 100000 in
set_option maxHeartbeats 3200000 in
theorem growInts_any (w : World) (p B : Nat) (X : Nat → Prop) (v : Value) (hs : List Hd) (ls : List (List Int)) (q0 : w.cell? ⟨p, 0, none⟩ = some v) (hp : ¬ X p) (hX : ∀ k, X k → k < w.heap.size) (hB : B ≤ w.heap.size) (hF : Fam intE intsE w B X v hs ls)
  (hn : ls.length ≤ 1000) (hl : ∀ l ∈ ls, l.length ≤ 100000) (hM : ∀ i (h : i < ls.length), ls[i] = marks mkInts i 0 ls[i].length) :
  Calls Tryz.prog 40 #[.pointer (some ⟨p, 0, none⟩)] w fun e w' => ∃ vo, e = .returned vo ∧ OutOk intE intsE mkInts w w' B hs ls vo ls.length ∧ Fam intE intsE w' B X v hs ls ∧ Fr X w w' := by
 obtain ⟨a, c, rfl⟩ := hF.slice
 have HF := Lib.hid hF; clear hF
 have HL := Lib.hid hl; clear hl
 have HX := Lib.hid hX; clear hX
 have HP := Lib.hid hp; clear hp
 have HM := Lib.hid hM; clear hM
 go_enter Tryz.func40, Tryz.ntmps40
 go_wp2_with fail
 go_loopw [3, 4] (fun vo s4 wr => ∃ i : Nat, i ≤ ls.length ∧ s4 = .int .i64 i ∧ OutOk intE intsE mkInts w wr B hs ls vo i ∧ Fam intE intsE wr B X (.slice a ls.length c) hs ls ∧ Fr X w wr) (fun _ s4 _ => ls.length - (intOf s4).toNat)
 case atStart => exact ⟨0, Nat.zero_le _, rfl, ⟨[], Own.nil _ _ _, rfl, fun j hj _ _ => (by cases hj)⟩, HF.out, Fr.refl _ _⟩
 case round =>
  obtain ⟨i, hi, rfl, hout, hf, hfr⟩ := hrel
  have r0 := hfr.cell q0 HP.out
  by_cases hlt : i < ls.length
  ·obtain ⟨g, c2, he, hXg, hj, hc, ho⟩ := hf.head rfl (fun _ => rfl) i hlt
   injection he with e1 e2 e3
   subst e1 e3
   have hlk := HL.out _ (List.getElem_mem hlt)
   have hm := HM.out i hlt
   have hmem := hf.mem i hj
   have hgs : GS intE wr B hs[i].val ls[i] hs[i].val (marks mkInts i 0 (ls[i].length + 0)) := by
    rw [Nat.add_zero, ← hm]; exact GS.init ho
   obtain ⟨x, y, hxv⟩ : ∃ x y, hs[i].val = .slice x ls[i].length y := by
    obtain ⟨x, y, hx, _⟩ := own_elems ho
    exact ⟨x, y, hx⟩
   have mk : ∀ W f d, 1 ≤ d → d ≤ 60 → f ≤ 200000 → Calls Tryz.prog 69 #[.int .i64 i, .int .i64 (f : Nat), .int .i64 (d : Nat)] W fun e w' => ∃ g c, e = .returned (.slice (some ⟨g, 0, none⟩) (marks mkInts i f d).length c) ∧ CellsAt w' g 0 ((marks mkInts i f d).flatMap (intE).enc) ∧ Below W.heap.size W w' := fun W f d h1 h2 h3 =>
    (markInts_any i f d W (by omega) (by omega) (by omega)).mono (by
     rintro e w' ⟨v, rfl, ho, hb⟩
     obtain ⟨g, c, rfl, _, _, hcs⟩ := ho.cells (by rw [marks_len]; exact h1)
     exact ⟨g, c, rfl, hcs, hb⟩)
   have hub := fun (n : Nat) (h : n = ls[i].length) => hlk
   obtain ⟨hd, hhd⟩ : ∃ hd, hd = hs[i].val := ⟨_, rfl⟩
   rw [← hhd] at hc hgs hxv hmem
   rw [hxv] at hc
   have hsz0 := hfr.size
   obtain ⟨N1, hn1⟩ : ∃ N1, N1 = wr.heap.size := ⟨_, rfl⟩
   have hvo := fun k hk => (hout.choose_spec.1.lt (k := k) hk).2
   rw [← hn1] at hvo hsz0
   have hg1 := hf
   have hr1 := hfr
   generalize hl0 : ls[i] = l0 at *
   generalize hn0 : l0.length = n0 at *
   have hmk1 := mk
   clear hf hfr hm hub ho mk
   have HMK1 := Lib.hid hmk1; clear hmk1
   have HG1 := Lib.hid hg1; clear hg1
   have HR1 := Lib.hid hr1; clear hr1
   have HGS := Lib.hid hgs; clear hgs
   have HHD := Lib.hid hhd; clear hhd
   have HXV := Lib.hid hxv; clear hxv
   have HOUT := Lib.hid hout; clear hout
   have HMEM := Lib.hid hmem; clear hmem
   have HL0 := Lib.hid hl0; clear hl0
   have HN0 := Lib.hid hn0; clear hn0
   have HN1 := Lib.hid hn1; clear hn1
   have HVO := Lib.hid hvo; clear hvo
   go_wp2_with fail
   rw [← HXV.out]
   go_loopw [5, 6] (fun vl s6 wk => ∃ t : Nat, t ≤ 12 ∧ s6 = .int .i64 t ∧ GS intE wk B hd l0 vl (marks mkInts i 0 (n0 + t)) ∧ (∀ k, vl.ownBlock = some k → hd.ownBlock = some k ∨ N1 ≤ k) ∧ Fr (fun k => hd.ownBlock = some k) wr wk) (fun _ s6 _ => 12 - (intOf s6).toNat)
   case atStart => exact ⟨0, by omega, rfl, HGS.out, fun k hk => .inl hk, Fr.refl _ _⟩
   case round =>
    obtain ⟨t, ht, rfl, hgs2, hvb, hfk⟩ := hrel
    obtain ⟨L, hL⟩ : ∃ L, L = marks mkInts i 0 (n0 + t) := ⟨_, rfl⟩
    have hq : L.length = n0 + t := by rw [hL, marks_len]
    have hLb : L.length ≤ 200000 := by omega
    rw [← hL] at hgs2
    obtain ⟨x1, y1, hv1⟩ : ∃ x1 y1, _ = Value.slice x1 L.length y1 := by
     obtain ⟨x, y, hx, _⟩ := own_elems hgs2.cur
     exact ⟨x, y, hx⟩
    subst hv1
    by_cases hlt12 : t < 12
    ·have hmk := fun W => HMK1.out W L.length 1 (by omega) (by omega) (by omega)
     rw [show ((1 : Nat) : Int) = 1 from rfl] at hmk
     obtain ⟨M, hMe⟩ : ∃ M, M = marks mkInts i L.length 1 := ⟨_, rfl⟩
     have hMl : M.length = 1 := by rw [hMe, marks_len]
     rw [← hMe] at hmk
     have hLM : L ++ M = marks mkInts i 0 (n0 + (t + 1)) := by rw [hMe, hL, marks_len, ← Nat.add_assoc, marks_add mkInts i (n0 + t) 1]
     have HMK := Lib.hid hmk; clear hmk
     have HGS2 := Lib.hid hgs2; clear hgs2
     have HVB := Lib.hid hvb; clear hvb
     have HFK := Lib.hid hfk; clear hfk
     have HME := Lib.hid hMe; clear hMe
     have HL := Lib.hid hL; clear hL
     have HLM := Lib.hid hLM; clear hLM
     have HML := Lib.hid hMl; clear hMl
     have HQ := Lib.hid hq; clear hq
     go_wp2_with fail
     refine (HMK.out _).mono ?_
     rintro e W ⟨g1, c1, rfl, hcs, hb⟩
     have hgs3 := HGS2.out.below hb
     have HB' := Lib.hid hb; clear hb
     have HGS3 := Lib.hid hgs3; clear hgs3
     have HCS := Lib.hid hcs; clear hcs
     go_wp2_with (at_builtin; refine append_keep intE rfl (.tmp 27) (.tmp 31) rfl B L M _ rfl HGS3.out.cur g1 0 c1 rfl HCS.out ?c1 ?c2 ?_)
     case c1 => rw [HML.out]; omega
     case c2 => have := HN1.out; have := HFK.out.size; have := HB'.out.size; omega
     intro v4 w4 h1 h2 h3 h4
     have hgs4 := HGS3.out.step h1 h2 h3 h4
     have hfr4 : Fr (fun k => hd.ownBlock = some k) _ w4 := (HFK.out.trans (Fr.of_below HB'.out (fun _ => False)) (fun _ _ h => h.elim)).grown h2 (fun k hk hlt => by
      rcases HVB.out k hk with h | h
      ·exact h
      ·have := HN1.out; omega)
     have hvb4 : ∀ k, v4.ownBlock = some k → hd.ownBlock = some k ∨ N1 ≤ k := fun k hk => by
      rcases h3 k hk with h | h
      ·exact HVB.out k h
      ·exact .inr (by have := HN1.out; have := HFK.out.size; have := HB'.out.size; omega)
     rw [HLM.out] at hgs4
     clear h1 h2 h3 h4
     have HGS4 := Lib.hid hgs4; clear hgs4
     have HFR4 := Lib.hid hfr4; clear hfr4
     have HVB4 := Lib.hid hvb4; clear hvb4
     go_wp2_with fail
     go_roundw
     case rel => exact ⟨t + 1, by omega, by go_num, HGS4.out, HVB4.out, HFR4.out⟩
     case measure => simp [intOf]; omega
    ·have ht2 : t = 12 := by omega
     subst ht2
     have hmk := fun W => HMK1.out W L.length 60 (by omega) (by omega) (by omega)
     rw [show ((60 : Nat) : Int) = 60 from rfl] at hmk
     obtain ⟨M, hMe⟩ : ∃ M, M = marks mkInts i L.length 60 := ⟨_, rfl⟩
     have hMl : M.length = 60 := by rw [hMe, marks_len]
     rw [← hMe] at hmk
     have hLM : L ++ M = marks mkInts i 0 (n0 + 72) := by rw [hMe, hL, marks_len, show n0 + 72 = (n0 + 12) + 60 from rfl, marks_add mkInts i (n0 + 12) 60]
     have hll : (L ++ M).length = n0 + 72 := by rw [List.length_append]; omega
     have HMK := Lib.hid hmk; clear hmk
     have HGS2 := Lib.hid hgs2; clear hgs2
     have HVB := Lib.hid hvb; clear hvb
     have HFK := Lib.hid hfk; clear hfk
     have HME := Lib.hid hMe; clear hMe
     have HL := Lib.hid hL; clear hL
     have HLM := Lib.hid hLM; clear hLM
     have HML := Lib.hid hMl; clear hMl
     have HLL := Lib.hid hll; clear hll
     have HQ := Lib.hid hq; clear hq
     go_wp2_with fail
     refine (HMK.out _).mono ?_
     rintro e W ⟨g1, c1, rfl, hcs, hb⟩
     have hgs3 := HGS2.out.below hb
     have HB' := Lib.hid hb; clear hb
     have HGS3 := Lib.hid hgs3; clear hgs3
     have HCS := Lib.hid hcs; clear hcs
     go_wp2_with (at_builtin; refine append_keep intE rfl (.tmp 34) (.tmp 38) rfl B L M _ rfl HGS3.out.cur g1 0 c1 rfl HCS.out ?c1 ?c2 ?_)
     case c1 => rw [HML.out]; omega
     case c2 => have := HN1.out; have := HFK.out.size; have := HB'.out.size; omega
     intro v4 w4 h1 h2 h3 h4
     have hgs4 := HGS3.out.step h1 h2 h3 h4
     have hfr4 : Fr (fun k => hd.ownBlock = some k) _ w4 := (HFK.out.trans (Fr.of_below HB'.out (fun _ => False)) (fun _ _ h => h.elim)).grown h2 (fun k hk hlt => by
      rcases HVB.out k hk with h | h
      ·exact h
      ·have := HN1.out; omega)
     have hvb4 : ∀ k, v4.ownBlock = some k → hd.ownBlock = some k ∨ N1 ≤ k := fun k hk => by
      rcases h3 k hk with h | h
      ·exact HVB.out k h
      ·exact .inr (by have := HN1.out; have := HFK.out.size; have := HB'.out.size; omega)
     obtain ⟨x4, y4, hv4⟩ : ∃ x4 y4, v4 = Value.slice x4 (L ++ M).length y4 := by
      obtain ⟨x, y, hx, _⟩ := own_elems hgs4.cur
      exact ⟨x, y, hx⟩
     subst hv4
     rw [HLL.out] at hgs4 hvb4 ⊢
     rw [HLM.out] at hgs4
     clear h1 h2 h3 h4
     have hdb : ∀ k, hd.ownBlock = some k → k < w.heap.size := fun k hk => HX.out k (HMEM.out k hk).1
     have hout4 := HOUT.out.fr (by omega) HG1.out.len hfr4 (fun k hk _ h => by have := hdb k h; omega) (fun j hj1 hj2 k hk h => by
      have := HG1.out.apart j i hj1 hj (by omega) k hk
      rw [← HHD.out] at this
      exact this h)
     have hout5 := hout4.fr (by omega) HG1.out.len ((Fr.refl (fun _ => False) _).alloc (.cells #[.slice x4 (n0 + 72) y4] 22)) (fun _ _ _ h => h) (fun _ _ _ _ _ h => h)
     have hf4 : Fam intE intsE w4 B X (.slice (some ⟨g, 0, none⟩) ls.length c) hs ls := by
      have h := HG1.out.upd i hj l0 (by rw [← HHD.out]; exact hfr4) (by rw [← HHD.out]; exact hgs4.old)
      rw [← HL0.out, List.set_getElem_self] at h
      exact h
     have hall : Fr X w w4 := HR1.out.trans hfr4 (fun k _ h => (HMEM.out k h).1)
     obtain ⟨hs2, o1, o2, o3⟩ := hout5
     have O1 := Lib.hid o1; clear o1
     have O2 := Lib.hid o2; clear o2
     have O3 := Lib.hid o3; clear o3
     have HGS4 := Lib.hid hgs4; clear hgs4
     have HF4 := Lib.hid hf4; clear hf4
     have HALL := Lib.hid hall; clear hall
     have HDB := Lib.hid hdb; clear hdb
     have HVB4 := Lib.hid hvb4; clear hvb4
     have HFR4 := Lib.hid hfr4; clear hfr4
     clear hout4
     go_wp2_with (at_builtin; refine append_fresh intsE rfl (.tmp 33) (.tmp 40) rfl w.heap.size hs2 [⟨x4, n0 + 72, y4⟩] _ rfl O1.out w4.heap.size 0 1 rfl (CellsAt.new _ _ _ _) ?d1 ?d2 ?_)
     case d1 => rw [O2.out]; show i + 1 ≤ 100000000; omega
     case d2 => have := HALL.out.size; simp; omega
     intro v6 w6 g1 g2 g3
     have hfr6 : Fr (fun k => w.heap.size ≤ k) w4 w6 := ((Fr.refl _ _).alloc _).grown g2 (fun k hk _ => (O1.out.lt hk).1)
     have hnew := OutOk.snoc (B := B) (E := intE) (mk := mkInts) (hs := hs) (ls := ls) hB O1.out O2.out O3.out hlt hj (x := ⟨x4, n0 + 72, y4⟩) (by rw [HL0.out, HN0.out]) (by rw [HL0.out, HN0.out]; exact Own.alloc HGS4.out.cur _) (fun k hk => ⟨by
      rcases HVB4.out k hk with h | h
      ·rw [← HHD.out]; exact .inl h
      ·exact .inr (by omega), fun e => by
      have h1 := O1.out.lt e
      have h2 := HVO.out k e
      rcases HVB4.out k hk with h | h
      ·have := HDB.out k h; omega
      ·omega⟩) g1 g2 g3
     have HNEW := Lib.hid hnew; clear hnew
     have HFR6 := Lib.hid hfr6; clear hfr6
     clear g1 g2 g3
     go_wp2_with fail
     go_roundw
     case rel => exact ⟨i + 1, by omega, by go_num, HNEW.out, HF4.out.fr HFR6.out (fun k hk h => by have := HX.out k hk; omega), HALL.out.trans HFR6.out (fun k hk h => by omega)⟩
     case measure => simp [intOf]; omega
  ·have hi2 : i = ls.length := by omega
   subst hi2
   have hP : ∀ v', OutOk intE intsE mkInts w wr B hs ls v' ls.length → ∃ vo, Ending.returned v' = .returned vo ∧ OutOk intE intsE mkInts w wr B hs ls vo ls.length ∧ Fam intE intsE wr B X (.slice a ls.length c) hs ls ∧ Fr X w wr := fun v' h => ⟨v', rfl, h, hf, hfr⟩
   have HP2 := Lib.hid (hP _ hout)
   clear hP hout hf hfr
   go_wp2_with fail
   go_ret
   exact HP2.out
set_option maxRecDepth 100000 in
set_option maxHeartbeats 3200000 in
theorem growInstrs_any (w : World) (p B : Nat) (X : Nat → Prop) (v : Value) (hs : List Hd) (ls : List (List Ins)) (q0 : w.cell? ⟨p, 2, none⟩ = some v) (hp : ¬ X p) (hX : ∀ k, X k → k < w.heap.size) (hB : B ≤ w.heap.size) (hF : Fam insE inssE w B X v hs ls)
  (hn : ls.length ≤ 1000) (hl : ∀ l ∈ ls, l.length ≤ 100000) (hM : ∀ i (h : i < ls.length), ls[i] = marks mkInstrs i 0 ls[i].length) :
  Calls Tryz.prog 41 #[.pointer (some ⟨p, 0, none⟩)] w fun e w' => ∃ vo, e = .returned vo ∧ OutOk insE inssE mkInstrs w w' B hs ls vo ls.length ∧ Fam insE inssE w' B X v hs ls ∧ Fr X w w' := by
 obtain ⟨a, c, rfl⟩ := hF.slice
 have HF := Lib.hid hF; clear hF
 have HL := Lib.hid hl; clear hl
 have HX := Lib.hid hX; clear hX
 have HP := Lib.hid hp; clear hp
 have HM := Lib.hid hM; clear hM
 go_enter Tryz.func41, Tryz.ntmps41
 go_wp2_with fail
 go_loopw [3, 4] (fun vo s4 wr => ∃ i : Nat, i ≤ ls.length ∧ s4 = .int .i64 i ∧ OutOk insE inssE mkInstrs w wr B hs ls vo i ∧ Fam insE inssE wr B X (.slice a ls.length c) hs ls ∧ Fr X w wr) (fun _ s4 _ => ls.length - (intOf s4).toNat)
 case atStart => exact ⟨0, Nat.zero_le _, rfl, ⟨[], Own.nil _ _ _, rfl, fun j hj _ _ => (by cases hj)⟩, HF.out, Fr.refl _ _⟩
 case round =>
  obtain ⟨i, hi, rfl, hout, hf, hfr⟩ := hrel
  have r0 := hfr.cell q0 HP.out
  by_cases hlt : i < ls.length
  ·obtain ⟨g, c2, he, hXg, hj, hc, ho⟩ := hf.head rfl (fun _ => rfl) i hlt
   injection he with e1 e2 e3
   subst e1 e3
   have hlk := HL.out _ (List.getElem_mem hlt)
   have hm := HM.out i hlt
   have hmem := hf.mem i hj
   have hgs : GS insE wr B hs[i].val ls[i] hs[i].val (marks mkInstrs i 0 (ls[i].length + 0)) := by
    rw [Nat.add_zero, ← hm]; exact GS.init ho
   obtain ⟨x, y, hxv⟩ : ∃ x y, hs[i].val = .slice x ls[i].length y := by
    obtain ⟨x, y, hx, _⟩ := own_elems ho
    exact ⟨x, y, hx⟩
   have mk : ∀ W f d, 1 ≤ d → d ≤ 60 → f ≤ 200000 → Calls Tryz.prog 70 #[.int .i64 i, .int .i64 (f : Nat), .int .i64 (d : Nat)] W fun e w' => ∃ g c, e = .returned (.slice (some ⟨g, 0, none⟩) (marks mkInstrs i f d).length c) ∧ CellsAt w' g 0 ((marks mkInstrs i f d).flatMap (insE).enc) ∧ Below W.heap.size W w' := fun W f d h1 h2 h3 =>
    (markInstrs_any i f d W (by omega) (by omega) (by omega)).mono (by
     rintro e w' ⟨v, rfl, ho, hb⟩
     obtain ⟨g, c, rfl, _, _, hcs⟩ := ho.cells (by rw [marks_len]; exact h1)
     exact ⟨g, c, rfl, hcs, hb⟩)
   have hub := fun (n : Nat) (h : n = ls[i].length) => hlk
   obtain ⟨hd, hhd⟩ : ∃ hd, hd = hs[i].val := ⟨_, rfl⟩
   rw [← hhd] at hc hgs hxv hmem
   rw [hxv] at hc
   have hsz0 := hfr.size
   obtain ⟨N1, hn1⟩ : ∃ N1, N1 = wr.heap.size := ⟨_, rfl⟩
   have hvo := fun k hk => (hout.choose_spec.1.lt (k := k) hk).2
   rw [← hn1] at hvo hsz0
   have hg1 := hf
   have hr1 := hfr
   generalize hl0 : ls[i] = l0 at *
   generalize hn0 : l0.length = n0 at *
   have hmk1 := mk
   clear hf hfr hm hub ho mk
   have HMK1 := Lib.hid hmk1; clear hmk1
   have HG1 := Lib.hid hg1; clear hg1
   have HR1 := Lib.hid hr1; clear hr1
   have HGS := Lib.hid hgs; clear hgs
   have HHD := Lib.hid hhd; clear hhd
   have HXV := Lib.hid hxv; clear hxv
   have HOUT := Lib.hid hout; clear hout
   have HMEM := Lib.hid hmem; clear hmem
   have HL0 := Lib.hid hl0; clear hl0
   have HN0 := Lib.hid hn0; clear hn0
   have HN1 := Lib.hid hn1; clear hn1
   have HVO := Lib.hid hvo; clear hvo
   go_wp2_with fail
   rw [← HXV.out]
   go_loopw [5, 6] (fun vl s6 wk => ∃ t : Nat, t ≤ 12 ∧ s6 = .int .i64 t ∧ GS insE wk B hd l0 vl (marks mkInstrs i 0 (n0 + t)) ∧ (∀ k, vl.ownBlock = some k → hd.ownBlock = some k ∨ N1 ≤ k) ∧ Fr (fun k => hd.ownBlock = some k) wr wk) (fun _ s6 _ => 12 - (intOf s6).toNat)
   case atStart => exact ⟨0, by omega, rfl, HGS.out, fun k hk => .inl hk, Fr.refl _ _⟩
   case round =>
    obtain ⟨t, ht, rfl, hgs2, hvb, hfk⟩ := hrel
    obtain ⟨L, hL⟩ : ∃ L, L = marks mkInstrs i 0 (n0 + t) := ⟨_, rfl⟩
    have hq : L.length = n0 + t := by rw [hL, marks_len]
    have hLb : L.length ≤ 200000 := by omega
    rw [← hL] at hgs2
    obtain ⟨x1, y1, hv1⟩ : ∃ x1 y1, _ = Value.slice x1 L.length y1 := by
     obtain ⟨x, y, hx, _⟩ := own_elems hgs2.cur
     exact ⟨x, y, hx⟩
    subst hv1
    by_cases hlt12 : t < 12
    ·have hmk := fun W => HMK1.out W L.length 1 (by omega) (by omega) (by omega)
     rw [show ((1 : Nat) : Int) = 1 from rfl] at hmk
     obtain ⟨M, hMe⟩ : ∃ M, M = marks mkInstrs i L.length 1 := ⟨_, rfl⟩
     have hMl : M.length = 1 := by rw [hMe, marks_len]
     rw [← hMe] at hmk
     have hLM : L ++ M = marks mkInstrs i 0 (n0 + (t + 1)) := by rw [hMe, hL, marks_len, ← Nat.add_assoc, marks_add mkInstrs i (n0 + t) 1]
     have HMK := Lib.hid hmk; clear hmk
     have HGS2 := Lib.hid hgs2; clear hgs2
     have HVB := Lib.hid hvb; clear hvb
     have HFK := Lib.hid hfk; clear hfk
     have HME := Lib.hid hMe; clear hMe
     have HL := Lib.hid hL; clear hL
     have HLM := Lib.hid hLM; clear hLM
     have HML := Lib.hid hMl; clear hMl
     have HQ := Lib.hid hq; clear hq
     go_wp2_with fail
     refine (HMK.out _).mono ?_
     rintro e W ⟨g1, c1, rfl, hcs, hb⟩
     have hgs3 := HGS2.out.below hb
     have HB' := Lib.hid hb; clear hb
     have HGS3 := Lib.hid hgs3; clear hgs3
     have HCS := Lib.hid hcs; clear hcs
     go_wp2_with (at_builtin; refine append_keep insE rfl (.tmp 27) (.tmp 31) rfl B L M _ rfl HGS3.out.cur g1 0 c1 rfl HCS.out ?c1 ?c2 ?_)
     case c1 => rw [HML.out]; omega
     case c2 => have := HN1.out; have := HFK.out.size; have := HB'.out.size; omega
     intro v4 w4 h1 h2 h3 h4
     have hgs4 := HGS3.out.step h1 h2 h3 h4
     have hfr4 : Fr (fun k => hd.ownBlock = some k) _ w4 := (HFK.out.trans (Fr.of_below HB'.out (fun _ => False)) (fun _ _ h => h.elim)).grown h2 (fun k hk hlt => by
      rcases HVB.out k hk with h | h
      ·exact h
      ·have := HN1.out; omega)
     have hvb4 : ∀ k, v4.ownBlock = some k → hd.ownBlock = some k ∨ N1 ≤ k := fun k hk => by
      rcases h3 k hk with h | h
      ·exact HVB.out k h
      ·exact .inr (by have := HN1.out; have := HFK.out.size; have := HB'.out.size; omega)
     rw [HLM.out] at hgs4
     clear h1 h2 h3 h4
     have HGS4 := Lib.hid hgs4; clear hgs4
     have HFR4 := Lib.hid hfr4; clear hfr4
     have HVB4 := Lib.hid hvb4; clear hvb4
     go_wp2_with fail
     go_roundw
     case rel => exact ⟨t + 1, by omega, by go_num, HGS4.out, HVB4.out, HFR4.out⟩
     case measure => simp [intOf]; omega
    ·have ht2 : t = 12 := by omega
     subst ht2
     have hmk := fun W => HMK1.out W L.length 60 (by omega) (by omega) (by omega)
     rw [show ((60 : Nat) : Int) = 60 from rfl] at hmk
     obtain ⟨M, hMe⟩ : ∃ M, M = marks mkInstrs i L.length 60 := ⟨_, rfl⟩
     have hMl : M.length = 60 := by rw [hMe, marks_len]
     rw [← hMe] at hmk
     have hLM : L ++ M = marks mkInstrs i 0 (n0 + 72) := by rw [hMe, hL, marks_len, show n0 + 72 = (n0 + 12) + 60 from rfl, marks_add mkInstrs i (n0 + 12) 60]
     have hll : (L ++ M).length = n0 + 72 := by rw [List.length_append]; omega
     have HMK := Lib.hid hmk; clear hmk
     have HGS2 := Lib.hid hgs2; clear hgs2
     have HVB := Lib.hid hvb; clear hvb
     have HFK := Lib.hid hfk; clear hfk
     have HME := Lib.hid hMe; clear hMe
     have HL := Lib.hid hL; clear hL
     have HLM := Lib.hid hLM; clear hLM
     have HML := Lib.hid hMl; clear hMl
     have HLL := Lib.hid hll; clear hll
     have HQ := Lib.hid hq; clear hq
     go_wp2_with fail
     refine (HMK.out _).mono ?_
     rintro e W ⟨g1, c1, rfl, hcs, hb⟩
     have hgs3 := HGS2.out.below hb
     have HB' := Lib.hid hb; clear hb
     have HGS3 := Lib.hid hgs3; clear hgs3
     have HCS := Lib.hid hcs; clear hcs
     go_wp2_with (at_builtin; refine append_keep insE rfl (.tmp 34) (.tmp 38) rfl B L M _ rfl HGS3.out.cur g1 0 c1 rfl HCS.out ?c1 ?c2 ?_)
     case c1 => rw [HML.out]; omega
     case c2 => have := HN1.out; have := HFK.out.size; have := HB'.out.size; omega
     intro v4 w4 h1 h2 h3 h4
     have hgs4 := HGS3.out.step h1 h2 h3 h4
     have hfr4 : Fr (fun k => hd.ownBlock = some k) _ w4 := (HFK.out.trans (Fr.of_below HB'.out (fun _ => False)) (fun _ _ h => h.elim)).grown h2 (fun k hk hlt => by
      rcases HVB.out k hk with h | h
      ·exact h
      ·have := HN1.out; omega)
     have hvb4 : ∀ k, v4.ownBlock = some k → hd.ownBlock = some k ∨ N1 ≤ k := fun k hk => by
      rcases h3 k hk with h | h
      ·exact HVB.out k h
      ·exact .inr (by have := HN1.out; have := HFK.out.size; have := HB'.out.size; omega)
     obtain ⟨x4, y4, hv4⟩ : ∃ x4 y4, v4 = Value.slice x4 (L ++ M).length y4 := by
      obtain ⟨x, y, hx, _⟩ := own_elems hgs4.cur
      exact ⟨x, y, hx⟩
     subst hv4
     rw [HLL.out] at hgs4 hvb4 ⊢
     rw [HLM.out] at hgs4
     clear h1 h2 h3 h4
     have hdb : ∀ k, hd.ownBlock = some k → k < w.heap.size := fun k hk => HX.out k (HMEM.out k hk).1
     have hout4 := HOUT.out.fr (by omega) HG1.out.len hfr4 (fun k hk _ h => by have := hdb k h; omega) (fun j hj1 hj2 k hk h => by
      have := HG1.out.apart j i hj1 hj (by omega) k hk
      rw [← HHD.out] at this
      exact this h)
     have hout5 := hout4.fr (by omega) HG1.out.len ((Fr.refl (fun _ => False) _).alloc (.cells #[.slice x4 (n0 + 72) y4] 56)) (fun _ _ _ h => h) (fun _ _ _ _ _ h => h)
     have hf4 : Fam insE inssE w4 B X (.slice (some ⟨g, 0, none⟩) ls.length c) hs ls := by
      have h := HG1.out.upd i hj l0 (by rw [← HHD.out]; exact hfr4) (by rw [← HHD.out]; exact hgs4.old)
      rw [← HL0.out, List.set_getElem_self] at h
      exact h
     have hall : Fr X w w4 := HR1.out.trans hfr4 (fun k _ h => (HMEM.out k h).1)
     obtain ⟨hs2, o1, o2, o3⟩ := hout5
     have O1 := Lib.hid o1; clear o1
     have O2 := Lib.hid o2; clear o2
     have O3 := Lib.hid o3; clear o3
     have HGS4 := Lib.hid hgs4; clear hgs4
     have HF4 := Lib.hid hf4; clear hf4
     have HALL := Lib.hid hall; clear hall
     have HDB := Lib.hid hdb; clear hdb
     have HVB4 := Lib.hid hvb4; clear hvb4
     have HFR4 := Lib.hid hfr4; clear hfr4
     clear hout4
     go_wp2_with (at_builtin; refine append_fresh inssE rfl (.tmp 33) (.tmp 40) rfl w.heap.size hs2 [⟨x4, n0 + 72, y4⟩] _ rfl O1.out w4.heap.size 0 1 rfl (CellsAt.new _ _ _ _) ?d1 ?d2 ?_)
     case d1 => rw [O2.out]; show i + 1 ≤ 100000000; omega
     case d2 => have := HALL.out.size; simp; omega
     intro v6 w6 g1 g2 g3
     have hfr6 : Fr (fun k => w.heap.size ≤ k) w4 w6 := ((Fr.refl _ _).alloc _).grown g2 (fun k hk _ => (O1.out.lt hk).1)
     have hnew := OutOk.snoc (B := B) (E := insE) (mk := mkInstrs) (hs := hs) (ls := ls) hB O1.out O2.out O3.out hlt hj (x := ⟨x4, n0 + 72, y4⟩) (by rw [HL0.out, HN0.out]) (by rw [HL0.out, HN0.out]; exact Own.alloc HGS4.out.cur _) (fun k hk => ⟨by
      rcases HVB4.out k hk with h | h
      ·rw [← HHD.out]; exact .inl h
      ·exact .inr (by omega), fun e => by
      have h1 := O1.out.lt e
      have h2 := HVO.out k e
      rcases HVB4.out k hk with h | h
      ·have := HDB.out k h; omega
      ·omega⟩) g1 g2 g3
     have HNEW := Lib.hid hnew; clear hnew
     have HFR6 := Lib.hid hfr6; clear hfr6
     clear g1 g2 g3
     go_wp2_with fail
     go_roundw
     case rel => exact ⟨i + 1, by omega, by go_num, HNEW.out, HF4.out.fr HFR6.out (fun k hk h => by have := HX.out k hk; omega), HALL.out.trans HFR6.out (fun k hk h => by omega)⟩
     case measure => simp [intOf]; omega
  ·have hi2 : i = ls.length := by omega
   subst hi2
   have hP : ∀ v', OutOk insE inssE mkInstrs w wr B hs ls v' ls.length → ∃ vo, Ending.returned v' = .returned vo ∧ OutOk insE inssE mkInstrs w wr B hs ls vo ls.length ∧ Fam insE inssE wr B X (.slice a ls.length c) hs ls ∧ Fr X w wr := fun v' h => ⟨v', rfl, h, hf, hfr⟩
   have HP2 := Lib.hid (hP _ hout)
   clear hP hout hf hfr
   go_wp2_with fail
   go_ret
   exact HP2.out
end Go.Proofs.YtjcjhfnjamphlaaGreat
