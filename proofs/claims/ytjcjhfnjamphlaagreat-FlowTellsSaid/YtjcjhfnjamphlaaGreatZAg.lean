import Derived.Test.YtjcjhfnjamphlaaGreatZAf
import Derived.BigRegion
import Derived.Test.YtjcjhfnjamphlaaGreatZAd
set_option linter.unusedVariables false
set_option linter.unusedSimpArgs false
namespace Go.Proofs.YtjcjhfnjamphlaaGreat
open Go.ChangeShapes Go.WideShapes Go.ChangeAt Go.RowKit
theorem Own.slot {P : Program} {α : Type} {E : Elem P α} {w : World} {B g n c : Nat} {l : List α} (h : Own E w B (.slice (some ⟨g, 0, none⟩) n c) l) (m : Nat) (hm : m < l.length * E.size) : (∃ u, w.cell? ⟨g, m, none⟩ = some u) ∧ w.frozen? ⟨g, m, none⟩ = false := by
 obtain ⟨h1, h2⟩ := h
 rcases h2 with ⟨hc, _⟩ | ⟨g', cap, cur, hv, hbg, hg, hnc, hcm, hcs, htake⟩
 ·cases hc
 ·injection hv with q1 q2 q3
  injection q1 with q1
  injection q1 with q1
  subst q1
  have h3 := row_cell hg m
  refine ⟨?_, h3.2⟩
  have hlt : m < cur.size := by
   rw [hcs]
   exact Nat.lt_of_lt_of_le hm (Nat.mul_le_mul_right _ hnc)
  exact ⟨cur[m], by rw [h3.1, Array.getElem?_eq_getElem hlt]⟩
set_option maxRecDepth 100000 in
set_option maxHeartbeats 3200000 in
theorem putInts_any (w : World) (p B : Nat) (X : Nat → Prop) (v : Value) (hs : List Hd) (ls : List (List Int)) (q0 : w.cell? ⟨p, 0, none⟩ = some v) (hp : ¬ X p) (hX : ∀ k, X k → k < w.heap.size) (hF : Fam intE intsE w B X v hs ls)
  (hn : ls.length ≤ 1000) (hl : ∀ l ∈ ls, l.length ≤ 100000) :
  Calls Tryz.prog 36 #[.pointer (some ⟨p, 0, none⟩)] w fun e w' => e = .returned (.tuple #[]) ∧ Fam intE intsE w' B X v hs (mkd mkInts ls.length ls) ∧ Fr X w w' := by
 obtain ⟨a, c, rfl⟩ := hF.slice
 have HF := Lib.hid hF; clear hF
 have HL := Lib.hid hl; clear hl
 have HX := Lib.hid hX; clear hX
 have HP := Lib.hid hp; clear hp
 go_enter Tryz.func36, Tryz.ntmps36
 go_wp2_with fail
 go_loopw [2] (fun s2 wr => ∃ i : Nat, i ≤ ls.length ∧ s2 = .int .i64 i ∧ Fam intE intsE wr B X (.slice a ls.length c) hs (mkd mkInts i ls) ∧ Fr X w wr) (fun s2 _ => ls.length - (intOf s2).toNat)
 case atStart => exact ⟨0, Nat.zero_le _, rfl, by rw [mkd_zero]; exact HF.out, Fr.refl _ _⟩
 case round =>
  obtain ⟨i, hi, rfl, hf, hfr⟩ := hrel
  have r0 := hfr.cell q0 HP.out
  by_cases hlt : i < ls.length
  ·obtain ⟨g, c2, he, hXg, hj, hc, ho⟩ := hf.head rfl (fun _ => rfl) i (by rw [mkd_len]; exact hlt)
   injection he with e1 e2 e3
   subst e1 e3
   rw [mkd_get mkInts i ls i _ hlt, if_neg (Nat.lt_irrefl i)] at ho
   have hlk := HL.out _ (List.getElem_mem hlt)
   have hms := mkd_succ mkInts i ls hlt
   have hsl := ho.slice
   obtain ⟨x, y, hxv⟩ : ∃ x y, hs[i].val = .slice x ls[i].length y := by
    obtain ⟨x, y, hx, _⟩ := own_elems ho
    exact ⟨x, y, hx⟩
   have mk : ∀ W, Calls Tryz.prog 69 #[.int .i64 i, .int .i64 0, .int .i64 ls[i].length] W fun e w' => ∃ x2 y2, e = .returned (.slice x2 ls[i].length y2) ∧ (∃ D2, IntSl w' D2 x2 (marks mkInts i 0 ls[i].length) ∧ ∀ k, D2 k → W.heap.size ≤ k) ∧ Below W.heap.size W w' := fun W =>
    (markInts_any i 0 ls[i].length W (by omega) (by omega) (by omega)).mono (by
     rintro e w' ⟨v, rfl, ho, hb⟩
     obtain ⟨x2, y2, rfl, hs⟩ := own_int ho
     exact ⟨x2, y2, by rw [marks_len], ⟨_, hs, fun k hk => (ho.lt hk).1⟩, hb⟩)
   have hpl := fun k => part_len mkInts i k ls[i]
   have hpz := part_zero mkInts i ls[i]
   have hpa := part_all mkInts i ls[i]
   have hpp := fun k => part_succ mkInts i k ls[i]
   obtain ⟨hd, hhd⟩ : ∃ hd, hd = hs[i] := ⟨_, rfl⟩
   rw [← hhd] at hc ho hxv
   rw [hxv] at hc
   generalize hli : ls[i] = l at *
   have hset0 : (mkd mkInts i ls).set i l = mkd mkInts i ls := by
    apply List.ext_getElem (by simp)
    intro j h1 h2
    rw [List.getElem_set]
    split
    ·subst j; rw [mkd_get mkInts i ls i _ hlt, if_neg (Nat.lt_irrefl i), hli]
    ·rfl
   generalize hn0 : l.length = n at *
   have hg1 := hf
   have hr1 := hfr
   clear hf hfr hsl
   have MK := Lib.hid mk; clear mk
   have HG1 := Lib.hid hg1; clear hg1
   have HR1 := Lib.hid hr1; clear hr1
   have HMS := Lib.hid hms; clear hms
   have HPL := Lib.hid hpl; clear hpl
   have HPZ := Lib.hid hpz; clear hpz
   have HPA := Lib.hid hpa; clear hpa
   have HPP := Lib.hid hpp; clear hpp
   have HO := Lib.hid ho; clear ho
   have HHD := Lib.hid hhd; clear hhd
   have HSET0 := Lib.hid hset0; clear hset0
   have HLI := Lib.hid hli; clear hli
   have HN0 := Lib.hid hn0; clear hn0
   have HXV := Lib.hid hxv; clear hxv
   go_wp2_with fail
   refine (MK.out _).mono ?_
   rintro e W ⟨x2, y2, rfl, ⟨D2, hs2, hd2⟩, hb⟩
   have u0 := below_cell hb r0
   have fw := HG1.out.fr (Fr.of_below hb (fun _ => False)) (fun _ _ h => h)
   have rw1 : Fr X w W := HR1.out.trans (Fr.of_below hb (fun _ => False)) (fun _ _ h => h.elim)
   have hd2 : ∀ k, D2 k → w.heap.size ≤ k := fun k hk => by have := hd2 k hk; have := HR1.out.size; omega
   clear hb hc r0
   have FW := Lib.hid fw; clear fw
   have RW1 := Lib.hid rw1; clear rw1
   have HS2 := Lib.hid hs2; clear hs2
   have HD2 := Lib.hid hd2; clear hd2
   go_wp2_with fail
   go_loopw [4] (fun s4 wk => ∃ k : Nat, k ≤ n ∧ s4 = .int .i64 k ∧ Fam intE intsE wk B X (.slice (some ⟨g, 0, none⟩) ls.length c) hs ((mkd mkInts i ls).set i (part mkInts i k l)) ∧ Fr X W wk) (fun s4 _ => n - (intOf s4).toNat)
   case atStart => exact ⟨0, Nat.zero_le _, rfl, by rw [HPZ.out, HSET0.out]; exact FW.out, Fr.refl _ _⟩
   case round =>
    obtain ⟨k, hk, rfl, hfk0, hfk⟩ := hrel
    have u1 := hfk.cell u0 HP.out
    by_cases hlk : k < n
    ·obtain ⟨g', c', he', _, hj', hc', hob⟩ := hfk0.head rfl (fun _ => rfl) i (by rw [List.length_set, mkd_len]; exact hlt)
     injection he' with e1 e2 e3
     injection e1 with e1
     injection e1 with e1
     subst e1 e3
     rw [List.getElem_set_self, ← HHD.out] at hob
     rw [← HHD.out] at hc'
     have hpl := HPL.out k hk
     have hpp := HPP.out k hlk
     obtain ⟨gi, ci, hvi, _, _, _⟩ := hob.cells (by rw [hpl]; omega)
     obtain ⟨pt, hpt⟩ : ∃ pt, pt = part mkInts i k l := ⟨_, rfl⟩
     rw [← hpt] at hob hpl hpp hvi
     rw [hvi] at hob hc'
     rw [hpl] at hc'
     have HFK := Lib.hid hfk
     obtain ⟨b2, o2, rfl, hd2, s0⟩ := HS2.out k (by rw [marks_len]; exact hlk)
     have s0 := HFK.out.cell s0 (fun h => by have : b2 < w.heap.size := HX.out _ h; have := HD2.out _ hd2; omega)
     rw [marks_get, Nat.zero_add] at s0
     obtain ⟨⟨d0, t0⟩, z0⟩ := hob.slot k (by rw [hpl]; show k < n * 1; omega)
     have hset := set_int hob k (by rw [hpl]; exact hlk) (mkInts i k)
     generalize mkInts i k = mv at *
     have HF0 := Lib.hid hfk0
     have HOB := Lib.hid hob
     have HVI := Lib.hid hvi
     have key : ∀ wz, Fr (fun q => q = gi) wr wz → Own intE wz B (.slice (some ⟨gi, 0, none⟩) pt.length ci) (part mkInts i (k + 1) l) → Fam intE intsE wz B X (.slice (some ⟨g, 0, none⟩) ls.length c) hs ((mkd mkInts i ls).set i (part mkInts i (k + 1) l)) := fun wz hfz hoz => by
      have h1 := hfk0.upd i hj' (part mkInts i (k + 1) l) (w' := wz) (by rw [← HHD.out, hvi]; exact hfz.mono (fun q h => by rw [h]; rfl)) (by rw [← HHD.out, hvi]; exact hoz)
      rw [List.set_set] at h1
      exact h1
     have KEY := Lib.hid key
     clear hfk hfk0 hob hvi hpt key
     have HSET := Lib.hid hset; clear hset
     have HPL := Lib.hid hpl; clear hpl
     have HPP := Lib.hid hpp; clear hpp
     go_wp2_with fail
     go_region
     go_wp2_with fail
     go_roundw
     case rel =>
      have hXg : X gi := (HF0.out.mem i hj' gi (by rw [← HHD.out, HVI.out]; rfl)).1
      refine ⟨k + 1, by omega, by go_num, ?_, ?_⟩
      ·refine KEY.out _ ((Fr.refl (fun q => q=gi) _).setCell (p := ⟨gi,k,none⟩) (fun _ => rfl) _).drew ?_
       rw [← HPP.out]; exact HSET.out
      ·exact HFK.out.trans (G := fun q => q = gi) ((Fr.refl (fun q => q=gi) _).setCell (p := ⟨gi,k,none⟩) (fun _ => rfl) _).drew (fun q _ h => by rw [h]; exact hXg)
     case measure => simp [intOf]; omega
    ·have hk' : k = n := by omega
     subst hk'
     rw [HPA.out, HMS.out] at hfk0
     have HFK0 := Lib.hid hfk0; clear hfk0
     have HFK := Lib.hid hfk; clear hfk
     go_wp2_with fail
     go_roundw
     case rel => exact ⟨i + 1, by omega, by go_num, HFK0.out, RW1.out.trans HFK.out (fun _ _ h => h)⟩
     case measure => simp [intOf]; omega
  ·have hk' : i = ls.length := by omega
   subst hk'
   have HG := Lib.hid hf
   have HR := Lib.hid hfr
   clear hf hfr
   go_wp2_with fail
   go_end0
   exact ⟨rfl, HG.out, HR.out⟩
set_option maxRecDepth 100000 in
set_option maxHeartbeats 3200000 in
theorem putInstrs_any (w : World) (p B : Nat) (X : Nat → Prop) (v : Value) (hs : List Hd) (ls : List (List Ins)) (q0 : w.cell? ⟨p, 2, none⟩ = some v) (hp : ¬ X p) (hX : ∀ k, X k → k < w.heap.size) (hF : Fam insE inssE w B X v hs ls)
  (hn : ls.length ≤ 1000) (hl : ∀ l ∈ ls, l.length ≤ 100000) :
  Calls Tryz.prog 37 #[.pointer (some ⟨p, 0, none⟩)] w fun e w' => e = .returned (.tuple #[]) ∧ Fam insE inssE w' B X v hs (mkd mkInstrs ls.length ls) ∧ Fr X w w' := by
 obtain ⟨a, c, rfl⟩ := hF.slice
 have HF := Lib.hid hF; clear hF
 have HL := Lib.hid hl; clear hl
 have HX := Lib.hid hX; clear hX
 have HP := Lib.hid hp; clear hp
 go_enter Tryz.func37, Tryz.ntmps37
 go_wp2_with fail
 go_loopw [2] (fun s2 wr => ∃ i : Nat, i ≤ ls.length ∧ s2 = .int .i64 i ∧ Fam insE inssE wr B X (.slice a ls.length c) hs (mkd mkInstrs i ls) ∧ Fr X w wr) (fun s2 _ => ls.length - (intOf s2).toNat)
 case atStart => exact ⟨0, Nat.zero_le _, rfl, by rw [mkd_zero]; exact HF.out, Fr.refl _ _⟩
 case round =>
  obtain ⟨i, hi, rfl, hf, hfr⟩ := hrel
  have r0 := hfr.cell q0 HP.out
  by_cases hlt : i < ls.length
  ·obtain ⟨g, c2, he, hXg, hj, hc, ho⟩ := hf.head rfl (fun _ => rfl) i (by rw [mkd_len]; exact hlt)
   injection he with e1 e2 e3
   subst e1 e3
   rw [mkd_get mkInstrs i ls i _ hlt, if_neg (Nat.lt_irrefl i)] at ho
   have hlk := HL.out _ (List.getElem_mem hlt)
   have hms := mkd_succ mkInstrs i ls hlt
   have hsl := ho.slice
   obtain ⟨x, y, hxv⟩ : ∃ x y, hs[i].val = .slice x ls[i].length y := by
    obtain ⟨x, y, hx, _⟩ := own_elems ho
    exact ⟨x, y, hx⟩
   have mk : ∀ W, Calls Tryz.prog 70 #[.int .i64 i, .int .i64 0, .int .i64 ls[i].length] W fun e w' => ∃ x2 y2, e = .returned (.slice x2 ls[i].length y2) ∧ (∃ D2, InsSlD w' D2 x2 (marks mkInstrs i 0 ls[i].length) ∧ ∀ k, D2 k → W.heap.size ≤ k) ∧ Below W.heap.size W w' := fun W =>
    (markInstrs_any i 0 ls[i].length W (by omega) (by omega) (by omega)).mono (by
     rintro e w' ⟨v, rfl, ho, hb⟩
     obtain ⟨x2, y2, rfl, hs⟩ := own_insD ho
     exact ⟨x2, y2, by rw [marks_len], ⟨_, hs, fun k hk => (ho.lt hk).1⟩, hb⟩)
   have hpl := fun k => part_len mkInstrs i k ls[i]
   have hpz := part_zero mkInstrs i ls[i]
   have hpa := part_all mkInstrs i ls[i]
   have hpp := fun k => part_succ mkInstrs i k ls[i]
   obtain ⟨hd, hhd⟩ : ∃ hd, hd = hs[i] := ⟨_, rfl⟩
   rw [← hhd] at hc ho hxv
   rw [hxv] at hc
   generalize hli : ls[i] = l at *
   have hset0 : (mkd mkInstrs i ls).set i l = mkd mkInstrs i ls := by
    apply List.ext_getElem (by simp)
    intro j h1 h2
    rw [List.getElem_set]
    split
    ·subst j; rw [mkd_get mkInstrs i ls i _ hlt, if_neg (Nat.lt_irrefl i), hli]
    ·rfl
   generalize hn0 : l.length = n at *
   have hg1 := hf
   have hr1 := hfr
   clear hf hfr hsl
   have MK := Lib.hid mk; clear mk
   have HG1 := Lib.hid hg1; clear hg1
   have HR1 := Lib.hid hr1; clear hr1
   have HMS := Lib.hid hms; clear hms
   have HPL := Lib.hid hpl; clear hpl
   have HPZ := Lib.hid hpz; clear hpz
   have HPA := Lib.hid hpa; clear hpa
   have HPP := Lib.hid hpp; clear hpp
   have HO := Lib.hid ho; clear ho
   have HHD := Lib.hid hhd; clear hhd
   have HSET0 := Lib.hid hset0; clear hset0
   have HLI := Lib.hid hli; clear hli
   have HN0 := Lib.hid hn0; clear hn0
   have HXV := Lib.hid hxv; clear hxv
   go_wp2_with fail
   refine (MK.out _).mono ?_
   rintro e W ⟨x2, y2, rfl, ⟨D2, hs2, hd2⟩, hb⟩
   have u0 := below_cell hb r0
   have fw := HG1.out.fr (Fr.of_below hb (fun _ => False)) (fun _ _ h => h)
   have rw1 : Fr X w W := HR1.out.trans (Fr.of_below hb (fun _ => False)) (fun _ _ h => h.elim)
   have hd2 : ∀ k, D2 k → w.heap.size ≤ k := fun k hk => by have := hd2 k hk; have := HR1.out.size; omega
   clear hb hc r0
   have FW := Lib.hid fw; clear fw
   have RW1 := Lib.hid rw1; clear rw1
   have HS2 := Lib.hid hs2; clear hs2
   have HD2 := Lib.hid hd2; clear hd2
   go_wp2_with fail
   go_loopw [4] (fun s4 wk => ∃ k : Nat, k ≤ n ∧ s4 = .int .i64 k ∧ Fam insE inssE wk B X (.slice (some ⟨g, 0, none⟩) ls.length c) hs ((mkd mkInstrs i ls).set i (part mkInstrs i k l)) ∧ Fr X W wk) (fun s4 _ => n - (intOf s4).toNat)
   case atStart => exact ⟨0, Nat.zero_le _, rfl, by rw [HPZ.out, HSET0.out]; exact FW.out, Fr.refl _ _⟩
   case round =>
    obtain ⟨k, hk, rfl, hfk0, hfk⟩ := hrel
    have u1 := hfk.cell u0 HP.out
    by_cases hlk : k < n
    ·obtain ⟨g', c', he', _, hj', hc', hob⟩ := hfk0.head rfl (fun _ => rfl) i (by rw [List.length_set, mkd_len]; exact hlt)
     injection he' with e1 e2 e3
     injection e1 with e1
     injection e1 with e1
     subst e1 e3
     rw [List.getElem_set_self, ← HHD.out] at hob
     rw [← HHD.out] at hc'
     have hpl := HPL.out k hk
     have hpp := HPP.out k hlk
     obtain ⟨gi, ci, hvi, _, _, _⟩ := hob.cells (by rw [hpl]; omega)
     obtain ⟨pt, hpt⟩ : ∃ pt, pt = part mkInstrs i k l := ⟨_, rfl⟩
     rw [← hpt] at hob hpl hpp hvi
     rw [hvi] at hob hc'
     rw [hpl] at hc'
     have HFK := Lib.hid hfk
     obtain ⟨b2, o2, rfl, hd2, s0, s1, s2, s3⟩ := HS2.out k (by rw [marks_len]; exact hlk)
     have hd3 : ¬ X b2 := fun h => by have : b2 < w.heap.size := HX.out _ h; have := HD2.out _ hd2; omega
     have s0 := HFK.out.cell s0 hd3
     have s1 := HFK.out.cell s1 hd3
     have s2 := HFK.out.cell s2 hd3
     have s3 := HFK.out.cell s3 hd3
     rw [marks_get, Nat.zero_add] at s0 s1 s2 s3
     have h4 : k * 4 + 3 < n * 4 := by omega
     obtain ⟨⟨d0, t0⟩, z0⟩ := hob.slot (k * 4) (by rw [hpl]; show k * 4 < n * 4; omega)
     obtain ⟨⟨d1, t1⟩, z1⟩ := hob.slot (k * 4 + 1) (by rw [hpl]; show k * 4 + 1 < n * 4; omega)
     obtain ⟨⟨d2, t2⟩, z2⟩ := hob.slot (k * 4 + 2) (by rw [hpl]; show k * 4 + 2 < n * 4; omega)
     obtain ⟨⟨d3, t3⟩, z3⟩ := hob.slot (k * 4 + 3) (by rw [hpl]; exact h4)
     have hset := set_ins hob k (by rw [hpl]; exact hlk) (mkInstrs i k)
     generalize mkInstrs i k = mv at *
     obtain ⟨m0, m1, m2, m3⟩ := mv
     dsimp only at s0 s1 s2 s3 hset
     clear h4 hd3
     have HF0 := Lib.hid hfk0
     have HOB := Lib.hid hob
     have HVI := Lib.hid hvi
     have key : ∀ wz, Fr (fun q => q = gi) wr wz → Own insE wz B (.slice (some ⟨gi, 0, none⟩) pt.length ci) (part mkInstrs i (k + 1) l) → Fam insE inssE wz B X (.slice (some ⟨g, 0, none⟩) ls.length c) hs ((mkd mkInstrs i ls).set i (part mkInstrs i (k + 1) l)) := fun wz hfz hoz => by
      have h1 := hfk0.upd i hj' (part mkInstrs i (k + 1) l) (w' := wz) (by rw [← HHD.out, hvi]; exact hfz.mono (fun q h => by rw [h]; rfl)) (by rw [← HHD.out, hvi]; exact hoz)
      rw [List.set_set] at h1
      exact h1
     have KEY := Lib.hid key
     clear hfk hfk0 hob hvi hpt key
     have HSET := Lib.hid hset; clear hset
     have HPL := Lib.hid hpl; clear hpl
     have HPP := Lib.hid hpp; clear hpp
     go_wp2_with fail
     go_region
     go_wp2_with fail
     go_roundw
     case rel =>
      have hXg : X gi := (HF0.out.mem i hj' gi (by rw [← HHD.out, HVI.out]; rfl)).1
      refine ⟨k + 1, by omega, by go_num, ?_, ?_⟩
      ·refine KEY.out _ (((((Fr.refl (fun q => q=gi) _).setCell (p := ⟨gi,k*4,none⟩) (fun _ => rfl) _).setCell (p := ⟨gi,k*4+1,none⟩) (fun _ => rfl) _).setCell (p := ⟨gi,k*4+2,none⟩) (fun _ => rfl) _).setCell (p := ⟨gi,k*4+3,none⟩) (fun _ => rfl) _).drew ?_
       rw [← HPP.out]; exact HSET.out
      ·exact HFK.out.trans (G := fun q => q = gi) (((((Fr.refl (fun q => q=gi) _).setCell (p := ⟨gi,k*4,none⟩) (fun _ => rfl) _).setCell (p := ⟨gi,k*4+1,none⟩) (fun _ => rfl) _).setCell (p := ⟨gi,k*4+2,none⟩) (fun _ => rfl) _).setCell (p := ⟨gi,k*4+3,none⟩) (fun _ => rfl) _).drew (fun q _ h => by rw [h]; exact hXg)
     case measure => simp [intOf]; omega
    ·have hk' : k = n := by omega
     subst hk'
     rw [HPA.out, HMS.out] at hfk0
     have HFK0 := Lib.hid hfk0; clear hfk0
     have HFK := Lib.hid hfk; clear hfk
     go_wp2_with fail
     go_roundw
     case rel => exact ⟨i + 1, by omega, by go_num, HFK0.out, RW1.out.trans HFK.out (fun _ _ h => h)⟩
     case measure => simp [intOf]; omega
  ·have hk' : i = ls.length := by omega
   subst hk'
   have HG := Lib.hid hf
   have HR := Lib.hid hfr
   clear hf hfr
   go_wp2_with fail
   go_end0
   exact ⟨rfl, HG.out, HR.out⟩
end Go.Proofs.YtjcjhfnjamphlaaGreat
namespace Go.Proofs.YtjcjhfnjamphlaaGreat
open Go.RowKit
variable {P : Program} {α : Type}
structure GS (E : Elem P α) (w : World) (B : Nat) (h0 : Value) (l0 : List α) (vl : Value) (l : List α) : Prop where
 old : Own E w B h0 l0
 cur : Own E w B vl l
 rel : (∃ g c r, h0 = .slice (some ⟨g, 0, none⟩) l0.length c ∧ vl = .slice (some ⟨g, 0, none⟩) l.length c ∧ l = l0 ++ r) ∨ ∀ k, h0.ownBlock = some k → vl.ownBlock ≠ some k
variable {E : Elem P α} {w w' : World} {B : Nat} {h0 vl v' : Value} {l0 l m : List α}
theorem GS.init (h : Own E w B h0 l0) : GS E w B h0 l0 h0 l0 := by
 refine ⟨h, h, ?_⟩
 rcases h.2 with ⟨rfl, h1⟩ | ⟨g, cap, cur, rfl, _⟩
 ·exact .inr fun k hk => by simp [Value.ownBlock] at hk
 ·exact .inl ⟨g, cap, [], rfl, rfl, by simp⟩
theorem GS.fr {F : Nat → Prop} (h : GS E w B h0 l0 vl l) (hf : Fr F w w') (h1 : ∀ k, h0.ownBlock = some k → ¬ F k) (h2 : ∀ k, vl.ownBlock = some k → ¬ F k) : GS E w' B h0 l0 vl l :=
 ⟨h.old.fr hf h1, h.cur.fr hf h2, h.rel⟩
theorem GS.below (h : GS E w B h0 l0 vl l) (hb : Below w.heap.size w w') : GS E w' B h0 l0 vl l := h.fr (Fr.of_below hb (fun _ => False)) (fun _ _ h => h) (fun _ _ h => h)
theorem own_prefix {g n c : Nat} {r : List α} (h : Own E w B (.slice (some ⟨g, 0, none⟩) n c) (l0 ++ r)) (hc : l0.length ≤ c) : Own E w B (.slice (some ⟨g, 0, none⟩) l0.length c) l0 := by
 obtain ⟨h1, h2⟩ := h
 refine ⟨E.len l0, ?_⟩
 rcases h2 with ⟨hc, _⟩ | ⟨g', cap, cur, hv, hbg, hg, hnc, hcm, hcs, htake⟩
 ·cases hc
 ·injection hv with q1 q2 q3
  injection q1 with q1
  injection q1 with q1
  subst q1 q3
  refine .inr ⟨g, c, cur, rfl, hbg, hg, hc, hcm, hcs, ?_⟩
  have h3 : (cur.toList.take ((l0 ++ r).length * E.size)).take (l0.length * E.size) = l0.flatMap E.enc := by
   rw [htake, List.flatMap_append, List.take_append_of_le_length (by rw [E.len l0]; exact Nat.le_refl _), List.take_of_length_le (by rw [E.len l0]; exact Nat.le_refl _)]
  rw [List.take_take] at h3
  rw [← h3]
  congr 1
  rw [Nat.min_eq_left]
  exact Nat.mul_le_mul_right _ (by simp)
theorem own_cap {g n c : Nat} (h : Own E w B (.slice (some ⟨g, 0, none⟩) n c) l) : ∃ cur : Array Value, w.heap[g]? = some (.cells cur E.e (0, 0)) ∧ cur.size = c * E.size ∧ n = l.length ∧ l.length ≤ c := by
 obtain ⟨h1, h2⟩ := h
 rcases h2 with ⟨hc, _⟩ | ⟨g', cap, cur, hv, hbg, hg, hnc, hcm, hcs, htake⟩
 ·cases hc
 ·injection hv with q1 q2 q3
  injection q1 with q1
  injection q1 with q1
  subst q1 q3
  exact ⟨cur, hg, hcs, q2, hnc⟩
theorem GS.step (h : GS E w B h0 l0 vl l) (ho : Own E w' B v' (l ++ m)) (hg : w.grownBy w' vl.ownBlock) (hf : Fresh w vl v') (hk : Own E w' B vl l) : GS E w' B h0 l0 v' (l ++ m) := by
 have hlt0 := fun k hk => h.old.lt (k := k) hk
 obtain ⟨h1, h2, h3⟩ := h
 rcases h3 with ⟨g, c, r, rfl, rfl, rfl⟩ | h3
 ·obtain ⟨cur, hc1, hc2, _, hc3⟩ := own_cap hk
  refine ⟨own_prefix hk (by simp at hc3; omega), ho, ?_⟩
  rcases ho.2 with ⟨rfl, h4⟩ | ⟨g', cap', cur', rfl, _, hg', _, _, hcs', _⟩
  ·exact .inr fun k hk h => by simp [Value.ownBlock] at h
  ·rcases hf g' rfl with h5 | h5
   ·have h5 : g = g' := by simpa [Value.ownBlock] using h5
    subst h5
    rw [hc1] at hg'
    injection hg' with hg'
    injection hg' with hg' _ _
    subst hg'
    have : c = cap' := by
     have h6 : c * E.size = cap' * E.size := by rw [← hc2, hcs']
     exact Nat.eq_of_mul_eq_mul_right E.hsz h6
    subst this
    exact .inl ⟨g, c, r ++ m, rfl, rfl, by rw [List.append_assoc]⟩
   ·exact .inr fun k hk h => by
     have h6 : g = k := by simpa [Value.ownBlock] using hk
     have h7 : g' = k := by simpa [Value.ownBlock] using h
     have := (hlt0 g rfl).2
     omega
 ·have hf1 : Fr (fun k => vl.ownBlock = some k) w w' := (Fr.refl _ _).grown hg (fun k hk _ => hk)
  refine ⟨h1.fr hf1 h3, ho, .inr fun k hk h => ?_⟩
  rcases hf k h with h5 | h5
  ·exact h3 k hk h5
  ·have := (hlt0 k hk).2; omega
end Go.Proofs.YtjcjhfnjamphlaaGreat
