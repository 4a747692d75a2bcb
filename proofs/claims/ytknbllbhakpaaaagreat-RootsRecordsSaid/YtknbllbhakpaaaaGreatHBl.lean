/- Walk: roots.Globals. -/
import Derived.Test.YtknbllbhakpaaaaGreatHAh
import Derived.Test.YtknbllbhakpaaaaGreatHAc
set_option linter.unusedVariables false
set_option linter.unusedSimpArgs false
namespace Go.Proofs.YtknbllbhakpaaaaGreat
open Go.ChangeShapes Go.WideShapes Go.ChangeAt Go.RowKit Go.Maps
/-- x is a word of one of the first n globals that point -/
def GloS (gs l : List Int) (n : Nat) (x : Int) : Prop := x ≠ 0 ∧ ∃ k g, k < n ∧ gs[k]? = some g ∧ ptrB g = true ∧ l[k]? = some x
theorem GloS.step {gs l : List Int} {n : Nat} {g : Int} (hg : gs[n]? = some g) (x : Int) : GloS gs l (n + 1) x ↔ GloS gs l n x ∨ (x ≠ 0 ∧ ptrB g = true ∧ l[n]? = some x) := by
  unfold GloS
  constructor
  · rintro ⟨h0, k, g', hk, h1, h2, h3⟩
    rcases Nat.lt_or_ge k n with hkn | hkn
    · exact .inl ⟨h0, k, g', hkn, h1, h2, h3⟩
    · obtain rfl : k = n := by omega
      rw [hg] at h1
      injection h1 with h1
      subst h1
      exact .inr ⟨h0, h2, h3⟩
  · rintro (⟨h0, k, g', hk, h1, h2, h3⟩ | ⟨h0, h2, h3⟩)
    · exact ⟨h0, k, g', by omega, h1, h2, h3⟩
    · exact ⟨h0, n, g, by omega, hg, h2, h3⟩
theorem one_int (w : World) (x : Int) : IntSl (w.alloc (.cells #[.int .i64 x] 3)) (fun q => q = w.heap.size) (some ⟨w.heap.size, 0, none⟩) [x] := fun j hj => by
  obtain rfl : j = 0 := by simp at hj; omega
  exact ⟨_, 0, rfl, rfl, (row_cell (heap_new w (.cells #[.int .i64 x] 3)) 0).1⟩
set_option maxRecDepth 100000 in
set_option maxHeartbeats 1600000 in
theorem globals_any (w : World) (D : Nat → Prop) (p : Prg) (c0 c1 c2 : Value) (hv : PrgVal w D p c0 c1 c2) (hgB : ∀ g ∈ p.globals, i64B g) (hgl : p.globals.length ≤ 1000000) (D' : Nat → Prop) (a : Option Addr) (l : List Int) (c : Nat) (hl : IntSl w D' a l) (hlB : ∀ x ∈ l, i64B x) :
    Calls Tryz.prog 19 #[.agg #[c0, c1, c2], .slice a l.length c] w fun e w' => ∃ v L, e = .returned v ∧ Own intE w' w.heap.size v L ∧ Rising L ∧ (∀ x, x ∈ L ↔ (i64B x ∧ GloS p.globals l p.globals.length x)) ∧ Below w.heap.size w w' := by
  obtain ⟨⟨ga, gc, rfl, hg⟩, ⟨a1, m1, rfl, _⟩, a2, m2, rfl, _⟩ := hv
  generalize p.shapes.length = n1
  generalize p.funcs.length = n2
  generalize p.globals = gs at *
  have hb0 := (Below.refl w.heap.size w).alloc (Nat.le_refl _) (.cells #[.slice ga gs.length gc, .slice a1 n1 m1, .slice a2 n2 m2] 34)
  have hb1 := hb0.alloc hb0.size (.map #[] 0)
  have hmk := Seen.made (w.alloc (.cells #[.slice ga gs.length gc, .slice a1 n1 m1, .slice a2 n2 m2] 34)) 0
  have hz : (w.alloc (.cells #[.slice ga gs.length gc, .slice a1 n1 m1, .slice a2 n2 m2] 34)).heap.size = w.heap.size + 1 := by simp
  have hr0 := (Fr.of_below ((Below.refl _ (w.alloc (.cells #[.slice ga gs.length gc, .slice a1 n1 m1, .slice a2 n2 m2] 34))).alloc (Nat.le_refl _) (.map #[] 0)) (fun _ => False)).heap (heap_new w (.cells #[.slice ga gs.length gc, .slice a1 n1 m1, .slice a2 n2 m2] 34)) (fun h => h)
  rw [hz] at hmk
  have hmake : ∀ w, (Instr.makeMap 100 none).run Tryz.prog w = .ok (.map (some w.heap.size)) (w.alloc (.map #[] 0)) := fun w => run_makeMap _ w
  obtain ⟨W, hW⟩ : ∃ W, W = (w.alloc (.cells #[.slice ga gs.length gc, .slice a1 n1 m1, .slice a2 n2 m2] 34)).alloc (.map #[] 0) := ⟨_, rfl⟩
  rw [← hW] at hb1 hmk hr0
  have k0 : W.cell? ⟨w.heap.size, 0, none⟩ = some (.slice ga gs.length gc) := (row_cell hr0 0).1
  have hg1 := hg.fr (Fr.of_below hb1 (fun _ => False)) (fun _ _ h => h)
  have hl1 := hl.fr (Fr.of_below hb1 (fun _ => False)) (fun _ _ h => h)
  have hbW := hmk.lt
  have HW := Lib.hid hW
  have HM := Lib.hid hmake
  have HG := Lib.hid hg1
  have HL := Lib.hid hl1
  have HGB := Lib.hid hgB
  have HLB := Lib.hid hlB
  have HPT := Lib.hid points_any
  have HGL := Lib.hid hgl
  clear hW hmake hb0 hz hr0 hg hl hg1 hl1 hgB hlB hgl
  have HB1 := Lib.hid hb1; clear hb1
  have HMK := Lib.hid hmk; clear hmk
  go_enter Tryz.func19, Tryz.ntmps19
  have hmake := HM.out
  go_upto_region 2 with fail
  clear hmake
  rw [← HW.out]
  go_wp2_with fail
  go_loopw [12] (fun i wr => ∃ k : Nat, k ≤ gs.length ∧ i = .int .i64 k ∧ Seen wr (w.heap.size + 1) k (GloS gs l k) ∧ Fr (fun q => q = w.heap.size + 1) W wr) (fun i _ => gs.length - (intOf i).toNat)
  case atStart => exact ⟨0, Nat.zero_le _, rfl, HMK.out.congr (fun x _ => ⟨fun h => h.elim, fun h => by obtain ⟨_, k, g, hk, _⟩ := h; omega⟩) (Nat.le_refl _), Fr.refl _ _⟩
  case round =>
    obtain ⟨k, hk, rfl, hS, hfr⟩ := hrel
    have hgl := HGL.out
    clear k0
    by_cases hlt : k < gs.length
    · obtain ⟨g, hge⟩ : ∃ g, g = gs[k] := ⟨_, rfl⟩
      have hgk : gs[k]? = some g := by rw [hge, List.getElem?_eq_getElem hlt]
      obtain ⟨gb, go, rfl, _, hgc⟩ := HG.out k hlt
      rw [← hge] at hgc
      have hgb : gb ≠ w.heap.size + 1 := fun e => by
        obtain ⟨n, f, _, hmp, _⟩ := HMK.out
        obtain ⟨Dt, ⟨es, clock, hb, _⟩, _⟩ := hmp
        rw [e] at hgc
        simp [World.cell?, hb] at hgc
      have hgc := hfr.cell hgc hgb
      have pt := HPT.out wr g (by rw [hge]; exact HGB.out _ (List.getElem_mem hlt))
      have hst := GloS.step (l := l) hgk
      have HST := Lib.hid hst
      have HGE := Lib.hid hge
      clear hst hge hgk hgb
      have hkl : (k : Int) < (gs.length : Int) := by omega
      cases hp : ptrB g with
      | false =>
        rw [hp] at pt
        have hs1 : Seen wr (w.heap.size + 1) (k + 1) (GloS gs l (k + 1)) := hS.congr (fun x _ => by rw [HST.out x, hp]; simp) (by omega)
        have hfr1 := hfr
        clear hS hfr hp
        have HS1 := Lib.hid hs1; clear hs1
        have HFR1 := Lib.hid hfr1; clear hfr1
        have PT := Lib.hid pt; clear pt
        go_wp2_with fail
        refine PT.out.mono ?_
        rintro e w' ⟨rfl, rfl⟩
        go_wp2_with fail
        go_roundw
        case rel => exact ⟨k + 1, hlt, by go_num, HS1.out, HFR1.out⟩
        case measure => simp [intOf]; omega
      | true =>
        rw [hp] at pt
        by_cases hkl2 : k < l.length
        · obtain ⟨x, hxe⟩ : ∃ x, x = l[k] := ⟨_, rfl⟩
          have hxk : l[k]? = some x := by rw [hxe, List.getElem?_eq_getElem hkl2]
          obtain ⟨lb, lo, rfl, _, hlc⟩ := HL.out k hkl2
          rw [← hxe] at hlc
          have hlb : lb ≠ w.heap.size + 1 := fun e => by
            obtain ⟨n, f, _, hmp, _⟩ := HMK.out
            obtain ⟨Dt, ⟨es, clock, hb, _⟩, _⟩ := hmp
            rw [e] at hlc
            simp [World.cell?, hb] at hlc
          have hlc := hfr.cell hlc hlb
          have hkl3 : (k : Int) < (l.length : Int) := by omega
          have hba := (Below.refl wr.heap.size wr).alloc (Nat.le_refl _) (.cells #[.int .i64 x] 3)
          have hbl := hS.lt
          have pu := put_any _ (w.heap.size + 1) k _ (hS.below hba) (fun q => q = wr.heap.size) (fun q hq => by omega) _ [x] 1 (one_int wr x) (fun y hy => by simp at hy; rw [hy, hxe]; exact HLB.out _ (List.getElem_mem hkl2)) (by have := HGL.out; simp; omega)
          have hs1 : ∀ wz : World, Seen wz (w.heap.size + 1) (k + [x].length) (fun y => GloS gs l k y ∨ (y ∈ [x] ∧ y ≠ 0)) → Seen wz (w.heap.size + 1) (k + 1) (GloS gs l (k + 1)) := fun wz h => h.congr (fun y _ => by
            rw [HST.out y, hp, hxk]
            simp
            constructor
            · rintro (h | ⟨h1, h2⟩)
              · exact .inl h
              · exact .inr ⟨h2, h1.symm⟩
            · rintro (h | ⟨h1, h2⟩)
              · exact .inl h
              · exact .inr ⟨h2.symm, h1⟩) (Nat.le_refl _)
          have hfr1 := hfr.trans (Fr.of_below hba _) (fun _ _ h => h)
          clear hS hfr hp hba hlb hxk
          have HXE := Lib.hid hxe
          clear hxe
          have HS1 := Lib.hid hs1; clear hs1
          have HFR1 := Lib.hid hfr1; clear hfr1
          have PT := Lib.hid pt; clear pt
          have PU := Lib.hid pu; clear pu
          go_wp2_with fail
          refine PT.out.mono ?_
          rintro e w' ⟨rfl, rfl⟩
          go_wp2_with fail
          refine PU.out.mono ?_
          rintro e w2 ⟨rfl, hs2, hf2⟩
          have HS2 := Lib.hid (HS1.out w2 hs2)
          have HF2 := Lib.hid (HFR1.out.trans hf2 (fun _ _ h => h))
          clear hs2 hf2
          go_wp2_with fail
          go_roundw
          case rel => exact ⟨k + 1, hlt, by go_num, HS2.out, HF2.out⟩
          case measure => simp [intOf]; omega
        · have hkl3 : ¬ (k : Int) < (l.length : Int) := by omega
          have hs1 : Seen wr (w.heap.size + 1) (k + 1) (GloS gs l (k + 1)) := hS.congr (fun x _ => by rw [HST.out x, List.getElem?_eq_none (by omega)]; simp) (by omega)
          have hfr1 := hfr
          clear hS hfr hp
          have HS1 := Lib.hid hs1; clear hs1
          have HFR1 := Lib.hid hfr1; clear hfr1
          have PT := Lib.hid pt; clear pt
          go_wp2_with fail
          refine PT.out.mono ?_
          rintro e w' ⟨rfl, rfl⟩
          go_wp2_with fail
          go_roundw
          case rel => exact ⟨k + 1, hlt, by go_num, HS1.out, HFR1.out⟩
          case measure => simp [intOf]; omega
    · have hk' : k = gs.length := by omega
      subst hk'
      have al := all_any wr _ _ _ hS (by have := HGL.out; omega)
      have hbe := HB1.out.trans (hfr.below HB1.out.size (fun q hq => by omega))
      clear hS hfr
      have AL := Lib.hid al; clear al
      have HBE := Lib.hid hbe; clear hbe
      go_wp2_with fail
      refine AL.out.mono ?_
      rintro e w2 ⟨v, L, rfl, ho, hr, hm, _, _, hb⟩
      have HE := Lib.hid (HBE.out.trans (hb.mono HBE.out.size))
      have HO := Lib.hid (ho.base (B' := w.heap.size) (fun q hq => by have := (ho.lt hq).1; have := HBE.out.size; omega))
      clear ho hb
      go_wp2_with fail
      go_ret
      exact ⟨v, L, rfl, HO.out, hr, hm, HE.out⟩
end Go.Proofs.YtknbllbhakpaaaaGreat
