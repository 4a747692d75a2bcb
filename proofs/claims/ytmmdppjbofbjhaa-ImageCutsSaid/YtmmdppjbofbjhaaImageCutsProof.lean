/- Bytes of a program from which some are cut, or to which some are added, are no program. No condition: for every input. -/
import Derived.Test.YtmmdppjbofbjhaaAlive10
import Derived.Test.YtmmdppjbofbjhaaOpenP
import Derived.Test.YtmmdppjbofbjhaaPlainR
import Derived.Test.YtmmdppjbofbjhaaLaw
namespace Go.Proofs.Ytmmdppjbofbjhaa.imageCuts
open Go.ChangeShapes Go.WideShapes Go.ChangeAt Go.RowKit

theorem cut_place (k S : Int) (h0 : 0 < S) (h1 : S ≤ 900000) : -S < k.tmod S ∧ k.tmod S < S ∧ ∃ n : Nat, (k.tmod S + S) % S = n ∧ (n : Int) < S := by
  have h2 : k.tmod S < S := Int.tmod_lt_of_pos _ (by omega)
  have h3 : -S < k.tmod S := Int.lt_tmod_of_pos k h0
  have h4 := Int.emod_nonneg (k.tmod S + S) (show S ≠ 0 by omega)
  have h5 := Int.emod_lt_of_pos (k.tmod S + S) h0
  exact ⟨h3, h2, ((k.tmod S + S) % S).toNat, by omega, by omega⟩
def blk (c0 c1 c2 : Value) : Obj := .cells #[c0, c1, c2] 71
theorem wProg_len (p : Prg) (h : bulk p ≤ 3000) : (wProg p).1.length ≤ 90000 := by
  have h1 := funcs_len p.funcs (wMid p)
  rw [wMid_len] at h1
  have h2 : (wProg p).1 = (p.funcs.foldl wFn (wMid p)).1 := rfl
  rw [h2]
  unfold bulk at h
  omega
set_option maxRecDepth 100000 in
set_option maxHeartbeats 3200000 in
theorem walk (w : World) (v : Value) (hv : ∃ (pr : Prg) (c0 c1 c2 : Value), v = .agg #[c0, c1, c2] ∧ PrgVal w (fun k => k < w.heap.size) pr c0 c1 c2) (k : Int) (wk : (Lit.int .i64 k).wf = true) (more : ByteArray) (wmore : more.size ≤ maxLen) :
    Calls Try.prog 13 #[v, .int .i64 k, .string more] w fun e w' => e = .returned (.bool true) ∧ Below w.heap.size w w' := by
  obtain ⟨pr, c0, c1, c2, rfl, hp⟩ := hv
  have hp0 := hp
  obtain ⟨⟨a0, n0, rfl, _⟩, ⟨a1, n1, rfl, _⟩, a2, n2, rfl, _⟩ := hp0
  have bk := bounds_i64 wk
  have al := alive10
  have sm := small_any (w.alloc (blk (.slice a0 pr.globals.length n0) (.slice a1 pr.shapes.length n1) (.slice a2 pr.funcs.length n2))) _ pr _ _ _ (hp.fr ((Fr.refl (fun _ => False) w).alloc _) (fun _ _ h => h))
  by_cases hsm : bulk pr ≤ 3000
  case neg =>
    rw [decide_eq_false hsm] at sm
    unfold blk at sm
    have hB : Below w.heap.size w (w.alloc (.cells #[.slice a0 pr.globals.length n0, .slice a1 pr.shapes.length n1, .slice a2 pr.funcs.length n2] 71)) := (Below.refl _ _).alloc (Nat.le_refl _) _
    have AL := Lib.hid al; clear al
    have SM := Lib.hid sm; clear sm
    have HP := Lib.hid hp; clear hp
    have HB := Lib.hid hB; clear hB
    go_enter Try.func13, Try.ntmps13
    go_wp2_with fail
    refine SM.out.mono ?_
    rintro e w1 ⟨rfl, hb1⟩
    have HB1 := Lib.hid (HB.out.trans (hb1.mono HB.out.size)); clear hb1
    go_wp2_with fail
    refine (AL.out _).mono ?_
    rintro e w2 ⟨rfl, hb2⟩
    have HB2 := Lib.hid (HB1.out.trans (hb2.mono HB1.out.size)); clear hb2
    go_wp2_with fail
    go_ret
    exact ⟨rfl, HB2.out⟩
  rw [decide_eq_true hsm] at sm
  unfold blk at sm
  have hbx : ∀ wr, Below (w.heap.size + 1) (w.alloc (.cells #[.slice a0 pr.globals.length n0, .slice a1 pr.shapes.length n1, .slice a2 pr.funcs.length n2] 71)) wr → (wr.cell? ⟨w.heap.size, 0, none⟩ = some (.slice a0 pr.globals.length n0) ∧ wr.cell? ⟨w.heap.size, 1, none⟩ = some (.slice a1 pr.shapes.length n1) ∧ wr.cell? ⟨w.heap.size, 2, none⟩ = some (.slice a2 pr.funcs.length n2)) ∧ Below w.heap.size w wr := fun wr h =>
    ⟨⟨by rw [h.cell (by simp)]; exact cell_new w _ _ _ 0, by rw [h.cell (by simp)]; exact cell_new w _ _ _ 1, by rw [h.cell (by simp)]; exact cell_new w _ _ _ 2⟩, ((Below.refl _ _).alloc (Nat.le_refl _) _).trans (h.mono (by simp))⟩
  have hsz0 : (w.alloc (.cells #[.slice a0 pr.globals.length n0, .slice a1 pr.shapes.length n1, .slice a2 pr.funcs.length n2] 71)).heap.size = w.heap.size + 1 := by simp
  have ly : ∀ w1, Below w.heap.size w w1 → Calls Try.prog 58 #[.agg #[.slice a0 pr.globals.length n0, .slice a1 pr.shapes.length n1, .slice a2 pr.funcs.length n2]] w1 fun e w' => e = .returned (layPRes pr) ∧ Below w1.heap.size w1 w' := fun w1 hb =>
    layP_any w1 (fun k => k < w.heap.size) pr _ _ _ (hp.fr (Fr.of_below hb (fun _ => False)) (fun _ _ h => h)) (fun k hk => by have := hb.size; have : k < w.heap.size := hk; omega) hsm
  have hlong := wProg_len pr hsm
  have HP := Lib.hid hp; clear hp
  have HBX := Lib.hid hbx; clear hbx
  have LY := Lib.hid ly; clear ly
  by_cases hm : 40 < more.size ∨ more.size = 0
  · have hm1 : ¬ more.size ≤ 40 ∨ more.size = 0 := by omega
    have AL := Lib.hid al; clear al
    have SM := Lib.hid sm; clear sm
    by_cases hm2 : 40 < more.size
    all_goals
      first | have hm0 : more.size = 0 := (by omega) | skip
      clear hm hm1
      go_enter Try.func13, Try.ntmps13
      go_wp2_with fail
      refine SM.out.mono ?_
      rintro e w1 ⟨rfl, hb1⟩
      rw [hsz0] at hb1
      obtain ⟨_, hb⟩ := HBX.out _ hb1
      have HB1 := Lib.hid hb; clear hb1 hb
      go_wp2_with fail
      refine (AL.out _).mono ?_
      rintro e w2 ⟨rfl, hb2⟩
      have HB2 := Lib.hid (HB1.out.trans (hb2.mono HB1.out.size)); clear hb2
      go_wp2_with fail
      go_ret
      exact ⟨rfl, HB2.out⟩
  have hm1 : more.size ≤ 40 := by omega
  have hm2 : 1 ≤ more.size := by omega
  have hm3 : ((more.size : Int) == 0) = false := by rw [beq_eq_false_iff_ne]; omega
  clear hm
  cases hbad : (wProg pr).2
  case true =>
    have hres : layPRes pr = .tuple #[.string ⟨#[]⟩, .int .i64 1] := by simp [layPRes, hbad]
    have LY := LY.out
    rw [hres] at LY
    have LY := Lib.hid LY
    have he : (⟨#[]⟩ : ByteArray).toList.isEmpty = true := by rw [ByteArray.toList_eq]; rfl
    clear hres hbad
    have AL := Lib.hid al; clear al
    have SM := Lib.hid sm; clear sm
    go_enter Try.func13, Try.ntmps13
    go_wp2_with fail
    refine SM.out.mono ?_
    rintro e w1 ⟨rfl, hb1⟩
    rw [hsz0] at hb1
    go_wp2_with fail
    refine (AL.out _).mono ?_
    rintro e w2 ⟨rfl, hb2⟩
    have hb2 := hb1.trans (hb2.mono (by have := hb1.size; omega))
    clear hb1
    obtain ⟨⟨k0, k1, k2⟩, hb⟩ := HBX.out _ hb2
    have HB := Lib.hid hb; clear hb
    have HB2 := Lib.hid hb2; clear hb2
    go_wp2_with fail
    refine (LY.out _ HB.out).mono ?_
    rintro e w3 ⟨rfl, hb3⟩
    have HB3 := Lib.hid (HB.out.trans (hb3.mono HB.out.size)); clear hb3
    go_wp2_with fail
    go_ret
    exact ⟨rfl, HB3.out⟩
  have hok := wProg_ok pr hbad
  have hres : layPRes pr = .tuple #[.string (bytesS (wProg pr).1), .int .i64 0] := by simp [layPRes, hbad]
  have LY := LY.out
  rw [hres] at LY
  have LY := Lib.hid LY
  have hrd := laid_ok pr hok.1
  rw [← hok.2] at hrd
  have hs0 : (bytesS (wProg pr).1).size = (wProg pr).1.length := bytesS_size _
  have hs1 : 3 ≤ (bytesS (wProg pr).1).size := by rw [hs0, hok.2]; simp [encP, encL]; omega
  have hs2 : (bytesS (wProg pr).1).size ≤ 99000 := by rw [hs0]; omega
  clear hs0 hok hres hbad hlong
  generalize bytesS (wProg pr).1 = s at *
  obtain ⟨hk1, hk2, n, hn, hnlt⟩ := cut_place k (s.size : Int) (by omega) (by omega)
  have hnl : n < s.size := by omega
  have hcut := cut_no s n hrd.1 hnl
  have hadd := added_no s more hrd.1 hm2
  have hne : s.toList.isEmpty = false := by
    rw [isEmpty_iff, decide_eq_false]; omega
  have hx1 : (s.extract 0 n).size ≤ 100000 := by rw [ByteArray.size_extract]; omega
  have hx2 : (s ++ more).size ≤ 100000 := by rw [ByteArray.size_append]; omega
  have r1 := fun w => readP_any (s.extract 0 n) w hx1
  have r2 := fun w => readP_any (s ++ more) w hx2
  clear hx1 hx2 hrd
  unfold ReadPPost at r1 r2
  rw [hcut] at r1
  rw [hadd] at r2
  clear hcut hadd
  have AL := Lib.hid al; clear al
  have SM := Lib.hid sm; clear sm
  have R1 := Lib.hid r1; clear r1
  have R2 := Lib.hid r2; clear r2
  go_enter Try.func13, Try.ntmps13
  go_wp2_with fail
  refine SM.out.mono ?_
  rintro e w1 ⟨rfl, hb1⟩
  rw [hsz0] at hb1
  go_wp2_with fail
  refine (AL.out _).mono ?_
  rintro e w2 ⟨rfl, hb2⟩
  have hb2 := hb1.trans (hb2.mono (by have := hb1.size; omega))
  clear hb1
  obtain ⟨⟨k0, k1, k2⟩, hb⟩ := HBX.out _ hb2
  have HB := Lib.hid hb; clear hb
  have HB2 := Lib.hid hb2; clear hb2
  go_wp2_with fail
  refine (LY.out _ HB.out).mono ?_
  rintro e w3 ⟨rfl, hb3⟩
  have HB3 := Lib.hid (HB.out.trans (hb3.mono HB.out.size)); clear hb3 k0 k1 k2
  go_wp2_with fail
  refine (R1.out _).mono ?_
  rintro e w4 ⟨_, _, _, rfl, ⟨⟨x0, y0, rfl, _⟩, ⟨x1, y1, rfl, _⟩, x2, y2, rfl, _⟩, hb4⟩
  have HB4 := Lib.hid (HB3.out.trans (hb4.mono HB3.out.size)); clear hb4
  go_wp2_with fail
  refine (R2.out _).mono ?_
  rintro e w5 ⟨_, _, _, rfl, ⟨⟨x3, y3, rfl, _⟩, ⟨x4, y4, rfl, _⟩, x5, y5, rfl, _⟩, hb5⟩
  have HB5 := Lib.hid ((HB4.out.alloc HB4.out.size _).trans (hb5.mono (by have := HB4.out.size; simp; omega))); clear hb5
  go_wp2_with fail
  go_ret
  exact ⟨rfl, by first | exact HB5.out.alloc HB5.out.size _ | exact HB5.out⟩
theorem own : ownKnob Try.prog.godebug = none := by kernel_rfl
theorem laidOut : laidOutB Try.prog = true := by kernel_rfl
set_option maxRecDepth 100000 in
theorem lifted (os : Os) (started : os.Started) (H : Type) (enc : TypeId × Value → H) :
    ReturnsInHanded {} Try.checked os 13 .any (Rows.imageCutsSpec.pre6 enc Try.prog Try.f13 Rows.imageCutsRow.domain false) (Rows.imageCutsSpec.post enc Try.prog Try.f13 false true false false) := by
  refine returnsInHanded_of_change (C := Try.checked) own started (by kernel_rfl) Try.func13
    (ChangeSpec.witness6 (enc := enc) (C := Try.checked) false ⟨#[], #[.agg #[.slice none 0 0, .slice none 0 0, .slice none 0 0], .int .i64 0, .string ByteArray.empty], []⟩ 8 (by kernel_rfl) (by kernel_rfl) (by kernel_rfl) (by kernel_rfl)) ?_
  intro W base args ds gs before hval0 hW hcnd _
  have hval : ∀ (j : Nat) t v, Try.f13.params[j]? = some t → args[j]? = some v → Value.okWide Try.prog W .any base t v := hval0
  have hW' := hW
  obtain ⟨p, q, hA0, hV, rfl, hfz, hnd⟩ := hW
  have hA : DataW.TrodAll enc Try.prog W 0 (fun _ => true) true Try.f13.params.toList args.toList ds p := hA0
  rw [Try.params13] at hA hval
  obtain ⟨v0, vs0, d0, ds0, p0, q0, hargs, rfl, rfl, h0, r0⟩ := trodAll_cons hA
  obtain ⟨v1, vs1, d1, ds1, p1, q1, rfl, rfl, rfl, h1, r1⟩ := trodAll_cons r0
  obtain ⟨v2, vs2, d2, ds2, p2, q2, rfl, rfl, rfl, h2, r2⟩ := trodAll_cons r1
  obtain ⟨rfl, rfl, rfl⟩ := trodAll_nil r2
  obtain rfl : args = #[v0, v1, v2] := by cases args; simp_all
  have w0 := open_program (hval 0 71 v0 rfl rfl) h0
  obtain ⟨a1, rfl, rfl, rfl, w1⟩ := open_int Try.underlying3 (hval 1 3 v1 rfl rfl) h1
  obtain ⟨a2, rfl, rfl, rfl, w2⟩ := Go.ChangeMaps.open_string Try.underlying9 (hval 2 9 v2 rfl rfl) h2
  clear hA0 hval0
  simp only [List.append_nil] at hW'
  refine (walk W v0 w0 a1 w1 a2 w2).mono fun e W' ⟨he, hb⟩ => ?_
  subst he
  exact ⟨_, rfl, law_post laidOut (by kernel_rfl) rfl Try.underlying4 hW' rfl (fun ds h => by match ds, h with | [_, _, _], _ => rfl) hb⟩
theorem over : Rows.imageCutsRow.holds Try.pinned (OpenSpec.ofChange Rows.imageCutsSpec) :=
  OpenClaim.holds_of_wide 13 Try.f13 rfl rfl rfl rfl rfl rfl rfl ⟨rfl, rfl, rfl, rfl, rfl⟩ rfl rfl rfl rfl rfl (by kernel_rfl) Try.func13 (by kernel_rfl)
    (of_decide_eq_true (by kernel_rfl)) (by unfold Func.isWrapper; first | (rw [if_pos (by decide +kernel)]; kernel_rfl) | (rw [if_neg (by decide +kernel)]; exact ⟨rfl, rfl⟩))
    (fun os started H enc _ => lifted os started H enc)
theorem proved : Rows.ImageCutsSaid := over
#print axioms proved
end Go.Proofs.Ytmmdppjbofbjhaa.imageCuts
