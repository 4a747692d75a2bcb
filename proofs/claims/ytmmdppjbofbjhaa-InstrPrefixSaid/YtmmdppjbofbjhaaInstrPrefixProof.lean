/- Bytes of instructions, cut behind a whole number of them, are the first ones; cut elsewhere they are none. No condition: for every input. -/
import Derived.Test.YtmmdppjbofbjhaaAlive9
import Derived.Test.YtmmdppjbofbjhaaLaw
namespace Go.Proofs.Ytmmdppjbofbjhaa.instrPrefix
open Go.ChangeShapes Go.WideShapes Go.ChangeAt Go.RowKit

theorem cut_place (k S : Int) (h0 : 0 ≤ S) (h1 : S ≤ 1000) : -S ≤ k.tmod (S + 1) ∧ k.tmod (S + 1) ≤ S ∧ ∃ n : Nat, (k.tmod (S + 1) + S + 1) % (S + 1) = n ∧ (n : Int) ≤ S := by
  have h2 : k.tmod (S + 1) < S + 1 := Int.tmod_lt_of_pos _ (by omega)
  have h3 : -(S + 1) < k.tmod (S + 1) := by
    have := Int.lt_tmod_of_pos k (show 0 < S + 1 by omega)
    omega
  refine ⟨by omega, by omega, ((k.tmod (S + 1) + S + 1) % (S + 1)).toNat, ?_, ?_⟩
  · have := Int.emod_nonneg (k.tmod (S + 1) + S + 1) (show S + 1 ≠ 0 by omega)
    omega
  · have := Int.emod_lt_of_pos (k.tmod (S + 1) + S + 1) (show 0 < S + 1 by omega)
    have := Int.emod_nonneg (k.tmod (S + 1) + S + 1) (show S + 1 ≠ 0 by omega)
    omega

set_option maxRecDepth 100000 in
set_option maxHeartbeats 3200000 in
theorem walk (w : World) (v : Value) (hv : ∃ (a : Option Addr) (l : List Ins) (c : Nat), v = .slice a l.length c ∧ InsSl w a l ∧ ∀ x ∈ l, x.wf) (k : Int) (wk : (Lit.int .i64 k).wf = true) :
    Calls Try.prog 10 #[v, .int .i64 k] w fun e w' => e = .returned (.bool true) ∧ Below w.heap.size w w' := by
  obtain ⟨a, l, c, rfl, hsl, _⟩ := hv
  have bk := bounds_i64 wk
  have al := alive9
  by_cases h60 : 60 < l.length
  · skip
    have AL := Lib.hid al; clear al
    have HSL := Lib.hid hsl; clear hsl
    go_enter Try.func10, Try.ntmps10
    go_wp2_with fail
    refine (AL.out _).mono ?_
    rintro e w1 ⟨rfl, hb1⟩
    go_wp2_with fail
    go_ret
    exact ⟨rfl, hb1⟩
  have ly : ∀ w1, Below w.heap.size w w1 → Calls Try.prog 36 #[.slice a l.length c] w1 fun e w' => e = .returned (layRes l) ∧ Below w1.heap.size w1 w' := fun w1 hb => lay_any l a c w1 (by omega) (hsl.below hb)
  cases hlaid : laid l
  · have hres : layRes l = .tuple #[.string ⟨#[]⟩, .int .i64 1] := by simp [layRes, hlaid]
    rw [hres] at ly
    have he : (⟨#[]⟩ : ByteArray).toList.isEmpty = true := by rw [ByteArray.toList_eq]; rfl
    clear hres hlaid
    have AL := Lib.hid al; clear al
    have HSL := Lib.hid hsl; clear hsl
    have LY := Lib.hid ly; clear ly
    go_enter Try.func10, Try.ntmps10
    go_wp2_with fail
    refine (AL.out _).mono ?_
    rintro e w1 ⟨rfl, hb1⟩
    have HB1 := Lib.hid hb1; clear hb1
    go_wp2_with fail
    refine (LY.out _ HB1.out).mono ?_
    rintro e w2 ⟨rfl, hb2⟩
    have HB2 := Lib.hid (HB1.out.trans (hb2.mono HB1.out.size)); clear hb2
    go_wp2_with fail
    go_ret
    exact ⟨rfl, HB2.out⟩
  have hres : layRes l = .tuple #[.string (bytesS (layL l)), .int .i64 0] := by simp [layRes, hlaid]
  rw [hres] at ly
  have hsz : (bytesS (layL l)).size = 7 * l.length := by rw [bytesS_size, layL_len]
  obtain ⟨hk1, hk2, n, hn, hnle⟩ := cut_place k ((bytesS (layL l)).size : Int) (by omega) (by omega)
  have hnl : n ≤ 7 * l.length := by omega
  have hrp := read_prefix l hlaid n hnl
  have hxs : ((bytesS (layL l)).extract 0 n).size = n := by rw [ByteArray.size_extract, hsz]; omega
  generalize bytesS (layL l) = s at *
  clear hres hlaid
  have hs1 : (s.size : Int) ≤ 420 := by omega
  have hsn : n ≤ s.size := by omega
  have rd := fun w => read_code (s.extract 0 n) w (by omega)
  have kn := rknown_any
  unfold RKnownSaid at kn
  have kn0 := fun w => kn w 0
  rw [show knownS 0 = true from by decide +kernel] at kn0
  clear kn
  have HSZ := Lib.hid hsz; clear hsz hxs
  by_cases h7 : n % 7 = 0
  case neg =>
    have h7' : ((n : Int) % 7 != 0) = true := by rw [bne_iff_ne]; omega
    have hno : readOk (s.extract 0 n) = false := by rw [hrp.1]; simpa using h7
    clear hrp
    have AL := Lib.hid al; clear al
    have HSL := Lib.hid hsl; clear hsl
    have LY := Lib.hid ly; clear ly
    have RD := Lib.hid rd; clear rd
    have HNO := Lib.hid hno; clear hno
    go_enter Try.func10, Try.ntmps10
    go_wp2_with fail
    refine (AL.out _).mono ?_
    rintro e w1 ⟨rfl, hb1⟩
    have HB1 := Lib.hid hb1; clear hb1
    go_wp2_with fail
    refine (LY.out _ HB1.out).mono ?_
    rintro e w2 ⟨rfl, hb2⟩
    have HB2 := Lib.hid (HB1.out.trans (hb2.mono HB1.out.size)); clear hb2
    go_wp2_with fail
    refine (RD.out _).mono ?_
    rintro e w3 ⟨v, rfl, hown, hb3⟩
    have HB3 := Lib.hid (HB2.out.trans (hb3.mono HB2.out.size)); clear hb3
    unfold readL at hown
    rw [HNO.out] at *
    obtain ⟨a2, c2, rfl, _⟩ := own_ins hown
    clear hown
    go_wp2_with fail
    go_ret
    exact ⟨rfl, HB3.out⟩
  have h7' : ((n : Int) % 7 != 0) = false := by rw [bne_eq_false_iff_eq]; omega
  have hyes : readOk (s.extract 0 n) = true := by rw [hrp.1]; simpa using h7
  have hrl := hrp.2 h7
  clear hrp
  have hlen : (l.take (n / 7)).length = n / 7 := by rw [List.length_take]; omega
  have hq : (((n / 7 : Nat) : Int) != (n : Int) / 7) = false := by rw [bne_eq_false_iff_eq]; omega
  have AL := Lib.hid al; clear al
  have HSL := Lib.hid hsl; clear hsl
  have LY := Lib.hid ly; clear ly
  have RD := Lib.hid rd; clear rd
  have HYES := Lib.hid hyes; clear hyes
  have HRL := Lib.hid hrl; clear hrl
  have HLEN := Lib.hid hlen; clear hlen
  have KN0 := Lib.hid kn0; clear kn0
  go_enter Try.func10, Try.ntmps10
  go_wp2_with fail
  refine (AL.out _).mono ?_
  rintro e w1 ⟨rfl, hb1⟩
  have HB1 := Lib.hid hb1; clear hb1
  go_wp2_with fail
  refine (LY.out _ HB1.out).mono ?_
  rintro e w2 ⟨rfl, hb2⟩
  have HB2 := Lib.hid (HB1.out.trans (hb2.mono HB1.out.size)); clear hb2
  go_wp2_with fail
  refine (RD.out _).mono ?_
  rintro e w3 ⟨v, rfl, hown, hb3⟩
  have HB3 := Lib.hid (HB2.out.trans (hb3.mono HB2.out.size)); clear hb3
  rw [HYES.out] at *
  rw [HRL.out] at hown
  obtain ⟨a2, c2, rfl, hsl2⟩ := own_ins hown
  clear hown
  have HSL2 := Lib.hid hsl2; clear hsl2
  rw [HLEN.out]
  go_wp2_with fail
  go_outline
  go_loopw [9] (fun i wr => ∃ j : Nat, j ≤ n / 7 ∧ i = .int .i64 j ∧ Below w3.heap.size w3 wr) (fun i _ => n / 7 - (intOf i).toNat)
  case atStart => exact ⟨0, Nat.zero_le _, rfl, Below.refl _ _⟩
  case round =>
    obtain ⟨j, hj, rfl, hB⟩ := hrel
    by_cases hlt : j < n / 7
    · have hjl : j < l.length := by omega
      obtain ⟨b1, o1, rfl, hx1⟩ := (HSL.out.below (HB3.out.trans (hB.mono HB3.out.size))) j hjl
      obtain ⟨b2, o2, rfl, hx2⟩ := (HSL2.out.below hB) j (by rw [HLEN.out]; exact hlt)
      rw [List.getElem_take] at hx2
      generalize l[j] = x at *
      obtain ⟨p0, p1, p2, p3⟩ := hx1
      obtain ⟨q0, q1, q2, q3⟩ := hx2
      have HB := Lib.hid hB; clear hB
      go_wp2_with fail
      go_quiet (fail)
      go_wp2_with fail
      go_roundw
      case rel => exact ⟨j + 1, by omega, by go_num, below_drewN HB.out _⟩
      case measure => simp [intOf]; omega
    · have HB := Lib.hid hB; clear hB
      go_wp2_with fail
      refine (KN0.out _).mono ?_
      rintro e w4 ⟨rfl, rfl⟩
      go_wp2_with fail
      go_ret
      exact ⟨rfl, HB3.out.trans (HB.out.mono HB3.out.size)⟩
theorem own : ownKnob Try.prog.godebug = none := by kernel_rfl
theorem laidOut : laidOutB Try.prog = true := by kernel_rfl
set_option maxRecDepth 100000 in
theorem lifted (os : Os) (started : os.Started) (H : Type) (enc : TypeId × Value → H) :
    ReturnsInHanded {} Try.checked os 10 .any (Rows.instrPrefixSpec.pre6 enc Try.prog Try.f10 Rows.instrPrefixRow.domain false) (Rows.instrPrefixSpec.post enc Try.prog Try.f10 false true false false) := by
  refine returnsInHanded_of_change (C := Try.checked) own started (by kernel_rfl) Try.func10
    (ChangeSpec.witness6 (enc := enc) (C := Try.checked) false ⟨#[], #[.slice none 0 0, .int .i64 0], []⟩ 8 (by kernel_rfl) (by kernel_rfl) (by kernel_rfl) (by kernel_rfl)) ?_
  intro W base args ds gs before hval0 hW hcnd _
  have hval : ∀ (j : Nat) t v, Try.f10.params[j]? = some t → args[j]? = some v → Value.okWide Try.prog W .any base t v := hval0
  have hW' := hW
  obtain ⟨p, q, hA0, hV, rfl, hfz, hnd⟩ := hW
  have hA : DataW.TrodAll enc Try.prog W 0 (fun _ => true) true Try.f10.params.toList args.toList ds p := hA0
  rw [Try.params10] at hA hval
  obtain ⟨v0, vs0, d0, ds0, p0, q0, hargs, rfl, rfl, h0, r0⟩ := trodAll_cons hA
  obtain ⟨v1, vs1, d1, ds1, p1, q1, rfl, rfl, rfl, h1, r1⟩ := trodAll_cons r0
  obtain ⟨rfl, rfl, rfl⟩ := trodAll_nil r1
  obtain rfl : args = #[v0, v1] := by cases args; simp_all
  have w0 := open_instrs (hval 0 35 v0 rfl rfl) h0
  obtain ⟨a1, rfl, rfl, rfl, w1⟩ := open_int Try.underlying3 (hval 1 3 v1 rfl rfl) h1
  clear hA0 hval0
  simp only [List.append_nil] at hW'
  refine (walk W v0 w0 a1 w1).mono fun e W' ⟨he, hb⟩ => ?_
  subst he
  exact ⟨_, rfl, law_post laidOut (by kernel_rfl) rfl Try.underlying4 hW' rfl (fun ds h => by match ds, h with | [_, _], _ => rfl) hb⟩
theorem over : Rows.instrPrefixRow.holds Try.pinned (OpenSpec.ofChange Rows.instrPrefixSpec) :=
  OpenClaim.holds_of_wide 10 Try.f10 rfl rfl rfl rfl rfl rfl rfl ⟨rfl, rfl, rfl, rfl, rfl⟩ rfl rfl rfl rfl rfl (by kernel_rfl) Try.func10 (by kernel_rfl)
    (of_decide_eq_true (by kernel_rfl)) (by unfold Func.isWrapper; first | (rw [if_pos (by decide +kernel)]; kernel_rfl) | (rw [if_neg (by decide +kernel)]; exact ⟨rfl, rfl⟩))
    (fun os started H enc _ => lifted os started H enc)
theorem proved : Rows.InstrPrefixSaid := over
#print axioms proved
end Go.Proofs.Ytmmdppjbofbjhaa.instrPrefix
