/- Of every instructions: their bytes, or that they may not be; of every bytes: their instructions, or none; what is handed in stays; lists that are kept lie apart. No condition: for every input. -/
import Derived.Test.YtmmdppjbofbjhaaAlive9
import Derived.Test.YtmmdppjbofbjhaaLaw
import Derived.Test.YtmmdppjbofbjhaaRefC
import Derived.Test.YtmmdppjbofbjhaaLent
import Derived.Test.YtmmdppjbofbjhaaBookI
import Derived.Test.YtmmdppjbofbjhaaPlainS
import Derived.BigRegion
import Derived.Deep.CutBlock
import Derived.Deep.DeepCutAuto
namespace Go.Proofs.Ytmmdppjbofbjhaa.instrBytes
open Go.ChangeShapes Go.WideShapes Go.ChangeAt Go.RowKit

theorem both_lays (l : List Ins) : ∃ (ok : Bool) (S : ByteArray) (E : Int), layRes l = .tuple #[.string S, .int .i64 E] ∧ rlcRes l = .tuple #[.string S, .bool ok] ∧ (ok = true → E = 0 ∧ readOk S = true ∧ readL S = l ∧ S.size = 7 * l.length) ∧ (ok = false → E = 1) := by
  refine ⟨laid l, if laid l then bytesS (layL l) else ⟨#[]⟩, if laid l then 0 else 1, ?_, ?_, fun h => ?_, fun h => by rw [h]; rfl⟩
  · unfold layRes; cases laid l <;> rfl
  · unfold rlcRes; cases laid l <;> rfl
  · rw [if_pos h, if_pos h]
    exact ⟨rfl, (read_lay l h).1, (read_lay l h).2, by rw [bytesS_size, layL_len]⟩
theorem readL_nil (b : ByteArray) (h : readOk b = false) : readL b = [] := by unfold readL; rw [h]; rfl
set_option maxRecDepth 100000 in
set_option maxHeartbeats 6400000 in

theorem walk (w : World) (v : Value) (hv : ∃ (a : Option Addr) (l : List Ins) (c : Nat), v = .slice a l.length c ∧ InsSl w a l ∧ ∀ x ∈ l, x.wf) (b : ByteArray) (wb : b.size ≤ maxLen) :
    Calls Try.prog 9 #[v, .string b] w fun e w' => e = .returned (.bool true) ∧ Below w.heap.size w w' := by
  obtain ⟨a, l, c, rfl, hsl, _⟩ := hv
  have al := alive9
  by_cases h80 : 80 < l.length
  · skip
    have AL := Lib.hid al; clear al
    have HSL := Lib.hid hsl; clear hsl
    go_enter Try.func9, Try.ntmps9
    go_wp2_with fail
    refine (AL.out _).mono ?_
    rintro e w1 ⟨rfl, hb1⟩
    go_wp2_with fail
    go_ret
    exact ⟨rfl, hb1⟩
  by_cases h600 : 600 < b.size
  · have h600' : (600 : Int) < b.size := by omega
    have AL := Lib.hid al; clear al
    have HSL := Lib.hid hsl; clear hsl
    go_enter Try.func9, Try.ntmps9
    go_wp2_with fail
    refine (AL.out _).mono ?_
    rintro e w1 ⟨rfl, hb1⟩
    go_wp2_with fail
    go_ret
    exact ⟨rfl, hb1⟩
  have h600' : ¬ (600 : Int) < b.size := by omega
  have h80' : ¬ (80 : Int) < l.length := by omega
  have ln := fun w1 hb => lentInstrs_any w1 a l c (hsl.below hb) (by omega)
  have ly := fun w1 g cap (hs : InsSlD w1 (fun k => k = g) (some ⟨g, 0, none⟩) l) => lay_any l (some ⟨g, 0, none⟩) cap w1 (by omega) hs.plain
  have rly := fun w1 hb => rlayCode_any l a c w1 (by omega) (hsl.below hb)
  have rd := fun w1 => read_code b w1 (by omega)
  have rrd := fun w1 => rreadCode_any b w1 (by omega)
  have hrl := readL_most b
  have hnil := readL_nil b
  unfold ReadPost at rd
  unfold RReadPost at rrd
  have hll : (readL b).length ≤ 100 := by omega
  generalize readL b = X at *
  generalize readOk b = rb at *
  obtain ⟨F, hF⟩ : ∃ F : Int, F = if rb = true then 0 else 2 := ⟨_, rfl⟩
  rw [← hF] at rd
  obtain ⟨ok, S, E, e1, e2, hS, hN⟩ := both_lays l
  rw [e1] at ly
  rw [e2] at rly
  have rds := fun w1 (h : ok = true) => read_code S w1 (by have := (hS h).2.2.2; omega)
  unfold ReadPost at rds
  clear e1 e2 hrl
  have AL := Lib.hid al; clear al
  have HSL := Lib.hid hsl; clear hsl
  have LN := Lib.hid ln; clear ln
  have LY := Lib.hid ly; clear ly
  have RLY := Lib.hid rly; clear rly
  have RD := Lib.hid rd; clear rd
  have RRD := Lib.hid rrd; clear rrd
  have RDS := Lib.hid rds; clear rds
  have HLL := Lib.hid hll; clear hll
  have HS := Lib.hid hS; clear hS
  have HN := Lib.hid hN; clear hN
  have HNIL := Lib.hid hnil; clear hnil
  have HF := Lib.hid hF; clear hF
  go_enter Try.func9, Try.ntmps9
  go_wp2_with fail
  refine (AL.out _).mono ?_
  rintro e w1 ⟨rfl, hb1⟩
  have HB1 := Lib.hid hb1; clear hb1
  go_wp2_with fail
  refine (LN.out _ HB1.out).mono ?_
  rintro e w2 ⟨g, cap, rfl, hc, hg, hm2, hs2, hb2⟩
  have hg1 := Nat.le_trans HB1.out.size hg
  have ly2 := LY.out w2 g cap hs2
  have hgl : g < w2.heap.size := World.block_lt (show w2.cell? ⟨g, l.length * 4, none⟩ = some (.int .i64 (-77)) from hm2.1)
  have hB2 := HB1.out.trans (hb2.mono HB1.out.size)
  clear hb2
  have HB2 := Lib.hid hB2; clear hB2
  have HM2 := Lib.hid hm2; clear hm2
  have HS2 := Lib.hid hs2; clear hs2
  have LY2 := Lib.hid ly2; clear ly2
  have HC := Lib.hid hc; clear hc
  have HG1 := Lib.hid hg1; clear hg1
  have HGL := Lib.hid hgl; clear hgl
  go_wp2_with fail
  refine LY2.out.mono ?_
  rintro e w3 ⟨rfl, hb3⟩
  have hB3 := HB2.out.trans (hb3.mono HB2.out.size)
  have hc3 := hb3
  clear hb3
  have HB3 := Lib.hid hB3; clear hB3
  have HC3 := Lib.hid hc3; clear hc3
  go_wp2_with fail
  refine (RLY.out _ HB3.out).mono ?_
  rintro e w4 ⟨rfl, hb4⟩
  have hB4 := HB3.out.trans (hb4.mono HB3.out.size)
  have HB4 := Lib.hid hB4; clear hB4
  go_upto_region 6 with fail
  go_cut [58] (fun o wx => o = .bool false ∧ wx = w4)
  case first =>
    cases ok
    · obtain rfl := HN.out rfl
      go_wp2_with fail
      go_meet
      exact ⟨rfl, rfl⟩
    · obtain ⟨rfl, _⟩ := HS.out rfl
      go_wp2_with fail
      go_meet
      exact ⟨rfl, rfl⟩
  case rest =>
    obtain ⟨rfl, rfl⟩ := hcut
    obtain ⟨p, hp⟩ : ∃ p, p = wc.heap.size := ⟨_, rfl⟩
    obtain ⟨w5, hw5⟩ : ∃ w5, w5 = wc.alloc (.cells #[.slice none 0 0, .slice none 0 0, .slice none 0 0, .slice none 0 0, .slice none 0 0, .slice none 0 0, .slice none 0 0, .slice none 0 0, .slice none 0 0, .slice none 0 0] 49) := ⟨_, rfl⟩
    have bk5 : BkI w5 p (p + 1) 0 := by rw [hw5, hp]; exact BkI.new wc
    have hc4 := HC3.out.trans (hb4.mono (HC3.out.size))
    have hc5 : Below w2.heap.size w2 w5 := by rw [hw5]; exact hc4.alloc hc4.size _
    have hs5 : w5.heap.size = p + 1 := by rw [hw5, hp]; simp
    have hp0 : w.heap.size ≤ p := by rw [hp]; exact HB4.out.size
    have hp2 : w2.heap.size ≤ p := by rw [hp]; exact hc4.size
    clear hb4 hc4
    have BK5 := Lib.hid bk5; clear bk5
    have HC5 := Lib.hid hc5; clear hc5
    have HP0 := Lib.hid hp0; clear hp0
    have HP2 := Lib.hid hp2; clear hp2
    have HS5 := Lib.hid hs5; clear hs5
    go_wp2_with fail
    rw [← hw5, ← hp]
    clear hw5 hp
    refine (RD.out _).mono ?_
    rintro e w6 ⟨v6, rfl, ho6, hb6⟩
    obtain ⟨a6, c6, rfl, hs6⟩ := own_insD ho6
    have hc6 := HC5.out.trans (hb6.mono HC5.out.size)
    have hz6 := hb6.size
    have bk6 := BK5.out.below hb6
    have HO6 := Lib.hid ho6; clear ho6
    have HS6 := Lib.hid hs6; clear hs6
    have HC6 := Lib.hid hc6; clear hc6
    have BK6 := Lib.hid bk6; clear bk6
    clear hb6
    go_wp2_with fail
    refine (RRD.out _).mono ?_
    rintro e w7 ⟨v7, rfl, ho7, hb7⟩
    obtain ⟨a7, c7, rfl, hs7⟩ := own_insD ho7
    have hc7 := HC6.out.trans (hb7.mono HC6.out.size)
    have hz7 := hb7.size
    have bk7 := BK6.out.below hb7
    have ho67 : Own insE w7 (p + 1) (.slice a6 X.length c6) X := by rw [← HS5.out]; exact HO6.out.below hb7
    have hs67 := HS6.out.below hb7
    have ad := bk7.add (by omega) ho67 (by have := HLL.out; omega)
    have hd6 : ∀ k, (Value.slice a6 X.length c6).ownBlock = some k → p + 1 ≤ k := fun k hk => (ho67.lt hk).1
    have hd7 : ∀ k, (Value.slice a7 X.length c7).ownBlock = some k → p + 1 ≤ k := fun k hk => by have := (ho7.lt hk).1; have := HS5.out; omega
    clear bk7 ho67 hb7 ho7
    have HS7 := Lib.hid hs7; clear hs7
    have HC7 := Lib.hid hc7; clear hc7
    have AD := Lib.hid ad; clear ad
    have HS67 := Lib.hid hs67; clear hs67
    have HD6 := Lib.hid hd6; clear hd6
    have HD7 := Lib.hid hd7; clear hd7
    go_wp2_with fail
    refine AD.out.mono ?_
    rintro e w8 ⟨rfl, bk8, hf8⟩
    have hc8 := HC7.out.trans (hf8.below (by have := HS5.out; have := HP2.out; omega) (fun k hk => by have := HP2.out; omega))
    have sl6 := HS67.out.fr hf8 (fun k hk h => by have := HD6.out k hk; omega)
    have sl7 := HS7.out.fr hf8 (fun k hk h => by have := HD7.out k hk; omega)
    have sm := sameInstrs_any w8 _ _ a6 a7 X X c6 c7 sl6 sl7 (by have := HLL.out; omega) (by have := HLL.out; omega)
    rw [show decide (X = X) = true from by simp] at sm
    have hz8 := hf8.size
    clear sl6 sl7 hf8
    have HC8 := Lib.hid hc8; clear hc8
    have SM := Lib.hid sm; clear sm
    have BK8 := Lib.hid bk8; clear bk8
    go_upto_region 12 with fail
    go_cut [91] (fun o wx => o = .bool false ∧ ∃ n, wx = w8.drewN n)
    case first =>
      cases rb
      · obtain rfl : F = 2 := HF.out
        go_wp2_with fail
        refine SM.out.mono ?_
        rintro e _ ⟨rfl, n, rfl⟩
        go_wp2_with fail
        go_meet
        exact ⟨rfl, n, rfl⟩
      · obtain rfl : F = 0 := HF.out
        go_wp2_with fail
        refine SM.out.mono ?_
        rintro e _ ⟨rfl, n, rfl⟩
        go_wp2_with fail
        go_meet
        exact ⟨rfl, n, rfl⟩
    case rest =>
      obtain ⟨rfl, n9, hw9⟩ := hcut
      have hc9 : Below w2.heap.size w2 wc := by rw [hw9]; exact below_drewN HC8.out n9
      have bk9 : BkI wc p w8.heap.size 1 := by rw [hw9]; exact BK8.out.fr ((Fr.refl (fun _ => False) w8).drewN n9) (fun _ _ _ h => h)
      have hz9 : w8.heap.size ≤ wc.heap.size := by rw [hw9]; exact Nat.le_refl _
      clear hw9
      have HC9 := Lib.hid hc9; clear hc9
      have BK9 := Lib.hid bk9; clear bk9
      have HZ9 := Lib.hid hz9; clear hz9
      obtain ⟨w9, hw9⟩ : ∃ w9, w9 = wc := ⟨_, rfl⟩
      subst hw9
      cases ok
      · obtain rfl := HN.out rfl
        have hbw := HB2.out.trans (HC9.out.mono HB2.out.size)
        have hsm : InsSlD w9 (fun _ => True) a l := (HSL.out.below hbw).dom
        have st := staysInstrs_any w9 _ g cap a l c HC.out (HM2.out.below HC9.out) (HS2.out.below HC9.out) hsm (by omega)
        have ap := fun n => (BK9.out.below (below_drewN (Below.refl _ w9) n)).apart (by omega)
        have hgs : ∀ W' M, Fr (fun k => p ≤ k ∧ k < M) w9 W' → Below w.heap.size w W' := fun W' M h => hbw.trans (h.below hbw.size (fun k hk => by have := HP0.out; omega))
        clear hsm hbw
        have ST := Lib.hid st; clear st
        have AP := Lib.hid ap; clear ap
        have HGS := Lib.hid hgs; clear hgs
        go_wp2_with fail
        refine ST.out.mono ?_
        rintro e _ ⟨rfl, ns, rfl⟩
        go_wp2_with fail
        refine (AP.out _).mono ?_
        rintro e wf ⟨rfl, hfr⟩
        have hbf := HGS.out _ _ (((Fr.refl _ w9).drewN ns).trans hfr (fun _ _ h => h))
        clear hfr
        have HBF := Lib.hid hbf; clear hbf
        go_wp2_with fail
        go_ret
        exact ⟨rfl, HBF.out⟩
      · obtain ⟨rfl, hS1, hS2, hS3⟩ := HS.out rfl
        have rds := fun w1 => RDS.out w1 rfl
        rw [hS1, hS2] at rds
        have hlen : (S.size : Int) = 7 * (l.length : Int) := by omega
        have hw7 : IntKind.i64.wrap (7 * (l.length : Int)) = 7 * (l.length : Int) := IntWalk.i64_in _ (by omega)
        have RDT := Lib.hid rds
        clear rds
        go_wp2_with fail
        refine (RDT.out _).mono ?_
        rintro e w10 ⟨v10, rfl, ho10, hb10⟩
        obtain ⟨a10, c10, rfl, hs10⟩ := own_insD ho10
        have hc10 := HC9.out.trans (hb10.mono HC9.out.size)
        have bk10 := BK9.out.below hb10
        have ho11 : Own insE w10 w8.heap.size (.slice a10 l.length c10) l := ho10.base (fun q hq => by have := HZ9.out; have := ho10.lt hq; omega)
        have ad := bk10.add (by omega) ho11 (by omega)
        have hd10 : ∀ k, (Value.slice a10 l.length c10).ownBlock = some k → w8.heap.size ≤ k := fun k hk => (ho11.lt hk).1
        clear bk10 ho10 ho11 hb10
        have AD2 := Lib.hid ad; clear ad
        have HC10 := Lib.hid hc10; clear hc10
        have HS10 := Lib.hid hs10; clear hs10
        have HD10 := Lib.hid hd10; clear hd10
        go_wp2_with fail
        refine AD2.out.mono ?_
        rintro e w11 ⟨rfl, bk11, hf11⟩
        have hc11 := HC10.out.trans (hf11.below (by have := HC10.out.size; omega) (fun k hk => by have := HP2.out; omega))
        have sl10 := HS10.out.fr hf11 (fun k hk h => by have := HD10.out k hk; omega)
        have hbw := HB2.out.trans (hc11.mono HB2.out.size)
        have sm := sameInstrs_any w11 _ _ a10 a l l c10 c sl10 (HSL.out.below hbw).dom (by omega) (by omega)
        rw [show decide (l = l) = true from by simp] at sm
        clear sl10 hf11 hbw
        have SM2 := Lib.hid sm
        clear sm
        have HC11 := Lib.hid hc11; clear hc11
        have BK11 := Lib.hid bk11; clear bk11
        go_wp2_with fail
        refine SM2.out.mono ?_
        rintro e _ ⟨rfl, n12, rfl⟩
        have hc12 := below_drewN HC11.out n12
        have bk12 : BkI (w11.drewN n12) p w11.heap.size 2 := BK11.out.fr ((Fr.refl (fun _ => False) w11).drewN n12) (fun _ _ _ h => h)
        generalize w11.drewN n12 = w12 at *
        have HC12 := Lib.hid hc12; clear hc12
        have BK12 := Lib.hid bk12; clear bk12
        have hbw := HB2.out.trans (HC12.out.mono HB2.out.size)
        have hsm : InsSlD w12 (fun _ => True) a l := (HSL.out.below hbw).dom
        have st := staysInstrs_any w12 _ g cap a l c HC.out (HM2.out.below HC12.out) (HS2.out.below HC12.out) hsm (by omega)
        have ap := fun n => (BK12.out.below (below_drewN (Below.refl _ w12) n)).apart (by omega)
        have hgs : ∀ W' M, Fr (fun k => p ≤ k ∧ k < M) w12 W' → Below w.heap.size w W' := fun W' M h => hbw.trans (h.below hbw.size (fun k hk => by have := HP0.out; omega))
        clear hsm hbw
        have ST := Lib.hid st; clear st
        have AP := Lib.hid ap; clear ap
        have HGS := Lib.hid hgs; clear hgs
        go_wp2_with fail
        refine ST.out.mono ?_
        rintro e _ ⟨rfl, ns, rfl⟩
        go_wp2_with fail
        refine (AP.out _).mono ?_
        rintro e wf ⟨rfl, hfr⟩
        have hbf := HGS.out _ _ (((Fr.refl _ w12).drewN ns).trans hfr (fun _ _ h => h))
        clear hfr
        have HBF := Lib.hid hbf; clear hbf
        go_wp2_with fail
        go_ret
        exact ⟨rfl, HBF.out⟩
theorem own : ownKnob Try.prog.godebug = none := by kernel_rfl
theorem laidOut : laidOutB Try.prog = true := by kernel_rfl
set_option maxRecDepth 100000 in
theorem lifted (os : Os) (started : os.Started) (H : Type) (enc : TypeId × Value → H) :
    ReturnsInHanded {} Try.checked os 9 .any (Rows.instrBytesSpec.pre6 enc Try.prog Try.f9 Rows.instrBytesRow.domain false) (Rows.instrBytesSpec.post enc Try.prog Try.f9 false true false false) := by
  refine returnsInHanded_of_change (C := Try.checked) own started (by kernel_rfl) Try.func9
    (ChangeSpec.witness6 (enc := enc) (C := Try.checked) false ⟨#[], #[.slice none 0 0, .string ByteArray.empty], []⟩ 8 (by kernel_rfl) (by kernel_rfl) (by kernel_rfl) (by kernel_rfl)) ?_
  intro W base args ds gs before hval0 hW hcnd _
  have hval : ∀ (j : Nat) t v, Try.f9.params[j]? = some t → args[j]? = some v → Value.okWide Try.prog W .any base t v := hval0
  have hW' := hW
  obtain ⟨p, q, hA0, hV, rfl, hfz, hnd⟩ := hW
  have hA : DataW.TrodAll enc Try.prog W 0 (fun _ => true) true Try.f9.params.toList args.toList ds p := hA0
  rw [Try.params9] at hA hval
  obtain ⟨v0, vs0, d0, ds0, p0, q0, hargs, rfl, rfl, h0, r0⟩ := trodAll_cons hA
  obtain ⟨v1, vs1, d1, ds1, p1, q1, rfl, rfl, rfl, h1, r1⟩ := trodAll_cons r0
  obtain ⟨rfl, rfl, rfl⟩ := trodAll_nil r1
  obtain rfl : args = #[v0, v1] := by cases args; simp_all
  have w0 := open_instrs (hval 0 35 v0 rfl rfl) h0
  obtain ⟨a1, rfl, rfl, rfl, w1⟩ := Go.ChangeMaps.open_string Try.underlying9 (hval 1 9 v1 rfl rfl) h1
  clear hA0 hval0
  simp only [List.append_nil] at hW'
  refine (walk W v0 w0 a1 w1).mono fun e W' ⟨he, hb⟩ => ?_
  subst he
  exact ⟨_, rfl, law_post laidOut (by kernel_rfl) rfl Try.underlying4 hW' rfl (fun ds h => by match ds, h with | [_, _], _ => rfl) hb⟩
theorem over : Rows.instrBytesRow.holds Try.pinned (OpenSpec.ofChange Rows.instrBytesSpec) :=
  OpenClaim.holds_of_wide 9 Try.f9 rfl rfl rfl rfl rfl rfl rfl ⟨rfl, rfl, rfl, rfl, rfl⟩ rfl rfl rfl rfl rfl (by kernel_rfl) Try.func9 (by kernel_rfl)
    (of_decide_eq_true (by kernel_rfl)) (by unfold Func.isWrapper; first | (rw [if_pos (by decide +kernel)]; kernel_rfl) | (rw [if_neg (by decide +kernel)]; exact ⟨rfl, rfl⟩))
    (fun os started H enc _ => lifted os started H enc)
theorem proved : Rows.InstrBytesSaid := over
#print axioms proved
end Go.Proofs.Ytmmdppjbofbjhaa.instrBytes
