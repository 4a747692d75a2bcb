/- Walk: roots.Records: the words of deferred calls and panics. Walks: shape.Pointers; the words of a stack object's fields that point. -/
import Derived.Test.YtknbllbhakpaaaaGreatHBi
import Derived.Test.YtknbllbhakpaaaaGreatHBj
import Derived.Test.YtknbllbhakpaaaaGreatHBl
import Derived.Test.YtknbllbhakpaaaaGreatHAo
set_option linter.unusedVariables false
set_option linter.unusedSimpArgs false
namespace Go.Proofs.YtknbllbhakpaaaaGreat
open Go.ChangeShapes Go.WideShapes Go.ChangeAt Go.RowKit Go.Maps
/-- block b is the set of the words of acc that are not 0 -/
def SeenL (w : World) (b : Nat) (acc : List Int) : Prop := Seen w b acc.length (fun x => x ∈ acc ∧ x ≠ 0)
theorem SeenL.fr {w w' : World} {F : Nat → Prop} {b : Nat} {acc : List Int} (h : SeenL w b acc) (hf : Fr F w w') (hn : ¬ F b) : SeenL w' b acc := Seen.fr h hf hn
theorem SeenL.below {w w' : World} {b : Nat} {acc : List Int} (h : SeenL w b acc) (hb : Below w.heap.size w w') : SeenL w' b acc := Seen.below h hb
theorem SeenL.lt {w : World} {b : Nat} {acc : List Int} (h : SeenL w b acc) : b < w.heap.size := Seen.lt h
theorem SeenL.made (w : World) : SeenL (w.alloc (.map #[] 0)) w.heap.size [] := (Seen.made w 0).congr (fun x _ => by simp) (Nat.le_refl _)
theorem putL_any (w : World) (b : Nat) (acc : List Int) (h : SeenL w b acc) (D : Nat → Prop) (hD : ∀ k, D k → k ≠ b) (a : Option Addr) (l : List Int) (c : Nat) (hl : IntSl w D a l) (hlB : ∀ x ∈ l, i64B x) (hn : acc.length + l.length ≤ 100000000) :
    Calls Tryz.prog 36 #[.map (some b), .slice a l.length c] w fun e w' => e = .returned (.tuple #[]) ∧ SeenL w' b (acc ++ l) ∧ Fr (fun k => k = b) w w' := by
  refine (put_any w b _ _ h D hD a l c hl hlB hn).mono ?_
  rintro e w' ⟨rfl, h1, h2⟩
  exact ⟨rfl, h1.congr (fun x _ => by rw [List.mem_append]; constructor <;> (intro h; grind)) (by simp), h2⟩
def argW (p : Prg) (q : ThkD) (n : Nat) : List Int := (List.range n).flatMap (fun k => if ptrB (((funR p q.fn).args[k]?).getD 0) = true then (q.args[k]?).toList else [])
theorem argW_succ (p : Prg) (q : ThkD) (n : Nat) : argW p q (n + 1) = argW p q n ++ (if ptrB (((funR p q.fn).args[n]?).getD 0) = true then (q.args[n]?).toList else []) := by
  unfold argW
  rw [List.range_succ, List.flatMap_append]
  simp
def thkW (p : Prg) (t : List ThkD) (n : Nat) : List Int := (List.range n).flatMap (fun j => (t[j]?).elim [] (fun q => argW p q (funR p q.fn).args.length))
theorem thkW_succ {p : Prg} {t : List ThkD} {n : Nat} {q : ThkD} (h : t[n]? = some q) : thkW p t (n + 1) = thkW p t n ++ argW p q (funR p q.fn).args.length := by
  unfold thkW
  rw [List.range_succ, List.flatMap_append]
  simp [h]
def thsW (p : Prg) (l : List (List ThkD)) (n : Nat) : List Int := (List.range n).flatMap (fun j => (l[j]?).elim [] (fun t => thkW p t t.length))
theorem thsW_succ {p : Prg} {l : List (List ThkD)} {n : Nat} {t : List ThkD} (h : l[n]? = some t) : thsW p l (n + 1) = thsW p l n ++ thkW p t t.length := by
  unfold thsW
  rw [List.range_succ, List.flatMap_append]
  simp [h]
/-- the words of a task's records -/
def recW (p : Prg) (l : LifeD) : List Int := thsW p l.thunks l.thunks.length ++ l.alarms.map AlmD.ptr
theorem funR_args_le {p : Prg} (hp : Tk.PSmall (tOf p)) (n : Int) : (funR p n).args.length ≤ 3000 := by
  unfold funR
  split
  · cases h : p.funcs[n.toNat]? with
    | none => simp [fun0]
    | some f =>
      obtain ⟨hj, he⟩ := List.getElem?_eq_some_iff.1 h
      have h1 := hp.2.2.2 (((tOf p).funcs)[n.toNat]'(by simpa [tOf] using hj)) (List.getElem_mem _)
      rw [tOf_fn p _ hj, he] at h1
      exact h1.1
  · simp [fun0]
theorem argW_len (p : Prg) (q : ThkD) : ∀ n, (argW p q n).length ≤ n
  | 0 => Nat.le_refl _
  | n + 1 => by
    have := argW_len p q n
    rw [argW_succ, List.length_append]
    split
    · cases q.args[n]? <;> simp <;> omega
    · simp; omega
theorem thkW_len {p : Prg} (hp : Tk.PSmall (tOf p)) (t : List ThkD) : ∀ n, (thkW p t n).length ≤ n * 3000
  | 0 => by simp [thkW]
  | n + 1 => by
    have := thkW_len hp t n
    cases h : t[n]? with
    | none =>
      have e : thkW p t (n + 1) = thkW p t n := by
        unfold thkW
        rw [List.range_succ, List.flatMap_append]
        simp [h]
      rw [e]; exact Nat.le_trans this (Nat.mul_le_mul_right _ (Nat.le_succ n))
    | some q =>
      rw [thkW_succ h, List.length_append]
      have h1 := argW_len p q (funR p q.fn).args.length
      have h2 := funR_args_le hp q.fn
      omega
theorem thsW_len {p : Prg} (hp : Tk.PSmall (tOf p)) {l : List (List ThkD)} (hl : ∀ t ∈ l, t.length ≤ 100) : ∀ n, (thsW p l n).length ≤ n * 300000
  | 0 => by simp [thsW]
  | n + 1 => by
    have := thsW_len hp hl n
    cases h : l[n]? with
    | none =>
      have e : thsW p l (n + 1) = thsW p l n := by
        unfold thsW
        rw [List.range_succ, List.flatMap_append]
        simp [h]
      rw [e]; exact Nat.le_trans this (Nat.mul_le_mul_right _ (Nat.le_succ n))
    | some t =>
      rw [thsW_succ h, List.length_append]
      have h1 := thkW_len hp t t.length
      have h2 := hl t (List.mem_of_getElem? h)
      omega
set_option maxRecDepth 100000 in
theorem field_fun0 (a b c d e : Value) : ∀ w, (Instr.field 31 (.agg #[a, b, c, d, e]) 0).run Tryz.prog w = .ok a w := fun w => by kernel_rfl
def RecPost (acc : List Int) (w : World) (e : Ending) (w' : World) : Prop := ∃ v L, e = .returned v ∧ Own intE w' w.heap.size v L ∧ Rising L ∧ (∀ x, x ∈ L ↔ (i64B x ∧ x ∈ acc ∧ x ≠ 0)) ∧ L.length ≤ acc.length ∧ Below w.heap.size w w'
set_option maxRecDepth 100000 in
set_option maxHeartbeats 3200000 in
theorem records_any (w : World) (D : Nat → Prop) (hD : ∀ k, D k → k < w.heap.size) (p : Prg) (c0 c1 c2 : Value) (hv : PrgVal w D p c0 c1 c2) (hp : Tk.PSmall (tOf p)) (hB : PrgB p) (l : LifeD) (a3 a4 a5 : Option Addr) (m3 m4 m5 : Nat) (hl : LifeVal w D l a3 m3 a4 m4 a5 m5) (hok : LifeOk p l) :
    Calls Tryz.prog 10 #[.agg #[c0, c1, c2], .agg (lifeA l a3 m3 a4 m4 a5 m5)] w (RecPost (recW p l) w) := by
  unfold lifeA recW RecPost
  obtain ⟨_, hth0, hal0⟩ := hl
  obtain ⟨_, _, _, _, hok5, hok6, hok7, hok8⟩ := hok
  have hPV : ∀ wr, Below w.heap.size w wr → PrgVal wr D p c0 c1 c2 := fun wr hb => hv.fr (Fr.of_below hb (fun _ => False)) (fun _ _ h => h)
  have hkB : ∀ n, ∀ k ∈ (funR p n).args, i64B k := fun n k hk => by
    unfold funR at hk
    split at hk
    · cases h : p.funcs[n.toNat]? with
      | none => rw [h] at hk; simp [fun0] at hk
      | some f => rw [h] at hk; exact (hB.2.2 f (List.mem_of_getElem? h)).1 k hk
    · simp [fun0] at hk
  have htl := thsW_len hp (fun t ht => (hok6 t ht).1)
  have hjl := fun t => thkW_len hp t
  have hal := fun n => funR_args_le hp n
  obtain ⟨⟨ga, gc, rfl, _⟩, ⟨a1, m1, rfl, _⟩, a2, m2, rfl, _⟩ := hv
  generalize hn0 : p.globals.length = n0 at *
  generalize hn1 : p.shapes.length = n1 at *
  generalize hn2 : p.funcs.length = n2 at *
  clear hn0 hn1 hn2 hp hB
  obtain ⟨lst, seg, wds, frs, ths, als, blk⟩ := l
  simp only at hth0 hal0 hok5 hok6 hok7 hok8 ⊢
  generalize frs.length = nf
  obtain ⟨A, hA⟩ : ∃ A, A = Obj.cells #[.slice ga n0 gc, .slice a1 n1 m1, .slice a2 n2 m2] 34 := ⟨_, rfl⟩
  obtain ⟨L, hL⟩ : ∃ L, L = Obj.cells #[.int .i64 lst, .int .i64 seg, .int .i64 wds, .slice a3 nf m3, .slice a4 ths.length m4, .slice a5 als.length m5, .bool blk] 46 := ⟨_, rfl⟩
  have hb0 := (Below.refl w.heap.size w).alloc (Nat.le_refl _) A
  have hb1 := hb0.alloc hb0.size L
  have hb2 := hb1.alloc hb1.size (.map #[] 0)
  have hz1 : (w.alloc A).heap.size = w.heap.size + 1 := by simp
  have hz2 : ((w.alloc A).alloc L).heap.size = w.heap.size + 2 := by simp
  have hmk := SeenL.made ((w.alloc A).alloc L)
  rw [hz2] at hmk
  have hr0 := row_allocR (row_allocR (heap_new w A) L) (.map #[] 0)
  have hr1 := row_allocR (heap_new (w.alloc A) L) (.map #[] 0)
  rw [hz1] at hr1
  have hmake : ∀ w, (Instr.makeMap 100 none).run Tryz.prog w = .ok (.map (some w.heap.size)) (w.alloc (.map #[] 0)) := fun w => run_makeMap _ w
  obtain ⟨W, hW⟩ : ∃ W, W = ((w.alloc A).alloc L).alloc (.map #[] 0) := ⟨_, rfl⟩
  rw [← hW] at hb2 hmk hr0 hr1
  rw [hA, hL] at hW
  have hWs : W.heap.size = w.heap.size + 3 := by rw [hW]; simp
  have hq : ∀ wr, Fr (fun q => q = w.heap.size + 2) W wr → (wr.cell? ⟨w.heap.size, 0, none⟩ = some (.slice ga n0 gc) ∧ wr.cell? ⟨w.heap.size, 1, none⟩ = some (.slice a1 n1 m1) ∧ wr.cell? ⟨w.heap.size, 2, none⟩ = some (.slice a2 n2 m2)) ∧ wr.cell? ⟨w.heap.size + 1, 4, none⟩ = some (.slice a4 ths.length m4) ∧ wr.cell? ⟨w.heap.size + 1, 5, none⟩ = some (.slice a5 als.length m5) := fun wr hf => by
    have h0 := hf.heap hr0 (by omega)
    have h1 := hf.heap hr1 (by omega)
    rw [hA] at h0
    rw [hL] at h1
    exact ⟨⟨(row_cell h0 0).1, (row_cell h0 1).1, (row_cell h0 2).1⟩, (row_cell h1 4).1, (row_cell h1 5).1⟩
  have hbel : ∀ wr, Fr (fun q => q = w.heap.size + 2) W wr → Below w.heap.size w wr := fun wr hf => hb2.trans (hf.below hb2.size (fun q hq => by omega))
  have hth1 := hth0.fr (Fr.of_below hb2 (fun _ => False)) (fun _ _ h => h)
  have hal1 := hal0.fr (Fr.of_below hb2 (fun _ => False)) (fun _ _ h => h)
  obtain ⟨_, k4, _⟩ := hq W (Fr.refl _ _)
  have HW := Lib.hid hW
  have HM := Lib.hid hmake
  have HTH := Lib.hid hth1
  have HAL := Lib.hid hal1
  have HQ := Lib.hid hq
  have HBL := Lib.hid hbel
  have HP := Lib.hid hPV
  have HOK := Lib.hid (And.intro hok5 (And.intro hok6 (And.intro hok7 hok8)))
  have HD := Lib.hid hD
  have HKB := Lib.hid hkB
  have HLE := Lib.hid (And.intro htl (And.intro hjl hal))
  have HMK := Lib.hid hmk
  have HWS := Lib.hid hWs
  have HPT := Lib.hid points_any
  have hDW : ∀ k, D k → k ≠ w.heap.size + 2 := fun k hk => by have := hD k hk; omega
  have HDW := Lib.hid hDW
  clear hW hmake hth0 hth1 hal0 hal1 hq hbel hPV hok5 hok6 hok7 hok8 hD hmk hWs hb0 hb1 hb2 hz1 hz2 hr0 hr1 hA hL hkB htl hjl hal hDW
  go_enter Tryz.func10, Tryz.ntmps10
  have hmake := HM.out
  go_upto_region 2 with fail
  clear hmake
  rw [← HW.out]
  go_wp2_with fail
  go_loopw [18] (fun i wr => ∃ d : Nat, d ≤ ths.length ∧ i = .int .i64 d ∧ SeenL wr (w.heap.size + 2) (thsW p ths d) ∧ Fr (fun q => q = w.heap.size + 2) W wr) (fun i _ => ths.length - (intOf i).toNat)
  case atStart => exact ⟨0, Nat.zero_le _, rfl, HMK.out, Fr.refl _ _⟩
  case round =>
    obtain ⟨d, hd, rfl, hS, hfr⟩ := hrel
    have hok5 := HOK.out.1
    clear k4
    by_cases hlt : d < ths.length
    · obtain ⟨t, hte⟩ : ∃ t, t = ths[d] := ⟨_, rfl⟩
      have htk : ths[d]? = some t := by rw [hte, List.getElem?_eq_getElem hlt]
      have htm : t ∈ ths := by rw [hte]; exact List.getElem_mem hlt
      have hto := HOK.out.2.1 t htm
      obtain ⟨g, o, rfl, hg, at', ct, hq0, htc⟩ := (HTH.out.fr hfr HDW.out) d hlt
      rw [← hte] at hq0 htc
      have HTO := Lib.hid hto
      have HTC := Lib.hid (show ∀ wz, Fr (fun q => q = w.heap.size + 2) wr wz → ThkSl wz D at' t from fun wz hf => htc.fr hf HDW.out)
      have HTS := Lib.hid (thsW_succ (p := p) htk)
      have HFR := Lib.hid hfr
      have HS := Lib.hid hS
      clear hte htk htm hto htc hfr hS
      go_wp2_with fail
      go_loopw [24] (fun i wz => ∃ j : Nat, j ≤ t.length ∧ i = .int .i64 j ∧ SeenL wz (w.heap.size + 2) (thsW p ths d ++ thkW p t j) ∧ Fr (fun q => q = w.heap.size + 2) wr wz) (fun i _ => t.length - (intOf i).toNat)
      case atStart => exact ⟨0, Nat.zero_le _, rfl, by rw [show thkW p t 0 = [] from rfl, List.append_nil]; exact HS.out, Fr.refl _ _⟩
      case round =>
        clear hq0
        obtain ⟨j, hj, rfl, hS2, hfr2⟩ := hrel
        have htlen := HTO.out.1
        by_cases hlt2 : j < t.length
        · obtain ⟨q, hqe⟩ : ∃ q, q = t[j] := ⟨_, rfl⟩
          have hqk : t[j]? = some q := by rw [hqe, List.getElem?_eq_getElem hlt2]
          have hqo := HTO.out.2 q (by rw [hqe]; exact List.getElem_mem hlt2)
          obtain ⟨g1, o1, rfl, hg1, at2, ct2, h0, h1, hsl⟩ := HTC.out wr hfr2 j hlt2
          rw [← hqe] at h0 h1 hsl
          have HQO := Lib.hid hqo
          have HTK := Lib.hid (thkW_succ (p := p) hqk)
          have hfw := HFR.out.trans hfr2 (fun _ _ h => h)
          have hzr : w.heap.size + 3 ≤ wr.heap.size := by have := hfw.size; have := HWS.out; omega
          obtain ⟨S, hS⟩ : ∃ S, S = Obj.cells #[.int .i64 q.fn, .slice at2 q.args.length ct2] 39 := ⟨_, rfl⟩
          have hab := (Below.refl wr.heap.size wr).alloc (Nat.le_refl _) S
          obtain ⟨wb, hwb⟩ : ∃ wb, wb = wr.alloc S := ⟨_, rfl⟩
          rw [← hwb] at hab
          have hrs : wb.heap[wr.heap.size]? = some S := by rw [hwb]; exact heap_new wr S
          have hfb : Fr (fun q => q = w.heap.size + 2) W wb := hfw.trans (Fr.of_below hab _) (fun _ _ h => h)
          have hfrb := hfr2.trans (Fr.of_below hab _) (fun _ _ h => h)
          have hSb := hS2.below hab
          have hslb := hsl.fr (Fr.of_below hab (fun _ => False)) (fun _ _ h => h)
          rw [hS] at hwb
          have hkk : ∀ wz, Fr (fun q => q = w.heap.size + 2) wb wz → (wz.cell? ⟨wr.heap.size, 0, none⟩ = some (.int .i64 q.fn) ∧ wz.cell? ⟨wr.heap.size, 1, none⟩ = some (.slice at2 q.args.length ct2)) ∧ IntSl wz D at2 q.args := fun wz hf => by
            have h := hf.heap hrs (by omega)
            rw [hS] at h
            exact ⟨⟨(row_cell h 0).1, (row_cell h 1).1⟩, hslb.fr hf HDW.out⟩
          have HWB := Lib.hid hwb
          have HFB := Lib.hid hfb
          have HFRB := Lib.hid hfrb
          have HSB := Lib.hid hSb
          have HKK := Lib.hid hkk
          clear hqe hqk hqo hsl hfw hzr hab hwb hrs hfb hfrb hSb hslb hS hkk hS2 hfr2
          go_upto_region 8 with fail
          rw [← HWB.out]
          clear HWB h0 h1
          obtain ⟨⟨k0, k1, k2⟩, _⟩ := HQ.out wb HFB.out
          obtain ⟨⟨k5, _⟩, _⟩ := HKK.out wb (Fr.refl _ _)
          have hbb := HBL.out wb HFB.out
          have fc := fnR_any wb D (fun k hk => Nat.lt_of_lt_of_le (HD.out k hk) hbb.size) p _ _ _ (HP.out wb hbb) q.fn
          unfold FnRPost at fc
          clear hbb
          have FC := Lib.hid fc
          clear fc
          go_wp2_with fail
          refine FC.out.mono ?_
          rintro e w5 ⟨d0, d3, d4, rfl, hfv, hb5⟩
          obtain ⟨_, _, ⟨y0, z0, rfl, hk0⟩, ⟨y3, z3, rfl, _⟩, y4, z4, rfl, _⟩ := hfv
          have HF5 := Lib.hid (show Fr (fun q => q = w.heap.size + 2) wb w5 from Fr.of_below hb5 _)
          have HS5 := Lib.hid (HSB.out.below hb5)
          have HK0 := Lib.hid hk0
          have hkb := HKB.out q.fn
          have hal := HLE.out.2.2 q.fn
          have HASU := Lib.hid (fun k => argW_succ p q k)
          clear hb5 k0 k1 k2 k5 FC hk0
          generalize hco : (funR p q.fn).code.length = co
          generalize hre : (funR p q.fn).result = re
          generalize hsl : (funR p q.fn).slots = sl
          generalize hob : (funR p q.fn).objects.length = ob
          clear hco hre hsl hob
          generalize (funR p q.fn).args = ks at *
          have HKB2 := Lib.hid hkb
          have HAL2 := Lib.hid hal
          clear hkb hal
          have hfd := field_fun0 (.slice y0 ks.length z0) (.int .i64 re) (.int .i64 sl) (.slice y3 ob z3) (.slice y4 co z4)
          go_wp2_with fail
          clear hfd
          go_loopw [34] (fun i wz => ∃ k : Nat, k ≤ ks.length ∧ i = .int .i64 k ∧ SeenL wz (w.heap.size + 2) (thsW p ths d ++ thkW p t j ++ argW p q k) ∧ Fr (fun q => q = w.heap.size + 2) w5 wz) (fun i _ => ks.length - (intOf i).toNat)
          case atStart => exact ⟨0, Nat.zero_le _, rfl, by rw [show argW p q 0 = [] from rfl, List.append_nil]; exact HS5.out, Fr.refl _ _⟩
          case round =>
            obtain ⟨k, hk, rfl, hS3, hfr3⟩ := hrel
            have hkl0 := HAL2.out
            have hfr4 := HF5.out.trans hfr3 (fun _ _ h => h)
            by_cases hlt3 : k < ks.length
            · obtain ⟨kd, hke⟩ : ∃ kd, kd = ks[k] := ⟨_, rfl⟩
              obtain ⟨gb, go, rfl, hgb, hgc⟩ := (HK0.out.fr hfr3 HDW.out) k hlt3
              rw [← hke] at hgc
              have pt := HPT.out wr kd (by rw [hke]; exact HKB2.out _ (List.getElem_mem hlt3))
              have hsu := HASU.out k
              rw [List.getElem?_eq_getElem hlt3, Option.getD_some, ← hke] at hsu
              obtain ⟨⟨k5, k6⟩, hsl⟩ := HKK.out wr hfr4
              clear hke
              have hlen : (thsW p ths d ++ thkW p t j ++ argW p q k).length ≤ 40000000 := by
                have e1 := HLE.out.1 d
                have e2 := HLE.out.2.1 t j
                have e3 := argW_len p q k
                have e4 := HOK.out.1
                have e5 := HTO.out.1
                rw [List.length_append, List.length_append]
                omega
              have HLEN := Lib.hid hlen
              have HFR3 := Lib.hid hfr3
              clear hlen hfr3 hfr4
              cases hp : ptrB kd with
              | false =>
                rw [hp] at pt
                rw [hp, if_neg (by simp), List.append_nil] at hsu
                rw [← hsu] at hS3
                have HS3 := Lib.hid hS3
                have PT := Lib.hid pt
                clear hS3 pt hp hsl hsu
                go_wp2_with fail
                refine PT.out.mono ?_
                rintro e w' ⟨rfl, rfl⟩
                go_wp2_with fail
                go_roundw
                case rel => exact ⟨k + 1, hlt3, by go_num, HS3.out, HFR3.out⟩
                case measure => simp [intOf]; omega
              | true =>
                rw [hp] at pt
                rw [hp, if_pos rfl] at hsu
                have PT := Lib.hid pt
                clear pt hp
                by_cases hkl2 : k < q.args.length
                · obtain ⟨x, hxe⟩ : ∃ x, x = q.args[k] := ⟨_, rfl⟩
                  obtain ⟨xb, xo, rfl, hxb, hxc⟩ := hsl k hkl2
                  rw [List.getElem?_eq_getElem hkl2, ← hxe] at hsu
                  rw [← hxe] at hxc
                  have hkl3 : (k : Int) < (q.args.length : Int) := by omega
                  have hba := (Below.refl wr.heap.size wr).alloc (Nat.le_refl _) (.cells #[.int .i64 x] 3)
                  have pu := putL_any _ (w.heap.size + 2) _ (hS3.below hba) (fun q => q = wr.heap.size) (fun q hq => by have := hS3.lt; omega) _ [x] 1 (one_int wr x) (fun y hy => by simp at hy; rw [hy, hxe]; exact HQO.out.2 _ (List.getElem_mem hkl2)) (by have := HLEN.out; simp only [List.length_singleton]; omega)
                  rw [List.append_assoc, show argW p q k ++ [x] = argW p q (k + 1) from hsu.symm] at pu
                  have PU := Lib.hid pu
                  have HFR4 := Lib.hid (HFR3.out.trans (Fr.of_below hba _) (fun _ _ h => h))
                  clear pu hba hS3 hsu hxe hsl
                  go_wp2_with fail
                  refine PT.out.mono ?_
                  rintro e w' ⟨rfl, rfl⟩
                  go_wp2_with fail
                  refine PU.out.mono ?_
                  rintro e w2 ⟨rfl, hs2, hf2⟩
                  have HS2 := Lib.hid hs2
                  have HF2 := Lib.hid (HFR4.out.trans hf2 (fun _ _ h => h))
                  clear hs2 hf2
                  go_wp2_with fail
                  go_roundw
                  case rel => exact ⟨k + 1, hlt3, by go_num, HS2.out, HF2.out⟩
                  case measure => simp [intOf]; omega
                · have hkl3 : ¬ (k : Int) < (q.args.length : Int) := by omega
                  rw [List.getElem?_eq_none (by omega)] at hsu
                  have hsu : argW p q (k + 1) = argW p q k := by rw [hsu]; simp
                  rw [← hsu] at hS3
                  have HS3 := Lib.hid hS3
                  clear hS3 hsu hsl
                  go_wp2_with fail
                  refine PT.out.mono ?_
                  rintro e w' ⟨rfl, rfl⟩
                  go_wp2_with fail
                  go_roundw
                  case rel => exact ⟨k + 1, hlt3, by go_num, HS3.out, HFR3.out⟩
                  case measure => simp [intOf]; omega
            · have hk' : k = ks.length := by omega
              subst hk'
              rw [List.append_assoc, ← HTK.out] at hS3
              have HS3 := Lib.hid hS3
              have HFR3 := Lib.hid (HFRB.out.trans hfr4 (fun _ _ h => h))
              clear hS3 hfr3 hfr4
              go_wp2_with fail
              go_roundw
              case rel => exact ⟨j + 1, hlt2, by go_num, HS3.out, HFR3.out⟩
              case measure => simp [intOf]; omega
        · have hj' : j = t.length := by omega
          subst hj'
          rw [← HTS.out] at hS2
          have HS2 := Lib.hid hS2
          have HFR2 := Lib.hid (HFR.out.trans hfr2 (fun _ _ h => h))
          clear hS2 hfr2
          go_wp2_with fail
          go_roundw
          case rel => exact ⟨d + 1, hlt, by go_num, HS2.out, HFR2.out⟩
          case measure => simp [intOf]; omega
    · have hk' : d = ths.length := by omega
      subst hk'
      obtain ⟨_, _, k5⟩ := HQ.out wr hfr
      have hbase := HLE.out.1 ths.length
      have HBA := Lib.hid hbase
      obtain ⟨T, hT⟩ : ∃ T, T = thsW p ths ths.length := ⟨_, rfl⟩
      rw [← hT] at hS hbase
      have HS := Lib.hid hS
      have HFR := Lib.hid hfr
      have HBA := Lib.hid hbase
      clear hS hfr hbase
      have HT := Lib.hid hT
      clear hT
      go_wp2_with fail
      clear k5
      go_loopw [62] (fun i wz => ∃ j : Nat, j ≤ als.length ∧ i = .int .i64 j ∧ SeenL wz (w.heap.size + 2) (T ++ (als.take j).map AlmD.ptr) ∧ Fr (fun q => q = w.heap.size + 2) W wz) (fun i _ => als.length - (intOf i).toNat)
      case atStart => exact ⟨0, Nat.zero_le _, rfl, by simpa using HS.out, HFR.out⟩
      case round =>
        obtain ⟨j, hj, rfl, hS2, hfr2⟩ := hrel
        have hal2 := HOK.out.2.2.1
        by_cases hlt2 : j < als.length
        · obtain ⟨q, hqe⟩ : ∃ q, q = als[j] := ⟨_, rfl⟩
          have hqk : als[j]? = some q := by rw [hqe, List.getElem?_eq_getElem hlt2]
          have hqo := HOK.out.2.2.2 q (by rw [hqe]; exact List.getElem_mem hlt2)
          obtain ⟨g1, o1, rfl, hg1, h0, h1, h2, h3, h4⟩ := (HAL.out.fr hfr2 HDW.out) j hlt2
          rw [← hqe] at h0 h1 h2 h3 h4
          have hsu : (als.take (j + 1)).map AlmD.ptr = (als.take j).map AlmD.ptr ++ [q.ptr] := by rw [List.take_add_one, hqk]; simp
          obtain ⟨S, hS⟩ : ∃ S, S = Obj.cells #[.int .i64 q.code, .int .i64 q.ptr, .int .i64 q.run, .bool q.exit, .bool q.recovered] 43 := ⟨_, rfl⟩
          have hab := (Below.refl wr.heap.size wr).alloc (Nat.le_refl _) S
          obtain ⟨wb, hwb⟩ : ∃ wb, wb = wr.alloc S := ⟨_, rfl⟩
          rw [← hwb] at hab
          have hrs : wb.heap[wr.heap.size]? = some S := by rw [hwb]; exact heap_new wr S
          rw [hS] at hwb hrs
          have k6 : wb.cell? ⟨wr.heap.size, 1, none⟩ = some (.int .i64 q.ptr) := (row_cell hrs 1).1
          have hba := (Below.refl wb.heap.size wb).alloc (Nat.le_refl _) (.cells #[.int .i64 q.ptr] 3)
          have pu := putL_any _ (w.heap.size + 2) _ ((hS2.below hab).below hba) (fun q => q = wb.heap.size) (fun q hq => by have := hS2.lt; have := hab.size; omega) _ [q.ptr] 1 (one_int wb q.ptr) (fun y hy => by simp at hy; rw [hy]; exact hqo) (by have := HBA.out; rw [List.length_append, List.length_map, List.length_take, List.length_singleton]; omega)
          rw [List.append_assoc, ← hsu] at pu
          have PU := Lib.hid pu
          have HFR4 := Lib.hid ((hfr2.trans (Fr.of_below hab _) (fun _ _ h => h)).trans (Fr.of_below hba _) (fun _ _ h => h))
          have HWB := Lib.hid hwb
          clear hqe hqk hqo hsu hS hab hwb hrs hba pu hS2 hfr2
          have K6 := Lib.hid k6
          clear k6
          go_upto_region 19 with fail
          rw [← HWB.out]
          have k6 := K6.out
          clear h0 h1 h2 h3 h4
          go_wp2_with fail
          refine PU.out.mono ?_
          rintro e w2 ⟨rfl, hs2, hf2⟩
          have HS2 := Lib.hid hs2
          have HF2 := Lib.hid (HFR4.out.trans hf2 (fun _ _ h => h))
          clear hs2 hf2 k6
          go_wp2_with fail
          go_roundw
          case rel => exact ⟨j + 1, hlt2, by go_num, HS2.out, HF2.out⟩
          case measure => simp [intOf]; omega
        · have hj' : j = als.length := by omega
          subst hj'
          rw [List.take_length] at hS2
          have al := all_any wr _ _ _ hS2 (by have := HBA.out; rw [List.length_append, List.length_map]; omega)
          have hbe := HBL.out wr hfr2
          have AL := Lib.hid al
          have HBE := Lib.hid hbe
          clear hS2 hfr2 al hbe
          go_wp2_with fail
          refine AL.out.mono ?_
          rintro e w2 ⟨v, L, rfl, ho, hr, hm, hle, _, hb⟩
          have HE := Lib.hid (HBE.out.trans (hb.mono HBE.out.size))
          have HO := Lib.hid (ho.base (B' := w.heap.size) (fun q hq => by have := (ho.lt hq).1; have := HBE.out.size; omega))
          have HR := Lib.hid (And.intro hr (And.intro hm hle))
          clear ho hb hr hm hle
          go_wp2_with fail
          go_ret
          have hr := HR.out
          rw [HT.out] at hr
          exact ⟨v, L, rfl, HO.out, hr.1, hr.2.1, hr.2.2, HE.out⟩
end Go.Proofs.YtknbllbhakpaaaaGreat
namespace Go.Proofs.YtknbllbhakpaaaaGreat
open Go.ChangeShapes Go.WideShapes Go.ChangeAt Go.RowKit Go.Maps
set_option maxRecDepth 100000 in
set_option maxHeartbeats 1600000 in
theorem shpP_any (w : World) (D : Nat → Prop) (a : Option Addr) (l : List Int) (c : Nat) (hl : IntSl w D a l) (hlen : l.length ≤ 1000000) :
    Calls Tryz.prog 127 #[.agg #[.slice a l.length c]] w fun e w' => e = .returned (.int .u16 (bitsP isPtrB l (min l.length 16) : Nat)) ∧ Below w.heap.size w w' := by
  have hb0 := (Below.refl w.heap.size w).alloc (Nat.le_refl _) (.cells #[.slice a l.length c] 25)
  have hr0 := heap_new w (.cells #[.slice a l.length c] 25)
  obtain ⟨W, hW⟩ : ∃ W, W = w.alloc (.cells #[.slice a l.length c] 25) := ⟨_, rfl⟩
  rw [← hW] at hb0 hr0
  have k0 : W.cell? ⟨w.heap.size, 0, none⟩ = some (.slice a l.length c) := (row_cell hr0 0).1
  have hl1 := hl.fr (Fr.of_below hb0 (fun _ => False)) (fun _ _ h => h)
  have HW := Lib.hid hW
  have HS := Lib.hid hl1
  have HB := Lib.hid hb0
  have HN := Lib.hid hlen
  clear hW hr0 hl hl1 hb0 hlen
  go_enter Tryz.func127, Tryz.ntmps127
  go_upto_region 1 with fail
  rw [← HW.out]
  go_wp2_with fail
  go_loopw [3, 11] (fun o i wr => ∃ k : Nat, k ≤ l.length ∧ i = .int .i64 k ∧ o = .int .u16 (bitsP isPtrB l (min k 16) : Nat) ∧ Below W.heap.size W wr) (fun _ i _ => l.length - (intOf i).toNat)
  case atStart => exact ⟨0, Nat.zero_le _, rfl, rfl, Below.refl _ _⟩
  case round =>
    clear k0
    obtain ⟨k, hk, rfl, rfl, hbr⟩ := hrel
    have hlen := HN.out
    by_cases hlt : k < l.length
    case neg =>
      have hk' : k = l.length := by omega
      subst hk'
      have HBE := Lib.hid (HB.out.trans (hbr.mono HB.out.size))
      clear hbr
      obtain ⟨x, hx⟩ : ∃ x, x = bitsP isPtrB l (min l.length 16) := ⟨_, rfl⟩
      have HXX := Lib.hid hx
      rw [← hx]
      clear hx
      go_wp2_with fail
      go_ret
      exact ⟨(congrArg (fun n : Nat => Ending.returned (Value.int IntKind.u16 (n : Int))) HXX.out), HBE.out⟩
    obtain ⟨b, o, rfl, _, c1⟩ := HS.out k hlt
    replace c1 := below_cell hbr c1
    have hx := bitsP_lt isPtrB l (min k 16)
    have hx2 : bitsP isPtrB l (min k 16) < 65536 := Nat.lt_of_lt_of_le hx (Nat.pow_le_pow_right (n := 2) (by decide) (Nat.min_le_right _ _))
    have i1 : IntKind.i64.wrap ((k : Int) + 1) = (k : Int) + 1 := IntWalk.i64_in _ (by omega)
    have pt := pointsX_any wr l[k]
    have HBR := Lib.hid hbr
    have hkl2 : (k : Int) < (l.length : Int) := by omega
    by_cases h16 : k < 16
    · have h16' : (k : Int) < 16 := by omega
      have hmin : min k 16 = k := by omega
      have hmin2 : min (k + 1) 16 = k + 1 := by omega
      rw [hmin] at hx ⊢
      have hor := or_bit hx (by omega)
      have hsucc : bitsP isPtrB l (min (k + 1) 16) = bitsP isPtrB l k + if isPtrB l[k] then 2 ^ k else 0 := by
        rw [hmin2]
        show bitsP isPtrB l k + _ = _
        simp [hlt]
      clear hx2 hmin hmin2
      generalize l[k] = y at *
      generalize bitsP isPtrB l k = x at *
      have PT := Lib.hid pt
      have HSU := Lib.hid hsucc
      have HOR := Lib.hid hor
      clear pt hsucc hor hbr hx
      have HLT := Lib.hid hlt
      go_wp2_with fail
      refine PT.out.mono ?_
      cases hB : isPtrB y
      · rintro e w2 ⟨rfl, rfl⟩
        have HSB := Lib.hid (show bitsP isPtrB l (min (k + 1) 16) = x from by rw [HSU.out, hB]; simp)
        clear hB
        go_wp2_with fail
        go_roundw
        case rel => exact ⟨k + 1, HLT.out, by go_num, by rw [HSB.out], HBR.out⟩
        case measure => simp [intOf]; omega
      · rintro e w2 ⟨rfl, rfl⟩
        have HSB := Lib.hid (show bitsP isPtrB l (min (k + 1) 16) = x + 2 ^ k from by rw [HSU.out, hB]; simp)
        clear hB
        go_wp2_with fail
        go_roundw
        case rel => exact ⟨k + 1, HLT.out, by go_num, by rw [HSB.out, HOR.out], HBR.out⟩
        case measure => simp [intOf]; omega
    · have h16' : ¬ (k : Int) < 16 := by omega
      have hmin : min (k + 1) 16 = min k 16 := by omega
      generalize l[k] = y at *
      generalize hxx : bitsP isPtrB l (min k 16) = x at *
      have PT := Lib.hid pt
      have HSB := Lib.hid (show bitsP isPtrB l (min (k + 1) 16) = x from by rw [hmin, hxx])
      clear pt hbr hx hx2 hmin hxx
      have HLT := Lib.hid hlt
      go_wp2_with fail
      refine PT.out.mono ?_
      cases hB : isPtrB y
      · rintro e w2 ⟨rfl, rfl⟩
        clear hB
        go_wp2_with fail
        go_roundw
        case rel => exact ⟨k + 1, HLT.out, by go_num, by rw [HSB.out], HBR.out⟩
        case measure => simp [intOf]; omega
      · rintro e w2 ⟨rfl, rfl⟩
        clear hB
        go_wp2_with fail
        go_roundw
        case rel => exact ⟨k + 1, HLT.out, by go_num, by rw [HSB.out], HBR.out⟩
        case measure => simp [intOf]; omega
end Go.Proofs.YtknbllbhakpaaaaGreat
