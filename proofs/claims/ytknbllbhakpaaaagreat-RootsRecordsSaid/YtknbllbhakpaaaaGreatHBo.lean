/- Walk: roots.scan: the words that a task has. -/
import Derived.Test.YtknbllbhakpaaaaGreatHBn
set_option linter.unusedVariables false
set_option linter.unusedSimpArgs false
namespace Go.Proofs.YtknbllbhakpaaaaGreat
open Go.ChangeShapes Go.WideShapes Go.ChangeAt Go.RowKit Go.Maps
set_option maxRecDepth 100000 in
theorem field_fun1 (a b c d e : Value) : ∀ w, (Instr.field 31 (.agg #[a, b, c, d, e]) 1).run Tryz.prog w = .ok b w := fun w => by kernel_rfl
set_option maxRecDepth 100000 in
set_option maxHeartbeats 6400000 in
theorem scan_no (w : World) (D : Nat → Prop) (hD : ∀ k, D k → k < w.heap.size) (p : Prg) (c0 c1 c2 : Value) (hv : PrgVal w D p c0 c1 c2) (hp : Tk.PSmall (tOf p)) (hB : PrgB p) (hsl0 : ∀ n, 0 ≤ (funR p n).slots) (l : LifeD) (a3 a4 a5 : Option Addr) (m3 m4 m5 : Nat) (hl : LifeVal w D l a3 m3 a4 m4 a5 m5) (hok : LifeOk p l)
    (B mb b0 nm : Nat) (V : Nat → Prop) (C : Pl → Option (List Int)) (hm : MapsAt w B mb b0 nm V C) (hCl : ∀ x K, C x = some K → K.length ≤ 16) :
    Calls Tryz.prog 38 #[.agg #[c0, c1, c2], .pointer (some ⟨mb, 0, none⟩), .agg (lifeA l a3 m3 a4 m4 a5 m5), .bool false] w (ScanPost p C l false w) := by
  have hfr0 := hl.1
  have hPV : ∀ wr, Below w.heap.size w wr → PrgVal wr D p c0 c1 c2 := fun wr hb => hv.fr (Fr.of_below hb (fun _ => False)) (fun _ _ h => h)
  have hDb : ∀ wr, Below w.heap.size w wr → ∀ k, D k → k < wr.heap.size := fun wr hb k hk => Nat.lt_of_lt_of_le (hD k hk) hb.size
  have hlc : ∀ wr, Below w.heap.size w wr → Calls Tryz.prog 40 #[.agg #[c0, c1, c2], .pointer (some ⟨mb, 0, none⟩), .agg (lifeA l a3 m3 a4 m4 a5 m5)] wr (LivePost p C l wr) := fun wr hb => live_any wr D (hDb wr hb) p c0 c1 c2 (hPV wr hb) hp l a3 a4 a5 m3 m4 m5 (hl.below hb) hok B mb b0 nm V C (hm.below hb) hCl
  have hrc : ∀ wr, Below w.heap.size w wr → Calls Tryz.prog 10 #[.agg #[c0, c1, c2], .agg (lifeA l a3 m3 a4 m4 a5 m5)] wr (RecPost (recW p l) wr) := fun wr hb => records_any wr D (hDb wr hb) p c0 c1 c2 (hPV wr hb) hp hB l a3 a4 a5 m3 m4 m5 (hl.below hb) hok
  have hfc : ∀ wr, Below w.heap.size w wr → ∀ (s : SpotD), s ∈ l.frames → ∀ (a7 a8 : Option Addr) (c7 c8 : Nat), IntSl wr D a8 s.objects → ∀ (k : Nat), k < (funR p s.fn).objects.length → 0 < (Tk.objO (tOf p) (tfn p s.fn) k).2 → Calls Tryz.prog 87 #[.agg #[c0, c1, c2], .agg (spotA s a7 c7 a8 c8), .int .i64 k] wr fun e w' => ∃ v, e = .returned v ∧ Own intE w' wr.heap.size v (fldS p s k) ∧ Below wr.heap.size wr w' := fun wr hb s hs a7 a8 c7 c8 h8 k hk hpos => fields_any wr D (hDb wr hb) p c0 c1 c2 (hPV wr hb) hp s (hok.1 s hs) a7 a8 c7 c8 h8 k hk (hsl0 _) hpos
  have hrB : ∀ n, i64B (funR p n).result := fun n => by
    unfold funR
    split
    · cases h : p.funcs[n.toNat]? with
      | none => simp [fun0, i64B]
      | some f => exact (hB.2.2 f (List.mem_of_getElem? h)).2.1
    · simp [fun0, i64B]
  have hrl : (recW p l).length ≤ 31000000 := by
    unfold recW
    rw [List.length_append, List.length_map]
    have h1 := thsW_len hp (fun t ht => (hok.2.2.2.2.2.1 t ht).1) l.thunks.length
    have h2 := hok.2.2.2.2.1
    have h3 := hok.2.2.2.2.2.2.1
    omega
  obtain ⟨⟨ga, gc, rfl, _⟩, ⟨a1, m1, rfl, _⟩, a2, m2, rfl, _⟩ := hv
  unfold ScanPost
  unfold LivePost at hlc
  generalize recW p l = RW at *
  have hn3 : p.funcs.length ≤ 3000 := by have := hp.2.1; simpa [tOf] using this
  have hok1 := hok.1
  have hfl := hok.2.2.2.1
  clear hok hl hp hB hsl0 hDb
  unfold lifeA at *
  obtain ⟨lst, seg, wds, frs, ths, als, blk⟩ := l
  simp only at hfr0 hok1 hfl hlc hrc hfc ⊢
  obtain ⟨AD, hAD⟩ : ∃ AD, AD = addrL p seg frs frs.length := ⟨_, rfl⟩
  have hadm : ∀ y, Fnd C AD frs frs.length 0 y → ∃ s, frs[y.1]? = some s ∧ y.2 < (funR p s.fn).objects.length ∧ 0 < (Tk.objO (tOf p) (tfn p s.fn) y.2).2 := fun y h => by
    rw [hAD] at h
    obtain ⟨i, s, v, _, h2, _⟩ := h
    obtain ⟨t, h3, h4, h5, _, h6⟩ := addrL_mem (mapOf_mem h2)
    exact ⟨t, h4, h5, h6⟩
  rw [← hAD] at hlc ⊢
  clear hAD
  generalize ths.length = nt at *
  generalize als.length = na at *
  generalize hn0 : p.globals.length = n0 at *
  generalize hn1 : p.shapes.length = n1 at *
  generalize hn2 : p.funcs.length = n2 at *
  clear hn0 hn1
  obtain ⟨A, hA⟩ : ∃ A, A = Obj.cells #[.slice ga n0 gc, .slice a1 n1 m1, .slice a2 n2 m2] 34 := ⟨_, rfl⟩
  obtain ⟨L, hL⟩ : ∃ L, L = Obj.cells #[.int .i64 lst, .int .i64 seg, .int .i64 wds, .slice a3 frs.length m3, .slice a4 nt m4, .slice a5 na m5, .bool blk] 46 := ⟨_, rfl⟩
  have hb0 := (Below.refl w.heap.size w).alloc (Nat.le_refl _) A
  have hb1 := hb0.alloc hb0.size L
  have hb2 := hb1.alloc hb1.size (.map #[] 0)
  have hz1 : (w.alloc A).heap.size = w.heap.size + 1 := by simp
  have hz2 : ((w.alloc A).alloc L).heap.size = w.heap.size + 2 := by simp
  have hmk := SeenM.made ((w.alloc A).alloc L)
  rw [hz2] at hmk
  have hr0 := row_allocR (row_allocR (heap_new w A) L) (.map #[] 0)
  have hr1 := row_allocR (heap_new (w.alloc A) L) (.map #[] 0)
  rw [hz1] at hr1
  have hmake : ∀ w, (Instr.makeMap 100 none).run Tryz.prog w = .ok (.map (some w.heap.size)) (w.alloc (.map #[] 0)) := fun w => run_makeMap _ w
  obtain ⟨W, hW⟩ : ∃ W, W = ((w.alloc A).alloc L).alloc (.map #[] 0) := ⟨_, rfl⟩
  rw [← hW] at hb2 hmk hr0 hr1
  rw [hA, hL] at hW
  have hWs : W.heap.size = w.heap.size + 3 := by rw [hW]; simp
  have hq : ∀ wr, Fr (fun q => q = w.heap.size + 2) W wr → (wr.cell? ⟨w.heap.size, 0, none⟩ = some (.slice ga n0 gc) ∧ wr.cell? ⟨w.heap.size, 1, none⟩ = some (.slice a1 n1 m1) ∧ wr.cell? ⟨w.heap.size, 2, none⟩ = some (.slice a2 n2 m2)) ∧ wr.cell? ⟨w.heap.size + 1, 0, none⟩ = some (.int .i64 lst) ∧ wr.cell? ⟨w.heap.size + 1, 1, none⟩ = some (.int .i64 seg) ∧ wr.cell? ⟨w.heap.size + 1, 2, none⟩ = some (.int .i64 wds) ∧ wr.cell? ⟨w.heap.size + 1, 3, none⟩ = some (.slice a3 frs.length m3) ∧ wr.cell? ⟨w.heap.size + 1, 4, none⟩ = some (.slice a4 nt m4) ∧ wr.cell? ⟨w.heap.size + 1, 5, none⟩ = some (.slice a5 na m5) ∧ wr.cell? ⟨w.heap.size + 1, 6, none⟩ = some (.bool blk) := fun wr hf => by
    have h0 := hf.heap hr0 (by omega)
    have h1 := hf.heap hr1 (by omega)
    rw [hA] at h0
    rw [hL] at h1
    exact ⟨⟨(row_cell h0 0).1, (row_cell h0 1).1, (row_cell h0 2).1⟩, (row_cell h1 0).1, (row_cell h1 1).1, (row_cell h1 2).1, (row_cell h1 3).1, (row_cell h1 4).1, (row_cell h1 5).1, (row_cell h1 6).1⟩
  have hbel : ∀ wr, Fr (fun q => q = w.heap.size + 2) W wr → Below w.heap.size w wr := fun wr hf => hb2.trans (hf.below hb2.size (fun q hq => by omega))
  have hfr1 := hfr0.fr (Fr.of_below hb2 (fun _ => False)) (fun _ _ h => h)
  obtain ⟨_, _, _, _, k3, _⟩ := hq W (Fr.refl _ _)
  have HW := Lib.hid hW
  have HM := Lib.hid hmake
  have HF := Lib.hid hfr1
  have HQ := Lib.hid hq
  have HBL := Lib.hid hbel
  have HP := Lib.hid hPV
  have HOK := Lib.hid hok1
  have HFL := Lib.hid hfl
  have HD := Lib.hid hD
  have HMA := Lib.hid (fun wr hb => hm.below (w' := wr) hb)
  have HMK := Lib.hid hmk
  have HWS := Lib.hid hWs
  have HN2 := Lib.hid hn2
  have HN3 := Lib.hid hn3
  have HCL := Lib.hid hCl
  have HLC := Lib.hid hlc
  have HRC := Lib.hid hrc
  have HFC0 := Lib.hid hfc
  have HRB := Lib.hid hrB
  have HRL := Lib.hid hrl
  have HADM := Lib.hid hadm
  have HPT := Lib.hid points_any
  have hDW : ∀ k, D k → k ≠ w.heap.size + 2 := fun k hk => by have := hD k hk; omega
  have HDW := Lib.hid hDW
  clear hW hmake hfr0 hfr1 hq hbel hPV hok1 hfl hD hm hmk hWs hb0 hb1 hb2 hz1 hz2 hr0 hr1 hA hL hn2 hn3 hCl hlc hrc hfc hrB hrl hadm hDW
  have itop : IntKind.i64.wrap ((frs.length : Int) - 1) = (frs.length : Int) - 1 := IntWalk.i64_in _ (by have := HFL.out; omega)
  go_enter Tryz.func38, Tryz.ntmps38
  have hmake := HM.out
  go_upto_region 2 with fail
  clear hmake
  rw [← HW.out]
  go_wp2_with fail
  clear itop k3
  go_loopw [23] (fun i wr => ∃ d : Nat, d ≤ frs.length ∧ i = .int .i64 d ∧ SeenM wr (w.heap.size + 2) (d * 110000) (frsW p C false frs d) ∧ Fr (fun q => q = w.heap.size + 2) W wr) (fun i _ => frs.length - (intOf i).toNat)
  case atStart => exact ⟨0, Nat.zero_le _, rfl, HMK.out, Fr.refl _ _⟩
  case round =>
    obtain ⟨d, hd, rfl, hS, hfr⟩ := hrel
    have hfl := HFL.out
    by_cases hlt : d < frs.length
    · obtain ⟨s, hse⟩ : ∃ s, s = frs[d] := ⟨_, rfl⟩
      have hsk : frs[d]? = some s := by rw [hse, List.getElem?_eq_getElem hlt]
      have hso := HOK.out s (by rw [hse]; exact List.getElem_mem hlt)
      obtain ⟨g, o, rfl, hg, hsp⟩ := (HF.out.fr hfr HDW.out) d hlt
      rw [← hse] at hsp
      obtain ⟨a7, e7, a8, e8, ⟨q0, q1, q2, q3, q4, q5, q6, q7, q8⟩, hsl7, hsl8⟩ := hsp
      have HSO := Lib.hid hso
      obtain ⟨hs1, hs2, hs3, hs4, hs5, hs6, hs7, hs8, hs9, hs10⟩ := hso
      have hn2 := HN2.out
      have hI : i64B s.fn ∧ i64B s.pc := ⟨by unfold i64B; have := HN3.out; omega, hs5⟩
      have hkd : (C ⟨(s.fn, s.pc), hI⟩).getD [] = kdsR C s.fn s.pc := by unfold kdsR; rw [dif_pos hI]
      have hkl : (kdsR C s.fn s.pc).length ≤ 16 := by
        rw [← hkd]
        cases hc : C ⟨(s.fn, s.pc), hI⟩ with
        | none => simp
        | some K => exact HCL.out _ K hc
      have hbs : bitsP isPtrB (kdsR C s.fn s.pc) (kdsR C s.fn s.pc).length < 65536 := Nat.lt_of_lt_of_le (bitsP_lt _ _ _) (Nat.pow_le_pow_right (n := 2) (by decide) hkl)
      have hpl : (ptrS C s).length ≤ 3000 := Nat.le_trans (selL_len _ _ _) hs7
      have hpb : ∀ x ∈ ptrS C s, i64B x := fun x hx => by
        obtain ⟨q, _, _, _, h⟩ := selL_mem.1 hx
        exact hs9 x (List.mem_of_getElem? h)
      have hge : ¬ ((n2 : Int) ≤ s.fn) := by omega
      have hge0 : ¬ (s.fn < 0) := by omega
      obtain ⟨S, hS0⟩ : ∃ S, S = Obj.cells #[.int .i64 s.fn, .int .i64 s.pc, .int .i64 s.base, .bool s.leaving, .bool s.defers, .int .i64 s.value, .bool s.has, .slice a7 s.slots.length e7, .slice a8 s.objects.length e8] 36 := ⟨_, rfl⟩
      have hab := (Below.refl wr.heap.size wr).alloc (Nat.le_refl _) S
      obtain ⟨wb, hwb⟩ : ∃ wb, wb = wr.alloc S := ⟨_, rfl⟩
      rw [← hwb] at hab
      have hrs : wb.heap[wr.heap.size]? = some S := by rw [hwb]; exact heap_new wr S
      have hfb : Fr (fun q => q = w.heap.size + 2) W wb := hfr.trans (Fr.of_below hab _) (fun _ _ h => h)
      have hSb := hS.below hab
      have hl7 := hsl7.fr (Fr.of_below hab (fun _ => False)) (fun _ _ h => h)
      have hl8 := hsl8.fr (Fr.of_below hab (fun _ => False)) (fun _ _ h => h)
      have hzr : w.heap.size + 3 ≤ wr.heap.size := by have := hfr.size; have := HWS.out; omega
      rw [hS0] at hwb hrs
      have hkk : ∀ wz, Fr (fun q => q = w.heap.size + 2) wb wz → (wz.cell? ⟨wr.heap.size, 0, none⟩ = some (.int .i64 s.fn) ∧ wz.cell? ⟨wr.heap.size, 1, none⟩ = some (.int .i64 s.pc) ∧ wz.cell? ⟨wr.heap.size, 2, none⟩ = some (.int .i64 s.base) ∧ wz.cell? ⟨wr.heap.size, 3, none⟩ = some (.bool s.leaving) ∧ wz.cell? ⟨wr.heap.size, 4, none⟩ = some (.bool s.defers) ∧ wz.cell? ⟨wr.heap.size, 5, none⟩ = some (.int .i64 s.value) ∧ wz.cell? ⟨wr.heap.size, 6, none⟩ = some (.bool s.has) ∧ wz.cell? ⟨wr.heap.size, 7, none⟩ = some (.slice a7 s.slots.length e7) ∧ wz.cell? ⟨wr.heap.size, 8, none⟩ = some (.slice a8 s.objects.length e8)) ∧ IntSl wz D a7 s.slots ∧ IntSl wz D a8 s.objects := fun wz hf => by
        have h := hf.heap hrs (by omega)
        exact ⟨⟨(row_cell h 0).1, (row_cell h 1).1, (row_cell h 2).1, (row_cell h 3).1, (row_cell h 4).1, (row_cell h 5).1, (row_cell h 6).1, (row_cell h 7).1, (row_cell h 8).1⟩, hl7.fr hf HDW.out, hl8.fr hf HDW.out⟩
      have hpc : ∀ wx, Fr (fun q => q = w.heap.size + 2) wb wx → Calls Tryz.prog 86 #[.pointer (some ⟨mb, 0, none⟩), .int .i64 s.fn, .int .i64 s.pc] wx fun e w' => e = .returned (.int .u16 (bitsP isPtrB (kdsR C s.fn s.pc) (kdsR C s.fn s.pc).length : Nat)) ∧ Below wx.heap.size wx w' := fun wx hx => by
        have h := mpointers_any wx B mb b0 nm V C (HMA.out wx (HBL.out wx (hfb.trans hx (fun _ _ h => h)))) s.fn s.pc hI HCL.out
        rw [hkd] at h
        exact h
      have hsc : ∀ wx, IntSl wx D a7 s.slots → w.heap.size ≤ wx.heap.size → Calls Tryz.prog 85 #[.agg #[.int .i64 s.fn, .int .i64 s.pc, .int .i64 s.base, .bool s.leaving, .bool s.defers, .int .i64 s.value, .bool s.has, .slice a7 s.slots.length e7, .slice a8 s.objects.length e8], .int .u16 (bitsP isPtrB (kdsR C s.fn s.pc) (kdsR C s.fn s.pc).length : Nat)] wx fun e w' => ∃ v, e = .returned v ∧ Own intE w' wx.heap.size v (ptrS C s) ∧ Below wx.heap.size wx w' := fun wx hx hz => slotsR_any wx D (fun k hk => by have := HD.out k hk; omega) s a7 a8 e7 e8 hx (by omega) _ hbs
      have hwc : ∀ wx, Fr (fun q => q = w.heap.size + 2) wb wx → ∀ N acc, SeenM wx (w.heap.size + 2) N acc → N ≤ 30000000 → Calls Tryz.prog 84 #[.map (some (w.heap.size + 2)), .slice a7 s.slots.length e7] wx fun e w' => e = .returned (.tuple #[]) ∧ SeenM w' (w.heap.size + 2) (N + s.slots.length) (acc ++ s.slots.filter heapB) ∧ Fr (fun k => k = w.heap.size + 2) wx w' := fun wx hx N acc h hn => wideM_any wx _ N acc h D HDW.out a7 s.slots e7 (hkk wx hx).2.1 hs9 (by omega)
      have hwo : ∀ wx, Fr (fun q => q = w.heap.size + 2) wb wx → ∀ N acc, SeenM wx (w.heap.size + 2) N acc → N ≤ 30000000 → Calls Tryz.prog 84 #[.map (some (w.heap.size + 2)), .slice a8 s.objects.length e8] wx fun e w' => e = .returned (.tuple #[]) ∧ SeenM w' (w.heap.size + 2) (N + s.objects.length) (acc ++ s.objects.filter heapB) ∧ Fr (fun k => k = w.heap.size + 2) wx w' := fun wx hx N acc h hn => wideM_any wx _ N acc h D HDW.out a8 s.objects e8 (hkk wx hx).2.2 hs10 (by omega)
      have HFRS := Lib.hid (frsW_succ (p := p) (C := C) (cf := false) hsk)
      have HWB := Lib.hid hwb
      have HPC := Lib.hid hpc
      have HSC := Lib.hid hsc
      have HWC := Lib.hid hwc
      have HWO := Lib.hid hwo
      have HFB := Lib.hid hfb
      have HSB := Lib.hid hSb
      have HKK := Lib.hid hkk
      have HPL := Lib.hid hpl
      have HPB := Lib.hid hpb
      have HLN := Lib.hid (And.intro hs7 hs8)
      have HSZ := Lib.hid (show w.heap.size + 3 ≤ wb.heap.size by have := hab.size; omega)
      have hcw : carW false frs.length d s = if false = true ∧ d + 1 = frs.length then s.slots.filter heapB ++ s.objects.filter heapB else [] := rfl
      have HCW := Lib.hid hcw
      clear hse hsk hs1 hs2 hs3 hs4 hs5 hs6 hs7 hs8 hs9 hs10 hkd hkl hbs hpl hpb hrs hfb hSb hl7 hl8 hzr hwb hkk hpc hsc hwc hwo hS0 hab hS hfr hsl7 hsl8 hcw hn2
      go_upto_region 6 with fail
      rw [← HWB.out]
      clear HWB q0 q1 q2 q3 q4 q5 q6 q7 q8
      obtain ⟨⟨t0, t1, t2, t3, t4, t5, t6, t7, t8⟩, _, _⟩ := HKK.out wb (Fr.refl _ _)
      obtain ⟨⟨k0, k1, k2⟩, _⟩ := HQ.out wb HFB.out
      obtain ⟨wd, hwd⟩ : ∃ wd, wd = wb := ⟨_, rfl⟩
      have HSD := Lib.hid (show SeenM wd (w.heap.size + 2) (d * 110000 + 103000) (frsW p C false frs d ++ carW false frs.length d s) from by rw [HCW.out, if_neg (by simp), List.append_nil, hwd]; exact HSB.out.le (by omega))
      have HFD := Lib.hid (show Fr (fun q => q = w.heap.size + 2) wb wd by rw [hwd]; exact Fr.refl _ _)
      have HWD := Lib.hid hwd
      clear hwd
      go_upto_region 10 with fail
      rw [← HWD.out]
      clear t0 t1 t2 t3 t4 t5 t6 t7 t8 k0 k1 k2 hge hge0
      obtain ⟨F, hFF⟩ : ∃ F : Nat → Prop, F = fun q => q = w.heap.size + 2 := ⟨_, rfl⟩
      have hk9 : ∀ wx, Fr F wd wx → _ := fun wx hf => (HKK.out wx (HFD.out.trans (by rw [hFF] at hf; exact hf) (fun _ _ h => h))).1
      have HK9 := Lib.hid hk9
      have HFF := Lib.hid hFF
      have HPC3 := Lib.hid (fun wx (hb : Below wd.heap.size wd wx) => HPC.out wx (HFD.out.trans (Fr.of_below hb _) (fun _ _ h => h)))
      have HSC3 := Lib.hid (fun wx (hb : Below wd.heap.size wd wx) => HSC.out wx (HKK.out wx (HFD.out.trans (Fr.of_below hb _) (fun _ _ h => h))).2.1 (by have := hb.size; have := HFD.out.size; have := HSZ.out; omega))
      clear hk9 hFF
      go_cut [] (fun wx => SeenM wx (w.heap.size + 2) (d * 110000 + 106000) (frsW p C false frs d ++ carW false frs.length d s ++ ptrS C s) ∧ Fr (fun q => q = w.heap.size + 2) wb wx)
      case first =>
        refine wp_region_noPanic ?_
        refine wp_region_held_drew (S := fun w' => Fr F wd w') (by kernel_rfl) (Fr.of_below (Below.refl _ _).drew F) (fun _ => ?_)
        have HR1 := Lib.hid (Below.refl wd.heap.size wd).drew
        generalize wd.drew = r1 at *
        refine wpAnyH_take (i := 0) (v := ?_) rfl (by kernel_rfl) (by kernel_rfl) (by kernel_rfl) (fun _ _ _ h => h) (Or.inl ⟨by kernel_rfl, ?tq1⟩) (Fr.of_below HR1.out F) ?_
        case tq1 => (intro wq hq; obtain ⟨f0, f1, f2, f3, f4, f5, f6, f7, f8⟩ := HK9.out wq hq; go_simp; first | done | with_reducible rfl)
        refine wpAnyH_take (i := 1) (v := ?_) rfl (by kernel_rfl) (by kernel_rfl) (by kernel_rfl) (fun _ _ _ h => h) (Or.inl ⟨by kernel_rfl, ?tq2⟩) (Fr.of_below HR1.out F) ?_
        case tq2 => (intro wq hq; obtain ⟨f0, f1, f2, f3, f4, f5, f6, f7, f8⟩ := HK9.out wq hq; go_simp; first | done | with_reducible rfl)
        refine wpAnyH_take (i := 2) (v := ?_) rfl (by kernel_rfl) (by kernel_rfl) (by kernel_rfl) (fun _ _ _ h => h) (Or.inl ⟨by kernel_rfl, ?tq3⟩) (Fr.of_below HR1.out F) ?_
        case tq3 => (intro wq hq; obtain ⟨f0, f1, f2, f3, f4, f5, f6, f7, f8⟩ := HK9.out wq hq; go_simp; first | done | with_reducible rfl)
        refine wpAnyH_take (i := 3) (v := ?_) rfl (by kernel_rfl) (by kernel_rfl) (by kernel_rfl) (fun _ _ _ h => h) (Or.inl ⟨by kernel_rfl, ?tq4⟩) (Fr.of_below HR1.out F) ?_
        case tq4 => (intro wq hq; obtain ⟨f0, f1, f2, f3, f4, f5, f6, f7, f8⟩ := HK9.out wq hq; go_simp; first | done | with_reducible rfl)
        refine wpAnyH_take (i := 4) (v := ?_) rfl (by kernel_rfl) (by kernel_rfl) (by kernel_rfl) (fun _ _ _ h => h) (Or.inl ⟨by kernel_rfl, ?tq5⟩) (Fr.of_below HR1.out F) ?_
        case tq5 => (intro wq hq; obtain ⟨f0, f1, f2, f3, f4, f5, f6, f7, f8⟩ := HK9.out wq hq; go_simp; first | done | with_reducible rfl)
        refine wpAnyH_take (i := 5) (v := ?_) rfl (by kernel_rfl) (by kernel_rfl) (by kernel_rfl) (fun _ _ _ h => h) (Or.inl ⟨by kernel_rfl, ?tq6⟩) (Fr.of_below HR1.out F) ?_
        case tq6 => (intro wq hq; obtain ⟨f0, f1, f2, f3, f4, f5, f6, f7, f8⟩ := HK9.out wq hq; go_simp; first | done | with_reducible rfl)
        refine wpAnyH_take (i := 6) (v := ?_) rfl (by kernel_rfl) (by kernel_rfl) (by kernel_rfl) (fun _ _ _ h => h) (Or.inl ⟨by kernel_rfl, ?tq7⟩) (Fr.of_below HR1.out F) ?_
        case tq7 => (intro wq hq; obtain ⟨f0, f1, f2, f3, f4, f5, f6, f7, f8⟩ := HK9.out wq hq; go_simp; first | done | with_reducible rfl)
        refine wpAnyH_ready (rs := [7]) (by kernel_rfl) (by simp) ?_
        refine (AllReadyH.cons rfl (fun K hK => ?_) AllReadyH.nil)
        go_simp
        go_at_call 86
        refine (HPC3.out r1 HR1.out).mono ?_
        rintro e r2 ⟨rfl, hb⟩
        have HR2 := Lib.hid (HR1.out.trans (hb.mono HR1.out.size))
        clear hb
        refine hK.out _ _ (Fr.of_below HR2.out F) (fun _ => ?_)
        clear hK K
        refine wpAnyH_ready (rs := [8]) (by kernel_rfl) (by simp) ?_
        refine (AllReadyH.cons rfl (fun K hK => ?_) AllReadyH.nil)
        go_simp
        go_at_call 85
        refine (HSC3.out r2 HR2.out).mono ?_
        rintro e r3 ⟨v, rfl, ho7, hb⟩
        have HR3 := Lib.hid (HR2.out.trans (hb.mono HR2.out.size))
        obtain ⟨va, vc, rfl, hvs⟩ := own_int ho7
        have HPU := Lib.hid (putM_any r3 (w.heap.size + 2) _ _ (HSD.out.below HR3.out) (fun q => wd.heap.size ≤ q) (fun q hq => by have := HFD.out.size; have := HSZ.out; omega) va (ptrS C s) vc (hvs.wide (fun q hq => Nat.le_trans HR2.out.size (ho7.lt hq).1)) HPB.out (by have := HPL.out; omega))
        clear ho7 hvs
        clear hb
        refine hK.out _ _ (Fr.of_below HR3.out F) (fun _ => ?_)
        clear hK K
        refine wpAnyH_ready (rs := [9]) (by kernel_rfl) (by simp) ?_
        refine (AllReadyH.cons rfl (fun K hK => ?_) AllReadyH.nil)
        go_simp
        go_at_call 36
        refine HPU.out.mono ?_
        rintro e w8 ⟨rfl, hs8, hf8⟩
        have HS8 := Lib.hid (hs8.le (show _ ≤ d * 110000 + 106000 by have := HPL.out; omega))
        have HF8 := Lib.hid ((HFD.out.trans (Fr.of_below HR3.out _) (fun _ _ h => h)).trans hf8 (fun _ _ h => h))
        have HF9 := Lib.hid (show Fr F wd w8 by rw [HFF.out]; exact (Fr.of_below HR3.out _).trans hf8 (fun _ _ h => h))
        clear hs8 hf8
        refine hK.out _ _ HF9.out (fun _ => ?_)
        clear hK K
        refine wpAnyH_done (by kernel_rfl) ?_ _
        refine NoPanic.normal ?_
        go_wp2_with fail
        go_meet
        exact ⟨HS8.out, HF8.out⟩
      case rest =>
        obtain ⟨hsc, hfc⟩ := hcut
        clear HPC3 HSC3 HK9 HFF
        have HSC2 := Lib.hid hsc
        have HFC := Lib.hid hfc
        have hfw := HFB.out.trans hfc (fun _ _ h => h)
        have HFW := Lib.hid hfw
        obtain ⟨⟨t0, t1, t2, t3, t4, t5, t6, t7, t8⟩, _, _⟩ := HKK.out wc hfc
        obtain ⟨⟨k0, k1, k2⟩, _⟩ := HQ.out wc hfw
        clear hsc hfc hfw
        have hvw : valW p s = if s.has = true ∧ ptrB (funR p s.fn).result = true then [s.value] else [] := rfl
        have hfm : frsW p C false frs (d + 1) = (frsW p C false frs d ++ carW false frs.length d s ++ ptrS C s) ++ valW p s := by
          rw [HFRS.out]
          unfold frmW
          simp only [List.append_assoc]
        cases hhas : s.has with
        | false =>
          rw [hhas] at t6
          rw [hhas, if_neg (by simp)] at hvw
          rw [hvw, List.append_nil] at hfm
          have HS9 := Lib.hid (show SeenM wc (w.heap.size + 2) ((d + 1) * 110000) (frsW p C false frs (d + 1)) from by rw [hfm]; exact HSC2.out.le (by omega))
          clear hvw hfm hhas
          go_wp2_with fail
          go_roundw
          case rel => exact ⟨d + 1, hlt, by go_num, HS9.out, HFW.out⟩
          case measure => simp [intOf]; omega
        | true =>
          rw [hhas] at t6
          have hbb := HBL.out wc HFW.out
          have HFCC := Lib.hid (fnR_any wc D (fun k hk => Nat.lt_of_lt_of_le (HD.out k hk) hbb.size) p _ _ _ (HP.out wc hbb) s.fn)
          unfold FnRPost at HFCC
          clear hbb
          have HVW := Lib.hid hvw
          have HFM := Lib.hid hfm
          clear hvw hfm
          have HHAS := Lib.hid hhas
          clear hhas
          go_wp2_with fail
          refine HFCC.out.mono ?_
          rintro e w9 ⟨d0, d3, d4, rfl, hfv, hb9⟩
          obtain ⟨_, _, ⟨y0, z0, rfl, _⟩, ⟨y3, z3, rfl, _⟩, y4, z4, rfl, _⟩ := hfv
          have hf9 := HFC.out.trans (Fr.of_below hb9 (fun q => q = w.heap.size + 2)) (fun _ _ h => h)
          have hs9 := HSC2.out.below hb9
          have hfd := field_fun1 (.slice y0 (funR p s.fn).args.length z0) (.int .i64 (funR p s.fn).result) (.int .i64 (funR p s.fn).slots) (.slice y3 (funR p s.fn).objects.length z3) (.slice y4 (funR p s.fn).code.length z4)
          have pt := HPT.out w9 (funR p s.fn).result (HRB.out s.fn)
          clear t0 t1 t2 t3 t4 t5 t6 t7 t8 k0 k1 k2 HFCC hb9
          have HF9 := Lib.hid hf9
          have HS9 := Lib.hid hs9
          clear hf9 hs9
          cases hp : ptrB (funR p s.fn).result with
          | false =>
            rw [hp] at pt
            have HS10 := Lib.hid (show SeenM w9 (w.heap.size + 2) ((d + 1) * 110000) (frsW p C false frs (d + 1)) from by rw [HFM.out, HVW.out, hp, if_neg (by simp), List.append_nil]; exact HS9.out.le (by omega))
            have PT := Lib.hid pt
            clear hp pt
            go_wp2_with fail
            refine PT.out.mono ?_
            rintro e w' ⟨rfl, rfl⟩
            clear hfd
            go_wp2_with fail
            go_roundw
            case rel => exact ⟨d + 1, hlt, by go_num, HS10.out, HFB.out.trans HF9.out (fun _ _ h => h)⟩
            case measure => simp [intOf]; omega
          | true =>
            rw [hp] at pt
            have hvw : valW p s = [s.value] := by rw [HVW.out, hp, HHAS.out]; simp
            have PT := Lib.hid pt
            obtain ⟨⟨_, _, _, _, _, t5, _, _, _⟩, _, _⟩ := HKK.out w9 HF9.out
            have hba := (Below.refl w9.heap.size w9).alloc (Nat.le_refl _) (.cells #[.int .i64 s.value] 3)
            have pu := putM_any _ (w.heap.size + 2) _ _ (HS9.out.below hba) (fun q => q = w9.heap.size) (fun q hq => by have := HS9.out.lt; omega) _ [s.value] 1 (one_int w9 s.value) (fun y hy => by simp at hy; rw [hy]; exact HSO.out.2.2.2.2.2.1) (by have := HFL.out; simp only [List.length_singleton]; omega)
            rw [← hvw, ← HFM.out] at pu
            have PU := Lib.hid pu
            have HF10 := Lib.hid ((HFB.out.trans HF9.out (fun _ _ h => h)).trans (Fr.of_below hba _) (fun _ _ h => h))
            have HVL := Lib.hid hvw
            clear hp pt pu hba hvw
            go_wp2_with fail
            refine PT.out.mono ?_
            rintro e w' ⟨rfl, rfl⟩
            clear hfd
            go_wp2_with fail
            rw [HVL.out] at PU
            refine PU.out.mono ?_
            rintro e w11 ⟨rfl, hs11, hf11⟩
            have HS11 := Lib.hid (hs11.le (show _ ≤ (d + 1) * 110000 by simp only [List.length_singleton]; omega))
            have HF11 := Lib.hid (HF10.out.trans hf11 (fun _ _ h => h))
            clear hs11 hf11 t5
            go_wp2_with fail
            go_roundw
            case rel => exact ⟨d + 1, hlt, by go_num, HS11.out, HF11.out⟩
            case measure => simp [intOf]; omega
    · skip
      have hk' : d = frs.length := by omega
      subst hk'
      have hbw := HBL.out wr hfr
      obtain ⟨⟨k0, k1, k2⟩, j0, j1, j2, j3, j4, j5, j6⟩ := HQ.out wr hfr
      have hz3 : w.heap.size + 3 ≤ wr.heap.size := by have := hfr.size; have := HWS.out; omega
      have LC := Lib.hid (HLC.out wr hbw)
      have HS := Lib.hid hS
      have HFR := Lib.hid hfr
      clear hbw hS hfr
      go_wp2_with fail
      refine LC.out.mono ?_
      rintro e w5 ⟨v, L0, rfl, hln, hpw, hmem, hpl, hb5⟩
      obtain ⟨va, vc, rfl, hpc⟩ := hpl
      clear LC k0 k1 k2 j0 j1 j2 j3 j4 j5 j6
      have HPC := Lib.hid (show ∀ j (h : j < L0.length), ∃ g o, va = some ⟨g, o, none⟩ ∧ g ≠ w.heap.size + 2 ∧ w5.cell? ⟨g, o + j * 2, none⟩ = some (.int .i64 (L0[j].1.1 : Nat)) ∧ w5.cell? ⟨g, o + j * 2 + 1, none⟩ = some (.int .i64 (L0[j].1.2 : Nat)) from fun j h => by
        obtain ⟨g, o, e, hg, h1, h2⟩ := hpc j h
        rw [Nat.mul_comm] at h1 h2
        exact ⟨g, o, e, by omega, h1, h2⟩)
      have HS5 := Lib.hid (HS.out.below hb5)
      have HF5 := Lib.hid (HFR.out.trans (Fr.of_below hb5 _) (fun _ _ h => h))
      have HLN := Lib.hid hln
      have HMEM := Lib.hid hmem
      have HPW := Lib.hid hpw
      clear hpc hb5 hln hmem hpw hz3
      go_wp2_with fail
      go_loopw [84] (fun i wz => ∃ k : Nat, k ≤ L0.length ∧ i = .int .i64 k ∧ SeenM wz (w.heap.size + 2) (frs.length * 110000 + k * 16) (frsW p C false frs frs.length ++ livW p frs L0 k) ∧ Fr (fun q => q = w.heap.size + 2) W wz ∧ Fr (fun q => q = w.heap.size + 2) w5 wz) (fun i _ => L0.length - (intOf i).toNat)
      case atStart => exact ⟨0, Nat.zero_le _, rfl, by rw [show livW p frs L0 0 = [] from rfl, List.append_nil]; exact HS5.out.le (by omega), HF5.out, Fr.refl _ _⟩
      case round =>
        obtain ⟨k, hk, rfl, hS, hfr, hfr5⟩ := hrel
        have hln := HLN.out
        by_cases hlt : k < L0.length
        · obtain ⟨y, hye⟩ : ∃ y, y = L0[k] := ⟨_, rfl⟩
          have hyk : L0[k]? = some y := by rw [hye, List.getElem?_eq_getElem hlt]
          obtain ⟨s, hsk, hk2, hpos⟩ := HADM.out y.1 ((HMEM.out y).1 (by rw [hye]; exact List.getElem_mem hlt))
          obtain ⟨g, o, rfl, hg, h0, h1⟩ := HPC.out k hlt
          rw [← hye] at h0 h1
          have h0 := hfr5.cell h0 hg
          have h1 := hfr5.cell h1 hg
          obtain ⟨hyl, hse⟩ := List.getElem?_eq_some_iff.1 hsk
          have hso := HOK.out s (List.mem_of_getElem? hsk)
          obtain ⟨_, _, _, _, _, _, _, _, _, hso10⟩ := hso
          have hliv := livW_succ (p := p) (L := L0) hyk hsk
          obtain ⟨S, hS0⟩ : ∃ S, S = Obj.cells #[.int .i64 (y.1.1 : Nat), .int .i64 (y.1.2 : Nat)] 109 := ⟨_, rfl⟩
          have hab := (Below.refl wr.heap.size wr).alloc (Nat.le_refl _) S
          obtain ⟨wb, hwb⟩ : ∃ wb, wb = wr.alloc S := ⟨_, rfl⟩
          rw [← hwb] at hab
          have hrs : wb.heap[wr.heap.size]? = some S := by rw [hwb]; exact heap_new wr S
          have hfb : Fr (fun q => q = w.heap.size + 2) W wb := hfr.trans (Fr.of_below hab _) (fun _ _ h => h)
          have hfb5 := hfr5.trans (Fr.of_below hab _) (fun _ _ h => h)
          have hSb := hS.below hab
          have hzr : w.heap.size + 3 ≤ wr.heap.size := by have := hfr.size; have := HWS.out; omega
          have hzb := hab.size
          rw [hS0] at hwb hrs
          obtain ⟨g2, o2, rfl, hg2, hsp⟩ := (HF.out.fr hfb HDW.out) y.1.1 hyl
          rw [hse] at hsp
          obtain ⟨a7, e7, a8, e8, hcells, hsl7, hsl8⟩ := hsp
          have hg2n := HDW.out g2 hg2
          obtain ⟨F, hFF⟩ : ∃ F : Nat → Prop, F = fun q => q = w.heap.size + 2 := ⟨_, rfl⟩
          have hk15 : ∀ wx, Fr F wb wx → wx.cell? ⟨w.heap.size, 0, none⟩ = some (.slice ga n0 gc) ∧ wx.cell? ⟨w.heap.size, 1, none⟩ = some (.slice a1 n1 m1) ∧ wx.cell? ⟨w.heap.size, 2, none⟩ = some (.slice a2 n2 m2) ∧ wx.cell? ⟨w.heap.size + 1, 3, none⟩ = some (.slice (some ⟨g2, o2, none⟩) frs.length m3) ∧ wx.cell? ⟨wr.heap.size, 0, none⟩ = some (.int .i64 (y.1.1 : Nat)) ∧ wx.cell? ⟨wr.heap.size, 1, none⟩ = some (.int .i64 (y.1.2 : Nat)) ∧ wx.cell? ⟨g2, o2 + y.1.1 * 9, none⟩ = some (.int .i64 s.fn) ∧ wx.cell? ⟨g2, o2 + y.1.1 * 9 + 1, none⟩ = some (.int .i64 s.pc) ∧ wx.cell? ⟨g2, o2 + y.1.1 * 9 + 2, none⟩ = some (.int .i64 s.base) ∧ wx.cell? ⟨g2, o2 + y.1.1 * 9 + 3, none⟩ = some (.bool s.leaving) ∧ wx.cell? ⟨g2, o2 + y.1.1 * 9 + 4, none⟩ = some (.bool s.defers) ∧ wx.cell? ⟨g2, o2 + y.1.1 * 9 + 5, none⟩ = some (.int .i64 s.value) ∧ wx.cell? ⟨g2, o2 + y.1.1 * 9 + 6, none⟩ = some (.bool s.has) ∧ wx.cell? ⟨g2, o2 + y.1.1 * 9 + 7, none⟩ = some (.slice a7 s.slots.length e7) ∧ wx.cell? ⟨g2, o2 + y.1.1 * 9 + 8, none⟩ = some (.slice a8 s.objects.length e8) := fun wx hf => by
            rw [hFF] at hf
            obtain ⟨⟨b0, b1, b2⟩, _, _, _, b3, _⟩ := HQ.out wx (hfb.trans hf (fun _ _ h => h))
            have h := hf.heap hrs (by omega)
            obtain ⟨x0, x1, x2, x3, x4, x5, x6, x7, x8⟩ := hcells
            exact ⟨b0, b1, b2, b3, (row_cell h 0).1, (row_cell h 1).1, hf.cell x0 hg2n, hf.cell x1 hg2n, hf.cell x2 hg2n, hf.cell x3 hg2n, hf.cell x4 hg2n, hf.cell x5 hg2n, hf.cell x6 hg2n, hf.cell x7 hg2n, hf.cell x8 hg2n⟩
          have hfc3 : ∀ wx, Below wb.heap.size wb wx → _ := fun wx hb => HFC0.out wx ((HBL.out wb hfb).trans (hb.mono (HBL.out wb hfb).size)) s (List.mem_of_getElem? hsk) a7 a8 e7 e8 (hsl8.fr (Fr.of_below hb (fun _ => False)) (fun _ _ h => h)) y.1.2 hk2 hpos
          unfold spotA at hfc3
          have HK15 := Lib.hid hk15
          have HFC3 := Lib.hid hfc3
          have HFF := Lib.hid hFF
          have HFB := Lib.hid hfb
          have HFB5 := Lib.hid hfb5
          have HSB := Lib.hid hSb
          have HSZ := Lib.hid (show w.heap.size + 3 ≤ wb.heap.size by omega)
          have HPB := Lib.hid (show ∀ x ∈ fldS p s y.1.2, i64B x from fun x hx => hso10 x (fldS_mem hx))
          have HKL := Lib.hid hlt
          have HLIV := Lib.hid hliv
          have HWB := Lib.hid hwb
          clear hye hyk hsk hk2 hpos hso10 hliv hS0 hab hwb hrs hfb hfb5 hSb hzr hzb hse hcells hsl7 hsl8 hFF hk15 hfc3 hS hfr hfr5 hg hg2 hg2n
          go_upto_region 17 with fail
          rw [← HWB.out]
          clear HWB h0 h1
          refine wp_region_noPanic ?_
          refine wp_region_held_drew (S := fun w' => Fr F wb w') (by kernel_rfl) (Fr.of_below (Below.refl _ _).drew F) (fun _ => ?_)
          have HR1 := Lib.hid (Below.refl wb.heap.size wb).drew
          generalize wb.drew = r1 at *
          refine wpAnyH_take (i := 0) (v := ?_) rfl (by kernel_rfl) (by kernel_rfl) (by kernel_rfl) (fun _ _ _ h => h) (Or.inl ⟨by kernel_rfl, ?tq1⟩) (Fr.of_below HR1.out F) ?_
          case tq1 => (intro wq hq; obtain ⟨f0, f1, f2, f3, f4, f5, f6, f7, f8, f9, f10, f11, f12, f13, f14⟩ := HK15.out wq hq; go_simp; first | done | with_reducible rfl)
          refine wpAnyH_take (i := 1) (v := ?_) rfl (by kernel_rfl) (by kernel_rfl) (by kernel_rfl) (fun _ _ _ h => h) (Or.inl ⟨by kernel_rfl, ?tq2⟩) (Fr.of_below HR1.out F) ?_
          case tq2 => (intro wq hq; obtain ⟨f0, f1, f2, f3, f4, f5, f6, f7, f8, f9, f10, f11, f12, f13, f14⟩ := HK15.out wq hq; go_simp; first | done | with_reducible rfl)
          refine wpAnyH_take (i := 2) (v := ?_) rfl (by kernel_rfl) (by kernel_rfl) (by kernel_rfl) (fun _ _ _ h => h) (Or.inl ⟨by kernel_rfl, ?tq3⟩) (Fr.of_below HR1.out F) ?_
          case tq3 => (intro wq hq; obtain ⟨f0, f1, f2, f3, f4, f5, f6, f7, f8, f9, f10, f11, f12, f13, f14⟩ := HK15.out wq hq; go_simp; first | done | with_reducible rfl)
          refine wpAnyH_take (i := 3) (v := ?_) rfl (by kernel_rfl) (by kernel_rfl) (by kernel_rfl) (fun _ _ _ h => h) (Or.inl ⟨by kernel_rfl, ?tq4⟩) (Fr.of_below HR1.out F) ?_
          case tq4 => (intro wq hq; obtain ⟨f0, f1, f2, f3, f4, f5, f6, f7, f8, f9, f10, f11, f12, f13, f14⟩ := HK15.out wq hq; go_simp; first | done | with_reducible rfl)
          refine wpAnyH_take (i := 4) (v := ?_) rfl (by kernel_rfl) (by kernel_rfl) (by kernel_rfl) (fun _ _ _ h => h) (Or.inl ⟨by kernel_rfl, ?tq5⟩) (Fr.of_below HR1.out F) ?_
          case tq5 => (intro wq hq; obtain ⟨f0, f1, f2, f3, f4, f5, f6, f7, f8, f9, f10, f11, f12, f13, f14⟩ := HK15.out wq hq; go_simp; first | done | with_reducible rfl)
          refine wpAnyH_take (i := 5) (v := ?_) rfl (by kernel_rfl) (by kernel_rfl) (by kernel_rfl) (fun _ _ _ h => h) (Or.inl ⟨by kernel_rfl, ?tq6⟩) (Fr.of_below HR1.out F) ?_
          case tq6 => (intro wq hq; obtain ⟨f0, f1, f2, f3, f4, f5, f6, f7, f8, f9, f10, f11, f12, f13, f14⟩ := HK15.out wq hq; go_simp; first | done | with_reducible rfl)
          refine wpAnyH_take (i := 6) (v := ?_) rfl (by kernel_rfl) (by kernel_rfl) (by kernel_rfl) (fun _ _ _ h => h) (Or.inl ⟨by kernel_rfl, ?tq7⟩) (Fr.of_below HR1.out F) ?_
          case tq7 => (intro wq hq; obtain ⟨f0, f1, f2, f3, f4, f5, f6, f7, f8, f9, f10, f11, f12, f13, f14⟩ := HK15.out wq hq; go_simp; first | done | with_reducible rfl)
          refine wpAnyH_take (i := 7) (v := ?_) rfl (by kernel_rfl) (by kernel_rfl) (by kernel_rfl) (fun _ _ _ h => h) (Or.inl ⟨by kernel_rfl, ?tq8⟩) (Fr.of_below HR1.out F) ?_
          case tq8 => (intro wq hq; obtain ⟨f0, f1, f2, f3, f4, f5, f6, f7, f8, f9, f10, f11, f12, f13, f14⟩ := HK15.out wq hq; go_simp; first | done | with_reducible rfl)
          refine wpAnyH_take (i := 8) (v := ?_) rfl (by kernel_rfl) (by kernel_rfl) (by kernel_rfl) (fun _ _ _ h => h) (Or.inl ⟨by kernel_rfl, ?tq9⟩) (Fr.of_below HR1.out F) ?_
          case tq9 => (intro wq hq; obtain ⟨f0, f1, f2, f3, f4, f5, f6, f7, f8, f9, f10, f11, f12, f13, f14⟩ := HK15.out wq hq; go_simp; first | done | with_reducible rfl)
          refine wpAnyH_take (i := 9) (v := ?_) rfl (by kernel_rfl) (by kernel_rfl) (by kernel_rfl) (fun _ _ _ h => h) (Or.inl ⟨by kernel_rfl, ?tq10⟩) (Fr.of_below HR1.out F) ?_
          case tq10 => (intro wq hq; obtain ⟨f0, f1, f2, f3, f4, f5, f6, f7, f8, f9, f10, f11, f12, f13, f14⟩ := HK15.out wq hq; go_simp; first | done | with_reducible rfl)
          refine wpAnyH_ready (rs := [10]) (by kernel_rfl) (by simp) ?_
          refine (AllReadyH.cons rfl (fun K hK => ?_) AllReadyH.nil)
          go_simp
          go_at_call 87
          refine (HFC3.out r1 HR1.out).mono ?_
          rintro e r2 ⟨v, rfl, ho7, hb⟩
          have HR2 := Lib.hid (HR1.out.trans (hb.mono HR1.out.size))
          obtain ⟨ua, uc, rfl, hvs⟩ := own_int ho7
          have HPU := Lib.hid (putM_any r2 (w.heap.size + 2) _ _ (HSB.out.below HR2.out) (fun q => wb.heap.size ≤ q) (fun q hq => by have := HSZ.out; omega) ua (fldS p s y.1.2) uc (hvs.wide (fun q hq => Nat.le_trans HR1.out.size (ho7.lt hq).1)) HPB.out (by have := fldS_len p s y.1.2; have := HLN.out; have := HKL.out; have := HFL.out; omega))
          clear ho7 hvs
          clear hb
          refine hK.out _ _ (Fr.of_below HR2.out F) (fun _ => ?_)
          clear hK K
          refine wpAnyH_ready (rs := [11]) (by kernel_rfl) (by simp) ?_
          refine (AllReadyH.cons rfl (fun K hK => ?_) AllReadyH.nil)
          go_simp
          go_at_call 36
          refine HPU.out.mono ?_
          rintro e w8 ⟨rfl, hs8, hf8⟩
          have HS8 := Lib.hid (hs8.le (show _ ≤ frs.length * 110000 + (k + 1) * 16 by have := fldS_len p s y.1.2; omega))
          have HF8 := Lib.hid ((HFB.out.trans (Fr.of_below HR2.out _) (fun _ _ h => h)).trans hf8 (fun _ _ h => h))
          have HF9 := Lib.hid (show Fr F wb w8 by rw [HFF.out]; exact (Fr.of_below HR2.out _).trans hf8 (fun _ _ h => h))
          clear hs8 hf8
          refine hK.out _ _ HF9.out (fun _ => ?_)
          clear hK K
          refine wpAnyH_done (by kernel_rfl) ?_ _
          refine NoPanic.normal ?_
          have HS9 := Lib.hid (show SeenM w8 (w.heap.size + 2) (frs.length * 110000 + (k + 1) * 16) (frsW p C false frs frs.length ++ livW p frs L0 (k + 1)) from by rw [HLIV.out, ← List.append_assoc]; exact HS8.out)
          have HF10 := Lib.hid (HFB5.out.trans (by have h := HF9.out; rw [HFF.out] at h; exact h) (fun _ _ h => h))
          clear HK15 HFC3 HF9 HFF
          go_wp2_with fail
          go_roundw
          case rel => exact ⟨k + 1, HKL.out, by go_num, HS9.out, HF8.out, HF10.out⟩
          case measure => simp [intOf]; omega
        · have hk2 : k = L0.length := by omega
          subst hk2
          have hbw := HBL.out wr hfr
          obtain ⟨⟨k0, k1, k2⟩, j0, j1, j2, j3, j4, j5, j6⟩ := HQ.out wr hfr
          have HRC2 := Lib.hid (HRC.out wr hbw)
          unfold RecPost at HRC2
          have HS9 := Lib.hid hS
          have HB9 := Lib.hid hbw
          have hz3 : w.heap.size + 3 ≤ wr.heap.size := by have := hfr.size; have := HWS.out; omega
          have HZ3 := Lib.hid hz3
          clear hS hbw hfr hfr5 hz3
          go_wp2_with fail
          refine HRC2.out.mono ?_
          rintro e w6 ⟨v6, L6, rfl, ho6, hr6, hm6, hl6, hb6⟩
          obtain ⟨ua, uc, rfl, hvs⟩ := own_int ho6
          have HPU := Lib.hid (putM_any w6 (w.heap.size + 2) _ _ (HS9.out.below hb6) (fun q => wr.heap.size ≤ q) (fun q hq => by have := HZ3.out; omega) ua L6 uc (hvs.wide (fun q hq => (ho6.lt hq).1)) (fun x hx => ((hm6 x).1 hx).1) (by have := HFL.out; have := HRL.out; have := HLN.out; omega))
          have HB6 := Lib.hid (HB9.out.trans (hb6.mono HB9.out.size))
          have HM6 := Lib.hid hm6
          have HL6 := Lib.hid hl6
          clear ho6 hvs hb6 hm6 hl6 hr6 k0 k1 k2 j0 j1 j2 j3 j4 j5 j6 HRC2
          go_wp2_with fail
          refine HPU.out.mono ?_
          rintro e w7 ⟨rfl, hs7, hf7⟩
          have AL := Lib.hid (all_any w7 _ _ _ hs7 (by have := HFL.out; have := HRL.out; have := HLN.out; have := HL6.out; omega))
          have HB7 := Lib.hid (HB6.out.trans (hf7.below HB6.out.size (fun q hq => by omega)))
          clear hs7 hf7
          go_wp2_with fail
          refine AL.out.mono ?_
          rintro e w8 ⟨v8, L8, rfl, ho8, hr8, hm8, _, _, hb8⟩
          have HO8 := Lib.hid (ho8.base (B' := w.heap.size) (fun q hq => Nat.le_trans HB7.out.size (ho8.lt hq).1))
          have HB8 := Lib.hid (HB7.out.trans (hb8.mono HB7.out.size))
          have HR8 := Lib.hid hr8
          have HM8 := Lib.hid hm8
          clear ho8 hb8 hr8 hm8
          go_wp2_with fail
          go_ret
          refine ⟨v8, L8, L0, rfl, HPW.out, HMEM.out, HO8.out, HR8.out, fun x => ?_, HB8.out⟩
          rw [HM8.out x]
          have h6 := HM6.out x
          simp only [List.mem_append] at h6 ⊢
          constructor
          · rintro ⟨q1, (q2 | q2), q3⟩
            · exact ⟨q1, .inl q2, q3⟩
            · exact ⟨q1, .inr (h6.1 q2).2.1, q3⟩
          · rintro ⟨q1, (q2 | q2), q3⟩
            · exact ⟨q1, .inl q2, q3⟩
            · exact ⟨q1, .inr (h6.2 ⟨q1, q2, q3⟩), q3⟩
end Go.Proofs.YtknbllbhakpaaaaGreat
