/- Walk: roots.live: which stack objects are live, in order. -/
import Derived.Test.YtknbllbhakpaaaaGreatHBj
set_option linter.unusedVariables false
set_option linter.unusedSimpArgs false
namespace Go.Proofs.YtknbllbhakpaaaaGreat
open Go.ChangeShapes Go.WideShapes Go.ChangeAt Go.RowKit Go.Maps
/-- block fb is the places that were found, N or less -/
def FoundAt (w : World) (fb N : Nat) (F : Nat × Nat → Prop) : Prop := ∃ n f, n ≤ N ∧ MapIs rpK (Value.int .i64) w fb n f ∧ ∀ x : RPl, (f x).isSome = true ↔ ∃ y : NPl, x = rnN y ∧ F y.1
theorem FoundAt.fr {w w' : World} {fb N : Nat} {F : Nat × Nat → Prop} {G : Nat → Prop} (h : FoundAt w fb N F) (hf : Fr G w w') (hg : ¬ G fb) : FoundAt w' fb N F := by
  obtain ⟨n, f, h1, h2, h3⟩ := h
  exact ⟨n, f, h1, h2.fr hf hg, h3⟩
theorem FoundAt.below {w w' : World} {fb N : Nat} {F : Nat × Nat → Prop} (h : FoundAt w fb N F) (hb : Below w.heap.size w w') : FoundAt w' fb N F := h.fr (Fr.of_below hb (fun _ => False)) (fun h => h)
theorem FoundAt.congr {w : World} {fb N M : Nat} {F G : Nat × Nat → Prop} (h : FoundAt w fb N F) (hq : ∀ y, F y ↔ G y) (hm : N ≤ M) : FoundAt w fb M G := by
  obtain ⟨n, f, h1, h2, h3⟩ := h
  exact ⟨n, f, by omega, h2, fun x => (h3 x).trans ⟨fun ⟨y, a, b⟩ => ⟨y, a, (hq _).1 b⟩, fun ⟨y, a, b⟩ => ⟨y, a, (hq _).2 b⟩⟩⟩
theorem FoundAt.more {w : World} {fb N n : Nat} {F G : Nat × Nat → Prop} {f : RPl → Option Int} {y : NPl} {z : Int} (hn : n ≤ N) (hm : MapIs rpK (Value.int .i64) w fb (if (f (rnN y)).isSome then n else n + 1) (upd f (rnN y) (some z))) (hf : ∀ x : RPl, (f x).isSome = true ↔ ∃ y : NPl, x = rnN y ∧ F y.1) (hg : ∀ u, G u ↔ F u ∨ u = y.1) : FoundAt w fb (N + 1) G := by
  refine ⟨_, _, by split <;> omega, hm, fun x => ?_⟩
  rw [upd_isSomeR, hf]
  constructor
  · rintro (⟨u, rfl, h⟩ | rfl)
    · exact ⟨u, rfl, (hg _).2 (.inl h)⟩
    · exact ⟨y, rfl, (hg _).2 (.inr rfl)⟩
  · rintro ⟨u, rfl, h⟩
    rcases (hg _).1 h with h | h
    · exact .inl ⟨u, rfl, h⟩
    · exact .inr (by rw [show u = y from Subtype.ext h])
def LivePost (p : Prg) (C : Pl → Option (List Int)) (l : LifeD) (w : World) (e : Ending) (w' : World) : Prop :=
  ∃ v L, e = .returned v ∧ L.length ≤ 300000 ∧ L.Pairwise ltN ∧ (∀ y : NPl, y ∈ L ↔ Fnd C (addrL p l.seg l.frames l.frames.length) l.frames l.frames.length 0 y.1) ∧ PlSl w' (fun k => w.heap.size ≤ k) v L ∧ Below w.heap.size w w'
set_option maxRecDepth 100000 in
set_option maxHeartbeats 3200000 in
theorem live_any (w : World) (D : Nat → Prop) (hD : ∀ k, D k → k < w.heap.size) (p : Prg) (c0 c1 c2 : Value) (hv : PrgVal w D p c0 c1 c2) (hp : Tk.PSmall (tOf p)) (l : LifeD) (a3 a4 a5 : Option Addr) (m3 m4 m5 : Nat) (hl : LifeVal w D l a3 m3 a4 m4 a5 m5) (hok : LifeOk p l)
    (B mb b0 nm : Nat) (V : Nat → Prop) (C : Pl → Option (List Int)) (hm : MapsAt w B mb b0 nm V C) (hCl : ∀ x K, C x = some K → K.length ≤ 16) :
    Calls Tryz.prog 40 #[.agg #[c0, c1, c2], .pointer (some ⟨mb, 0, none⟩), .agg (lifeA l a3 m3 a4 m4 a5 m5)] w (LivePost p C l w) := by
  have hfr0 := hl.1
  have hPV : ∀ wr, Below w.heap.size w wr → PrgVal wr D p c0 c1 c2 := fun wr hb => hv.fr (Fr.of_below hb (fun _ => False)) (fun _ _ h => h)
  have had : ∀ wr, Below w.heap.size w wr → _ := fun wr hb => addresses_any wr D (fun k hk => Nat.lt_of_lt_of_le (hD k hk) hb.size) p c0 c1 c2 (hPV wr hb) hp l a3 a4 a5 m3 m4 m5 (hl.below hb) hok
  obtain ⟨⟨ga, gc, rfl, _⟩, ⟨a1, m1, rfl, _⟩, a2, m2, rfl, _⟩ := hv
  generalize hn0 : p.globals.length = n0 at *
  generalize hn1 : p.shapes.length = n1 at *
  generalize hn2 : p.funcs.length = n2 at *
  clear hn0 hn1 hPV
  unfold lifeA at *
  obtain ⟨A0, hA0⟩ : ∃ A0, A0 = addrL p l.seg l.frames l.frames.length := ⟨_, rfl⟩
  have hgm : ∀ v y, mapOf A0 v = some y → y.1 ≤ 1000000 ∧ y.2 ≤ 1000000 := fun v y h => by
    rw [hA0] at h
    obtain ⟨s, h1, h2, h3, _⟩ := addrL_mem (mapOf_mem h)
    have h4 := hok.1 s (List.mem_of_getElem? h2)
    have h5 := hok.2.2.2.1
    obtain ⟨f1, f2, _⟩ := h4
    obtain ⟨j, hj⟩ : ∃ j : Nat, s.fn = j := ⟨s.fn.toNat, by omega⟩
    have hjl : j < p.funcs.length := by omega
    have hjt : j < (tOf p).funcs.length := by simpa [tOf] using hjl
    rw [hj, funR_at p j hjl] at h3
    have h6 := hp.2.2.2 (tOf p).funcs[j] (List.getElem_mem _)
    rw [tOf_fn p j hjl] at h6
    have h7 := h6.2.2
    simp only at h7
    omega
  have hgen : LivePost p C l w = fun e w' => ∃ v L, e = .returned v ∧ L.length ≤ 300000 ∧ L.Pairwise ltN ∧ (∀ y : NPl, y ∈ L ↔ Fnd C A0 l.frames l.frames.length 0 y.1) ∧ PlSl w' (fun k => w.heap.size ≤ k) v L ∧ Below w.heap.size w w' := by unfold LivePost; rw [hA0]
  rw [hgen]
  rw [← hA0] at had
  clear hgen hA0
  have hn3 : n2 ≤ 3000 := by rw [← hn2]; have := hp.2.1; simpa [tOf] using this
  have hok1 := hok.1
  have hfl := hok.2.2.2.1
  clear hok hl hp
  obtain ⟨lst, seg, wds, frs, ths, als, blk⟩ := l
  simp only at hfr0 hok1 hfl had ⊢
  generalize ths.length = nt at *
  generalize als.length = na at *
  obtain ⟨A, hA⟩ : ∃ A, A = Obj.cells #[.slice ga n0 gc, .slice a1 n1 m1, .slice a2 n2 m2] 34 := ⟨_, rfl⟩
  obtain ⟨L, hL⟩ : ∃ L, L = Obj.cells #[.int .i64 lst, .int .i64 seg, .int .i64 wds, .slice a3 frs.length m3, .slice a4 nt m4, .slice a5 na m5, .bool blk] 46 := ⟨_, rfl⟩
  have hb1 := ((Below.refl w.heap.size w).alloc (Nat.le_refl _) A).alloc (by simp) L
  have hz1 : (w.alloc A).heap.size = w.heap.size + 1 := by simp
  have hr0 := row_allocR (heap_new w A) L
  have hr1 := heap_new (w.alloc A) L
  rw [hz1] at hr1
  obtain ⟨W, hW⟩ : ∃ W, W = (w.alloc A).alloc L := ⟨_, rfl⟩
  rw [← hW] at hb1 hr0 hr1
  rw [hA, hL] at hW
  have hWs : W.heap.size = w.heap.size + 2 := by rw [hW]; simp
  have had1 := had W hb1
  have hq : ∀ wr, Below W.heap.size W wr → (wr.cell? ⟨w.heap.size, 0, none⟩ = some (.slice ga n0 gc) ∧ wr.cell? ⟨w.heap.size, 1, none⟩ = some (.slice a1 n1 m1) ∧ wr.cell? ⟨w.heap.size, 2, none⟩ = some (.slice a2 n2 m2)) ∧ wr.cell? ⟨w.heap.size + 1, 0, none⟩ = some (.int .i64 lst) ∧ wr.cell? ⟨w.heap.size + 1, 1, none⟩ = some (.int .i64 seg) ∧ wr.cell? ⟨w.heap.size + 1, 2, none⟩ = some (.int .i64 wds) ∧ wr.cell? ⟨w.heap.size + 1, 3, none⟩ = some (.slice a3 frs.length m3) ∧ wr.cell? ⟨w.heap.size + 1, 4, none⟩ = some (.slice a4 nt m4) ∧ wr.cell? ⟨w.heap.size + 1, 5, none⟩ = some (.slice a5 na m5) ∧ wr.cell? ⟨w.heap.size + 1, 6, none⟩ = some (.bool blk) := fun wr hb => by
    have h0 := (Fr.of_below hb (fun _ => False)).heap hr0 (fun h => h)
    have h1 := (Fr.of_below hb (fun _ => False)).heap hr1 (fun h => h)
    rw [hA] at h0
    rw [hL] at h1
    exact ⟨⟨(row_cell h0 0).1, (row_cell h0 1).1, (row_cell h0 2).1⟩, (row_cell h1 0).1, (row_cell h1 1).1, (row_cell h1 2).1, (row_cell h1 3).1, (row_cell h1 4).1, (row_cell h1 5).1, (row_cell h1 6).1⟩
  obtain ⟨⟨k0, k1, k2⟩, j0, j1, j2, j3, j4, j5, j6⟩ := hq W (Below.refl _ _)
  have hmake : ∀ w, (Instr.makeMap 154 none).run Tryz.prog w = .ok (.map (some w.heap.size)) (w.alloc (.map #[] 0)) := fun w => run_makeMap _ w
  have HW := Lib.hid hW
  have HM := Lib.hid hmake
  have HF := Lib.hid hfr0
  have HQ := Lib.hid hq
  have HB1 := Lib.hid hb1
  have HAD := Lib.hid had1
  have HOK := Lib.hid hok1
  have HFL := Lib.hid hfl
  have HD := Lib.hid hD
  have HMA := Lib.hid hm
  have HWS := Lib.hid hWs
  have HN2 := Lib.hid hn2
  have HN3 := Lib.hid hn3
  have HGM := Lib.hid hgm
  have HCL := Lib.hid hCl
  clear hW hmake hfr0 hq hok1 hfl hD hm hWs hb1 hz1 hr0 hr1 hA hL hn2 hn3 had had1 hgm hCl
  go_enter Tryz.func40, Tryz.ntmps40
  go_upto_region 1 with fail
  rw [← HW.out]
  go_wp2_with fail
  refine HAD.out.mono ?_
  rintro e w2 ⟨ab, na2, rfl, hab, hma, hb2⟩
  clear k0 k1 k2 j0 j1 j2 j3 j4 j5 j6
  have hb2w := HB1.out.trans (hb2.mono HB1.out.size)
  obtain ⟨_, _, _, _, j3, _, _, _⟩ := HQ.out w2 hb2
  have hb3 := hb2w.alloc hb2w.size (.map #[] 0)
  have hma3 := hma.fr (F := fun _ => False) (Fr.of_below ((Below.refl w2.heap.size w2).alloc (Nat.le_refl _) (.map #[] 0)) _) (fun h => h)
  have hmk : MapIs rpK (Value.int .i64) (w2.alloc (.map #[] 0)) w2.heap.size 0 (fun _ => none) := MapIs.made _ _ _
  have hj3 := below_cell ((Below.refl w2.heap.size w2).alloc (Nat.le_refl _) (.map #[] 0)) j3
  have habl := hma.lt
  obtain ⟨w3, hw3⟩ : ∃ w3, w3 = w2.alloc (.map #[] 0) := ⟨_, rfl⟩
  rw [← hw3] at hb3 hma3 hmk hj3
  have hz3 : w3.heap.size = w2.heap.size + 1 := by rw [hw3]; simp
  obtain ⟨fb, hfb⟩ : ∃ fb, fb = w2.heap.size := ⟨_, rfl⟩
  have hw2s := hb2w.size
  have hfw : w.heap.size ≤ fb := by omega
  have hne : ab ≠ fb := by omega
  have hfbl : fb < w3.heap.size := by omega
  rw [← hfb] at hmk
  have HW3 := Lib.hid hw3
  have HFB := Lib.hid hfb
  have HB3 := Lib.hid hb3
  have HMA3 := Lib.hid hma3
  have HMK := Lib.hid hmk
  clear hw3 hb3 hma3 hmk hma hab habl hb2w hb2 hz3 hw2s j3 hfb
  have hmake := HM.out
  have HJ3 := Lib.hid hj3
  clear hj3
  go_upto_region 3 with fail
  clear hmake
  rw [← HW3.out]
  rw [← HFB.out]
  have k3 := HJ3.out
  go_wp2_with fail
  clear k3
  go_loopw [22] (fun i wr => ∃ d : Nat, d ≤ frs.length ∧ i = .int .i64 d ∧ FoundAt wr fb (d * 3000) (Fnd C A0 frs d 0) ∧ Fr (fun q => q = fb) w3 wr) (fun i _ => frs.length - (intOf i).toNat)
  case atStart => exact ⟨0, Nat.zero_le _, rfl, ⟨0, _, Nat.le_refl _, HMK.out, fun x => ⟨fun h => by simp at h, fun ⟨y, _, h⟩ => absurd h (Fnd.zero _ _ _ _)⟩⟩, Fr.refl _ _⟩
  case round =>
    obtain ⟨d, hd, rfl, hfo, hfr⟩ := hrel
    have hfl := HFL.out
    by_cases hlt : d < frs.length
    · obtain ⟨s, hse⟩ : ∃ s, s = frs[d] := ⟨_, rfl⟩
      have hsk : frs[d]? = some s := by rw [hse, List.getElem?_eq_getElem hlt]
      have hso := HOK.out s (by rw [hse]; exact List.getElem_mem hlt)
      obtain ⟨g, o, rfl, hg, hsp⟩ := HF.out d hlt
      rw [← hse] at hsp
      have hDw : ∀ k, D k → k ≠ fb := fun k hk => by have := HD.out k hk; omega
      have hsp := (hsp.fr (Fr.of_below HB3.out (fun _ => False)) (fun _ _ h => h) (fun h => h)).fr hfr hDw (hDw g hg)
      obtain ⟨a7, e7, a8, e8, ⟨q0, q1, q2, q3, q4, q5, q6, q7, q8⟩, hsl, _⟩ := hsp
      obtain ⟨hs1, hs2, hs3, hs4, hs5, hs6, hs7, hs8, hs9, _⟩ := hso
      have hI : i64B s.fn ∧ i64B s.pc := ⟨by have := HN2.out; have := HN3.out; unfold i64B; omega, hs5⟩
      have hst := fun k v (hv : (locS C s)[k]? = some v) => Fnd.step (C := C) (A := A0) hsk hv
      have hnx := fun y => Fnd.next (C := C) (A := A0) hsk y
      have hlb : ∀ x ∈ locS C s, i64B x := fun x hx => by
        obtain ⟨q, _, _, _, h⟩ := selL_mem.1 hx
        exact hs9 x (List.mem_of_getElem? h)
      have HLB := Lib.hid hlb
      clear hlb
      have hll : (locS C s).length ≤ 3000 := Nat.le_trans (selL_len _ _ _) hs7
      have hkd : (C ⟨(s.fn, s.pc), hI⟩).getD [] = kdsR C s.fn s.pc := by unfold kdsR; rw [dif_pos hI]
      have hlo : locS C s = selL s.slots (bitsP isLocB (kdsR C s.fn s.pc) (kdsR C s.fn s.pc).length) s.slots.length := rfl
      have hkl : (kdsR C s.fn s.pc).length ≤ 16 := by
        rw [← hkd]
        cases hc : C ⟨(s.fn, s.pc), hI⟩ with
        | none => simp
        | some K => exact HCL.out _ K hc
      have hbs : bitsP isLocB (kdsR C s.fn s.pc) (kdsR C s.fn s.pc).length < 65536 := Nat.lt_of_lt_of_le (bitsP_lt _ _ _) (Nat.pow_le_pow_right (n := 2) (by decide) hkl)
      have hbr : Below w.heap.size w wr := HB3.out.trans (hfr.below HB3.out.size (fun q hq => by omega))
      have hmr := HMA.out.below hbr
      have hzr := hfr.size
      have HST := Lib.hid hst
      have HNX := Lib.hid hnx
      clear hse hsk hst hnx hs1 hs2 hs3 hs4 hs5 hs6 hs8 hs9 hDw
      generalize hn8 : s.objects.length = n8 at *
      obtain ⟨S, hS⟩ : ∃ S, S = Obj.cells #[.int .i64 s.fn, .int .i64 s.pc, .int .i64 s.base, .bool s.leaving, .bool s.defers, .int .i64 s.value, .bool s.has, .slice a7 s.slots.length e7, .slice a8 n8 e8] 36 := ⟨_, rfl⟩
      have hab := (Below.refl wr.heap.size wr).alloc (Nat.le_refl _) S
      obtain ⟨wb, hwb⟩ : ∃ wb, wb = wr.alloc S := ⟨_, rfl⟩
      rw [← hwb] at hab
      have hrs : wb.heap[wr.heap.size]? = some S := by rw [hwb]; exact heap_new wr S
      have hzb : wr.heap.size < wb.heap.size := by rw [hwb]; simp
      have hfb2 : Fr (fun q => q = fb) w3 wb := hfr.trans (Fr.of_below hab _) (fun _ _ h => h)
      have hfo2 := hfo.below hab
      have hmb := hmr.below hab
      have hslb := hsl.fr (Fr.of_below hab (fun _ => False)) (fun _ _ h => h)
      rw [hS] at hwb hrs
      have ht9 : ∀ wx, Below wb.heap.size wb wx → wx.cell? ⟨wr.heap.size, 0, none⟩ = some (.int .i64 s.fn) ∧ wx.cell? ⟨wr.heap.size, 1, none⟩ = some (.int .i64 s.pc) ∧ wx.cell? ⟨wr.heap.size, 2, none⟩ = some (.int .i64 s.base) ∧ wx.cell? ⟨wr.heap.size, 3, none⟩ = some (.bool s.leaving) ∧ wx.cell? ⟨wr.heap.size, 4, none⟩ = some (.bool s.defers) ∧ wx.cell? ⟨wr.heap.size, 5, none⟩ = some (.int .i64 s.value) ∧ wx.cell? ⟨wr.heap.size, 6, none⟩ = some (.bool s.has) ∧ wx.cell? ⟨wr.heap.size, 7, none⟩ = some (.slice a7 s.slots.length e7) ∧ wx.cell? ⟨wr.heap.size, 8, none⟩ = some (.slice a8 n8 e8) := fun wx hx => by
        have h := (Fr.of_below hx (fun _ => False)).heap hrs (fun h => h)
        exact ⟨(row_cell h 0).1, (row_cell h 1).1, (row_cell h 2).1, (row_cell h 3).1, (row_cell h 4).1, (row_cell h 5).1, (row_cell h 6).1, (row_cell h 7).1, (row_cell h 8).1⟩
      obtain ⟨t0, t1, t2, t3, t4, t5, t6, t7, t8⟩ := ht9 wb (Below.refl _ _)
      have hpc : ∀ wx, Below wb.heap.size wb wx → Calls Tryz.prog 89 #[.pointer (some ⟨mb, 0, none⟩), .int .i64 s.fn, .int .i64 s.pc] wx fun e w' => e = .returned (.int .u16 (bitsP isLocB (kdsR C s.fn s.pc) (kdsR C s.fn s.pc).length : Nat)) ∧ Below wx.heap.size wx w' := fun wx hx => by
        have h := mplaces_any wx B mb b0 nm V C (hmb.below hx) s.fn s.pc hI HCL.out
        rw [hkd] at h
        exact h
      have hsc : ∀ wx, Below wb.heap.size wb wx → Calls Tryz.prog 85 #[.agg #[.int .i64 s.fn, .int .i64 s.pc, .int .i64 s.base, .bool s.leaving, .bool s.defers, .int .i64 s.value, .bool s.has, .slice a7 s.slots.length e7, .slice a8 n8 e8], .int .u16 (bitsP isLocB (kdsR C s.fn s.pc) (kdsR C s.fn s.pc).length : Nat)] wx fun e w' => ∃ v, e = .returned v ∧ Own intE w' wx.heap.size v (locS C s) ∧ Below wx.heap.size wx w' := fun wx hx => by
        have h := slotsR_any wx D (fun k hk => by have := HD.out k hk; have := hx.size; omega) s a7 a8 e7 e8 (hslb.fr (Fr.of_below hx (fun _ => False)) (fun _ _ h => h)) (by omega) _ hbs
        unfold spotA at h
        rw [hn8] at h
        exact h
      have HWB := Lib.hid hwb
      have HPC := Lib.hid hpc
      have HT9 := Lib.hid ht9
      have HSC := Lib.hid hsc
      have HF2 := Lib.hid hfb2
      have HFO := Lib.hid hfo2
      have HLL := Lib.hid hll
      clear hwb hrs ht9 hpc hsc hfb2 hfo2 hll hmb hslb hfo hfr hsl hmr hS hab hbr hbs hkl hkd hlo hn8
      generalize kdsR C s.fn s.pc = KD at *
      generalize (bitsP isLocB KD KD.length : Nat) = bt at *
      generalize s.slots.length = n7 at *
      go_upto_region 6 with fail
      rw [← HWB.out]
      clear HWB q0 q1 q2 q3 q4 q5 q6 q7 q8
      go_cut [33, 34, 35] (fun x y z wx => ∃ va vc, x = .slice va (locS C s).length vc ∧ y = .int .i64 (locS C s).length ∧ z = .int .i64 0 ∧ IntSl wx (fun q => wb.heap.size ≤ q) va (locS C s) ∧ Below wb.heap.size wb wx)
      case first =>
        go_region_law (first
          | (go_simp
             go_at_call 89
             refine (HPC.out _ ((Below.refl _ _).drew)).mono ?_
             rintro e w6 ⟨rfl, hb6⟩
             have HB6 := Lib.hid (((Below.refl wb.heap.size wb).drew).trans hb6)
             obtain ⟨t0, t1, t2, t3, t4, t5, t6, t7, t8⟩ := HT9.out w6 HB6.out)
          | (go_simp
             go_at_call 85
             refine (HSC.out _ HB6.out).mono ?_
             rintro e w7 ⟨v, rfl, ho7, hb7⟩
             obtain ⟨va, vc, rfl, hvs⟩ := own_int ho7
             have HO7 := Lib.hid ho7
             have HVS := Lib.hid hvs
             have HB7 := Lib.hid (HB6.out.trans (hb7.mono HB6.out.size))
             clear ho7 hvs hb7))
        all_goals
          go_wp2_with fail
          go_meet
          exact ⟨va, vc, rfl, rfl, rfl, HVS.out.wide (fun q hq => Nat.le_trans HB6.out.size (HO7.out.lt hq).1), HB7.out⟩
      case rest =>
        obtain ⟨va, vc, rfl, rfl, rfl, hvs, hb7⟩ := hcut
        have hfo7 := HFO.out.below hb7
        have hf7 := HF2.out.trans (Fr.of_below hb7 (fun q => q = fb)) (fun _ _ h => h)
        have hz7 := hb7.size
        have hz8 := HF2.out.size
        have hfbb : fb < wb.heap.size := by omega
        clear t0 t1 t2 t3 t4 t5 t6 t7 t8 hb7 hz8 HPC HSC HT9 HFO HF2
        have HVS := Lib.hid hvs
        have HF7 := Lib.hid hf7
        have HFO7 := Lib.hid hfo7
        clear hvs hf7 hfo7
        generalize hLL : locS C s = LL at *
        go_wp2_with fail
        go_loopw [35] (fun i wz => ∃ k : Nat, k ≤ LL.length ∧ i = .int .i64 k ∧ FoundAt wz fb (d * 3000 + k) (Fnd C A0 frs d k) ∧ Fr (fun q => q = fb) wc wz) (fun i _ => LL.length - (intOf i).toNat)
        case atStart => exact ⟨0, Nat.zero_le _, rfl, HFO7.out, Fr.refl _ _⟩
        case round =>
          obtain ⟨k, hk, rfl, hfo, hfr⟩ := hrel
          have hll := HLL.out
          by_cases hlt2 : k < LL.length
          · obtain ⟨v, hve⟩ : ∃ v, v = LL[k] := ⟨_, rfl⟩
            have hvk : LL[k]? = some v := by rw [hve, List.getElem?_eq_getElem hlt2]
            have HVB := Lib.hid (HLB.out v (by rw [hve]; exact List.getElem_mem hlt2))
            obtain ⟨vb, vo, rfl, hvb, hvc⟩ := HVS.out k hlt2
            rw [← hve] at hvc
            have hvc := hfr.cell hvc (show ¬ vb = fb by omega)
            have hst := HST.out k v hvk
            have hma := HMA3.out.fr (HF7.out.trans hfr (fun _ _ h => h)) hne
            have HMA4 := Lib.hid hma
            have ht : Tryz.prog.underlying 152 = some (.map intK.k 109) := Tryz.underlying152
            have HT := Lib.hid ht
            clear hve hma ht hvk
            cases hx : mapOf A0 v with
            | none =>
              have hab := (Below.refl wr.heap.size wr).alloc (Nat.le_refl _) (.cells #[.int .i64 0, .int .i64 0] 109)
              have hfo2 := (hfo.congr (G := Fnd C A0 frs d (k + 1)) (fun y => ((hst y).trans (by rw [hx]; simp)).symm) (show d * 3000 + k ≤ d * 3000 + (k + 1) by omega)).below hab
              have hfr2 := hfr.trans (Fr.of_below hab _) (fun _ _ h => h)
              clear hfo hfr hst hab
              have HFO2 := Lib.hid hfo2; clear hfo2
              have HFR2 := Lib.hid hfr2; clear hfr2
              have HX := Lib.hid hx; clear hx
              go_wp2_with (refine lookR_none_ok rfl (.tmp 40) (.tmp 41) 152 109 rfl HMA4.out HT.out (zero_place _) v HVB.out rfl rfl HX.out ?_)
              go_wp2_with fail
              go_roundw
              case rel => exact ⟨k + 1, hlt2, by go_num, HFO2.out, HFR2.out⟩
              case measure => simp [intOf]; omega
            | some y =>
              have hyb := HGM.out v y hx
              obtain ⟨yN, hyN⟩ : ∃ yN : NPl, yN = ⟨y, hyb⟩ := ⟨_, rfl⟩
              have hyv : yN.1 = y := by rw [hyN]
              clear hyN hyb
              subst hyv
              have hst2 : ∀ u, Fnd C A0 frs d (k + 1) u ↔ Fnd C A0 frs d k u ∨ u = yN.1 := fun u => (hst u).trans (by rw [hx]; simp [eq_comm])
              obtain ⟨O, hO⟩ : ∃ O, O = Obj.cells #[.int .i64 (yN.1.1 : Nat), .int .i64 (yN.1.2 : Nat)] 109 := ⟨_, rfl⟩
              have hab := (Below.refl wr.heap.size wr).alloc (Nat.le_refl _) O
              obtain ⟨wx, hwx⟩ : ∃ wx, wx = wr.alloc O := ⟨_, rfl⟩
              have hrx : wx.heap[wr.heap.size]? = some O := by rw [hwx]; exact heap_new wr O
              rw [← hwx] at hab
              rw [hO] at hwx hrx
              have t0 : wx.cell? ⟨wr.heap.size, 0, none⟩ = some (.int .i64 (yN.1.1 : Nat)) := (row_cell hrx 0).1
              have t1 : wx.cell? ⟨wr.heap.size, 1, none⟩ = some (.int .i64 (yN.1.2 : Nat)) := (row_cell hrx 1).1
              obtain ⟨n, f, hn, hmp, hff⟩ := hfo.below (hab.drew)
              have hfr2 := hfr.trans (Fr.of_below hab _) (fun _ _ h => h)
              have ht2 : Tryz.prog.underlying 154 = some (.map rpK.k 3) := Tryz.underlying154
              have hlk : ∃ z, (Instr.lookup 154 (.map (some fb)) (.agg #[.int .i64 (yN.1.1 : Nat), .int .i64 (yN.1.2 : Nat)]) false).run Tryz.prog wx.drew = .ok (.int .i64 z) wx.drew := by
                cases hf : f (rnN yN) with
                | none => exact ⟨0, ((hmp.look ht2 (zero_int _) (rnN yN) trivial).2 hf).1⟩
                | some z => exact ⟨z, ((hmp.look ht2 (zero_int _) (rnN yN) trivial).1 z hf).1⟩
              obtain ⟨z, hlk⟩ := hlk
              obtain ⟨v0, st, w1, w', hen, hes, hm', ht'⟩ := entry_rp hmp ht2 (fun u => zero_int u) (by unfold maxLen; omega) (rnN yN) (IntKind.i64.wrap (z + 1))
              change (Instr.mapEntry 154 (.map (some fb)) (.agg #[.int .i64 (yN.1.1 : Nat), .int .i64 (yN.1.2 : Nat)])).run Tryz.prog wx.drew = _ at hen
              have hlk2 := entry_look hmp ht2 (fun u => zero_int u) (by unfold maxLen; omega) (rnN yN) hen hlk
              have hlk2 : (Instr.lookup 154 (.map (some fb)) (.agg #[.int .i64 (yN.1.1 : Nat), .int .i64 (yN.1.2 : Nat)]) false).run Tryz.prog w1 = .ok (.int .i64 z) w1 := hlk2
              have HLK2 := Lib.hid hlk2
              clear hlk2
              have hfm := FoundAt.more hn hm' hff hst2
              have hfr3 := (hfr2.trans (Fr.of_below ((Below.refl wx.heap.size wx).drew) _) (fun _ _ h => h)).trans (turned_fr ht') (fun _ _ h => h)
              have HLK := Lib.hid hlk
              have HEN := Lib.hid hen
              have HES := Lib.hid hes
              have HFM := Lib.hid hfm
              have HFR3 := Lib.hid hfr3
              have HWX := Lib.hid hwx
              have HT0 := Lib.hid t0
              have HT1 := Lib.hid t1
              clear hlk hen hes hm' ht' hmp hff hn hfr2 hfr hfo hst hst2 hab hrx hwx hfm hfr3 t0 t1 ht2 hO
              have HX := Lib.hid hx; clear hx
              go_upto_region 11 with (refine lookR_some_ok rfl (.tmp 40) (.tmp 41) 152 109 rfl HMA4.out HT.out (zero_place _) v HVB.out rfl rfl yN.1 HX.out ?_; unfold valP)
              rw [← HWX.out]
              have t0 := HT0.out
              have t1 := HT1.out
              have hlk := HLK.out
              have hlk2 := HLK2.out
              have hen := HEN.out
              have hes := HES.out
              clear hvc
              go_region_law fail
              all_goals
                clear hlk hlk2 hen hes t0 t1
                go_wp2_with fail
                go_roundw
                case rel => exact ⟨k + 1, hlt2, by go_num, HFM.out, HFR3.out⟩
                case measure => simp [intOf]; omega
          · have hk' : k = LL.length := by omega
            subst hk'
            have hfo2 := hfo.congr (fun y => (HNX.out y).symm) (show d * 3000 + LL.length ≤ (d + 1) * 3000 by omega)
            have HFO2 := Lib.hid hfo2
            have HFR := Lib.hid (HF7.out.trans hfr (fun _ _ h => h))
            clear hfo hfo2 hfr
            go_wp2_with fail
            go_roundw
            case rel => exact ⟨d + 1, hlt, by go_num, HFO2.out, HFR.out⟩
            case measure => simp [intOf]; omega
    · have hk' : d = frs.length := by omega
      subst hk'
      have hbr := HB3.out.trans (hfr.below HB3.out.size (fun q hq => by omega))
      obtain ⟨n, f, hn, hmp, hff⟩ := hfo
      have hax := (Below.refl wr.heap.size wr).alloc (Nat.le_refl _) (.cells #[.map (some fb)] 154)
      have hkc := keysC_any (some fb) wr
      have hmp4 := hmp.fr (Fr.of_below hax (fun _ => False)) (fun h => h)
      have hrx := heap_new wr (.cells #[.map (some fb)] 154)
      obtain ⟨w4, hw4⟩ : ∃ w4, w4 = wr.alloc (.cells #[.map (some fb)] 154) := ⟨_, rfl⟩
      rw [← hw4] at hkc hmp4 hax hrx
      obtain ⟨D0, hown, hsz, hat⟩ := hmp4
      have hhas : ∀ x : RPl, has D0 (rpK.lit x) = true ↔ (f x).isSome = true := fun x => by
        cases hf : f x with
        | none => rw [has_false_of_atKey ((hat x trivial).2 hf)]; simp
        | some y => rw [has_true_of_atKey ((hat x trivial).1 y hf)]; simp
      have hsr := sortedR_any wr.heap.size fb n D0 w4 (by rw [hw4]; simp) (row_cell hrx 0).1 hown (by rw [hsz]; omega) (fun x hx => by
        obtain ⟨y, rfl, _⟩ := (hff x).1 ((hhas x).1 hx)
        unfold GoodR rnN
        have := y.2
        simp only
        omega)
      have hme : ∀ y : NPl, has D0 (rpK.lit (rnN y)) = true ↔ Fnd C A0 frs frs.length 0 y.1 := fun y => by
        rw [hhas, hff]
        constructor
        · rintro ⟨u, e, h⟩
          rw [rnN_inj e]; exact h
        · intro h
          exact ⟨y, rfl, h⟩
      have hb4 := hbr.trans (hax.mono hbr.size)
      have HKC := Lib.hid hkc
      have HSR := Lib.hid hsr
      have HME := Lib.hid hme
      have HB4 := Lib.hid hb4
      clear hw4 hkc hsr hme hb4 hax hrx hown hat hhas hmp hff hbr hfr
      have HLN := Lib.hid (show n ≤ 300000 by omega)
      go_wp2_with fail
      refine HKC.out.mono ?_
      rintro e wk ⟨rfl, rfl⟩
      go_wp2_with fail
      refine HSR.out.mono ?_
      rintro e w5 ⟨v, L, rfl, hln, hpw, hmem, hpl, hb5⟩
      rw [hsz] at hln
      have HPL := Lib.hid hpl
      have HB5 := Lib.hid (HB4.out.trans (hb5.mono HB4.out.size))
      have HMEM := Lib.hid hmem
      have HPW := Lib.hid hpw
      clear hpl hb5 hmem hpw
      go_wp2_with fail
      go_ret
      exact ⟨v, L, rfl, Nat.le_trans hln HLN.out, HPW.out, fun y => (HMEM.out y).trans (HME.out y), HPL.out.wide (fun k hk => Nat.le_trans HB4.out.size hk), HB5.out⟩
end Go.Proofs.YtknbllbhakpaaaaGreat
