/- Walk: roots.addresses: which stack object begins at which address. Which stack objects are live, plainly; an entry of a map of places turned in two steps. -/
import Derived.Test.YtknbllbhakpaaaaGreatHBi
import Derived.Test.YtknbllbhakpaaaaGreatHBf
import Derived.WideKeyEntry
set_option linter.unusedVariables false
set_option linter.unusedSimpArgs false
namespace Go.Proofs.YtknbllbhakpaaaaGreat
open Go.ChangeShapes Go.WideShapes Go.ChangeAt Go.RowKit Go.Maps
def mapOf (l : List (Int × (Nat × Nat))) : Int → Option (Nat × Nat) := fun x => (l.reverse.find? (fun q => decide (q.1 = x))).map (·.2)
theorem mapOf_snoc (l : List (Int × (Nat × Nat))) (a : Int) (y : Nat × Nat) : mapOf (l ++ [(a, y)]) = upd (mapOf l) a (some y) := by
  funext x
  unfold mapOf upd
  rw [List.reverse_append, List.reverse_singleton, List.singleton_append, List.find?_cons]
  by_cases h : x = a
  · subst h; simp
  · rw [if_neg h, decide_eq_false (fun e => h e.symm)]
def valP (x : Nat × Nat) : Value := .agg #[.int .i64 (x.1 : Nat), .int .i64 (x.2 : Nat)]
def tfn (p : Prg) (n : Int) : Tk.TFun := ((tOf p).funcs[n.toNat]?).getD ⟨0, 0, []⟩
/-- the first n stack objects of frame d, with their addresses -/
def objsA (p : Prg) (seg : Int) (s : SpotD) (d n : Nat) : List (Int × (Nat × Nat)) := (List.range n).filterMap (fun (k : Nat) => if 0 < (Tk.objO (tOf p) (tfn p s.fn) k).2 then some (seg + s.base + (Tk.objO (tOf p) (tfn p s.fn) k).1, (d, k)) else none)
theorem objsA_succ (p : Prg) (seg : Int) (s : SpotD) (d n : Nat) : objsA p seg s d (n + 1) = objsA p seg s d n ++ (if 0 < (Tk.objO (tOf p) (tfn p s.fn) n).2 then [(seg + s.base + (Tk.objO (tOf p) (tfn p s.fn) n).1, (d, n))] else []) := by
  unfold objsA
  rw [List.range_succ, List.filterMap_append]
  congr 1
  by_cases h : 0 < (Tk.objO (tOf p) (tfn p s.fn) n).2
  · simp [h]
  · simp [h]
def addrL (p : Prg) (seg : Int) (fr : List SpotD) (d : Nat) : List (Int × (Nat × Nat)) := (List.range d).flatMap (fun i => (fr[i]?).elim [] (fun s => objsA p seg s i (funR p s.fn).objects.length))
theorem addrL_succ {p : Prg} {seg : Int} {fr : List SpotD} {d : Nat} {s : SpotD} (h : fr[d]? = some s) : addrL p seg fr (d + 1) = addrL p seg fr d ++ objsA p seg s d (funR p s.fn).objects.length := by
  unfold addrL
  rw [List.range_succ, List.flatMap_append]
  simp [h]
theorem objO_b {p : Tk.TPrg} (hp : Tk.PSmall p) (f : Tk.TFun) (hf : f ∈ p.funcs) (k : Int) : 0 ≤ (Tk.objO p f k).1 ∧ (Tk.objO p f k).1 ≤ 9100000 ∧ 0 ≤ (Tk.objO p f k).2 ∧ (Tk.objO p f k).2 ≤ 3000 := by
  unfold Tk.objO
  split
  · next h =>
    have h1 := Tk.atN_le hp f hf k.toNat (by omega)
    have h2 := Tk.fieldsN_le hp (f.objects.getD k.toNat 0)
    simp only
    omega
  · simp only
    omega
set_option maxRecDepth 100000 in
theorem zero_place (w : World) : (zeroValue 109).run Tryz.prog w = .ok (.agg #[.int .i64 0, .int .i64 0]) w := by kernel_rfl
set_option maxRecDepth 100000 in
theorem field_fun3 (a b c d e : Value) : ∀ w, (Instr.field 31 (.agg #[a, b, c, d, e]) 3).run Tryz.prog w = .ok d w := fun w => by kernel_rfl
set_option maxRecDepth 100000 in
set_option maxHeartbeats 3200000 in
theorem addresses_any (w : World) (D : Nat → Prop) (hD : ∀ k, D k → k < w.heap.size) (p : Prg) (c0 c1 c2 : Value) (hv : PrgVal w D p c0 c1 c2) (hp : Tk.PSmall (tOf p)) (l : LifeD) (a3 a4 a5 : Option Addr) (m3 m4 m5 : Nat) (hl : LifeVal w D l a3 m3 a4 m4 a5 m5) (hok : LifeOk p l) :
    Calls Tryz.prog 88 #[.agg #[c0, c1, c2], .agg (lifeA l a3 m3 a4 m4 a5 m5)] w fun e w' => ∃ b n, e = .returned (.map (some b)) ∧ w.heap.size ≤ b ∧ MapIs intK valP w' b n (mapOf (addrL p l.seg l.frames l.frames.length)) ∧ Below w.heap.size w w' := by
  unfold lifeA
  obtain ⟨hfr0, _, _⟩ := hl
  obtain ⟨hok1, hok2, hok3, hok4, _⟩ := hok
  have hPV : ∀ wr, Below w.heap.size w wr → PrgVal wr D p c0 c1 c2 := fun wr hb => hv.fr (Fr.of_below hb (fun _ => False)) (fun _ _ h => h)
  obtain ⟨⟨ga, gc, rfl, _⟩, ⟨a1, m1, rfl, _⟩, a2, m2, rfl, _⟩ := hv
  generalize hn0 : p.globals.length = n0 at *
  generalize hn1 : p.shapes.length = n1 at *
  generalize hn2 : p.funcs.length = n2 at *
  clear hn0 hn1
  obtain ⟨lst, seg, wds, frs, ths, als, blk⟩ := l
  simp only at hfr0 hok1 hok2 hok3 hok4 ⊢
  generalize ths.length = nt
  generalize als.length = na
  obtain ⟨A, hA⟩ : ∃ A, A = Obj.cells #[.slice ga n0 gc, .slice a1 n1 m1, .slice a2 n2 m2] 34 := ⟨_, rfl⟩
  obtain ⟨L, hL⟩ : ∃ L, L = Obj.cells #[.int .i64 lst, .int .i64 seg, .int .i64 wds, .slice a3 frs.length m3, .slice a4 nt m4, .slice a5 na m5, .bool blk] 46 := ⟨_, rfl⟩
  have hb0 := (Below.refl w.heap.size w).alloc (Nat.le_refl _) A
  have hb1 := hb0.alloc hb0.size L
  have hb2 := hb1.alloc hb1.size (.map #[] 0)
  have hz1 : (w.alloc A).heap.size = w.heap.size + 1 := by simp
  have hz2 : ((w.alloc A).alloc L).heap.size = w.heap.size + 2 := by simp
  have hmk : MapIs intK valP (((w.alloc A).alloc L).alloc (.map #[] 0)) (w.heap.size + 2) 0 (mapOf []) := by rw [← hz2]; exact MapIs.made _ _ _
  have hr0 := row_allocR (row_allocR (heap_new w A) L) (.map #[] 0)
  have hr1 := row_allocR (heap_new (w.alloc A) L) (.map #[] 0)
  rw [hz1] at hr1
  have hmake : ∀ w, (Instr.makeMap 152 none).run Tryz.prog w = .ok (.map (some w.heap.size)) (w.alloc (.map #[] 0)) := fun w => run_makeMap _ w
  obtain ⟨W, hW⟩ : ∃ W, W = ((w.alloc A).alloc L).alloc (.map #[] 0) := ⟨_, rfl⟩
  rw [← hW] at hb2 hmk hr0 hr1
  rw [hA, hL] at hW
  have hWs : W.heap.size = w.heap.size + 3 := by rw [hW]; simp
  have k3 : W.cell? ⟨w.heap.size + 1, 3, none⟩ = some (.slice a3 frs.length m3) := by rw [hL] at hr1; exact (row_cell hr1 3).1
  have hfr1 := hfr0.fr (Fr.of_below hb2 (fun _ => False)) (fun _ _ h => h)
  have hq : ∀ wr, Fr (fun q => q = w.heap.size + 2) W wr → (wr.cell? ⟨w.heap.size, 0, none⟩ = some (.slice ga n0 gc) ∧ wr.cell? ⟨w.heap.size, 1, none⟩ = some (.slice a1 n1 m1) ∧ wr.cell? ⟨w.heap.size, 2, none⟩ = some (.slice a2 n2 m2)) ∧ wr.cell? ⟨w.heap.size + 1, 1, none⟩ = some (.int .i64 seg) := fun wr hf => by
    have h0 := hf.heap hr0 (by omega)
    have h1 := hf.heap hr1 (by omega)
    rw [hA] at h0
    rw [hL] at h1
    exact ⟨⟨(row_cell h0 0).1, (row_cell h0 1).1, (row_cell h0 2).1⟩, (row_cell h1 1).1⟩
  have hbel : ∀ wr, Fr (fun q => q = w.heap.size + 2) W wr → Below w.heap.size w wr := fun wr hf => hb2.trans (hf.below hb2.size (fun q hq => by omega))
  have HW := Lib.hid hW
  have HM := Lib.hid hmake
  have HF := Lib.hid hfr1
  have HQ := Lib.hid hq
  have HBL := Lib.hid hbel
  have HP := Lib.hid hPV
  have HOK := Lib.hid hok1
  have HSG := Lib.hid (And.intro hok2 hok3)
  have HFL := Lib.hid hok4
  have HD := Lib.hid hD
  have HPS := Lib.hid hp
  have HMK := Lib.hid hmk
  have HWS := Lib.hid hWs
  have HN2 := Lib.hid hn2
  clear hW hmake hfr0 hfr1 hq hbel hPV hok1 hok2 hok3 hok4 hD hp hmk hWs hb0 hb1 hb2 hz1 hz2 hr0 hr1 hA hL hn2
  go_enter Tryz.func88, Tryz.ntmps88
  have hmake := HM.out
  go_upto_region 2 with fail
  clear hmake
  rw [← HW.out]
  go_wp2_with fail
  go_loopw [15] (fun i wr => ∃ d n : Nat, d ≤ frs.length ∧ i = .int .i64 d ∧ n ≤ d * 3000 ∧ MapIs intK valP wr (w.heap.size + 2) n (mapOf (addrL p seg frs d)) ∧ Fr (fun q => q = w.heap.size + 2) W wr) (fun i _ => frs.length - (intOf i).toNat)
  case atStart => exact ⟨0, 0, Nat.zero_le _, rfl, Nat.le_refl _, HMK.out, Fr.refl _ _⟩
  case round =>
    obtain ⟨d, n, hd, rfl, hn, hmp, hfr⟩ := hrel
    have hfl := HFL.out
    clear k3
    by_cases hlt : d < frs.length
    · obtain ⟨s, hse⟩ : ∃ s, s = frs[d] := ⟨_, rfl⟩
      have hsk : frs[d]? = some s := by rw [hse, List.getElem?_eq_getElem hlt]
      have hso := HOK.out s (by rw [hse]; exact List.getElem_mem hlt)
      obtain ⟨g, o, rfl, hg, hsp⟩ := HF.out d hlt
      rw [← hse] at hsp
      have hDW : ∀ k, D k → k ≠ w.heap.size + 2 := fun k hk => by have := HD.out k hk; omega
      have hsp := hsp.fr hfr hDW (hDW g hg)
      obtain ⟨a7, e7, a8, e8, ⟨q0, q1, q2, q3, q4, q5, q6, q7, q8⟩, _, _⟩ := hsp
      obtain ⟨hs1, hs2, hs3, hs4, _⟩ := hso
      obtain ⟨j, hj⟩ : ∃ j : Nat, s.fn = j := ⟨s.fn.toNat, by omega⟩
      have hjl : j < p.funcs.length := by have := HN2.out; omega
      have hadd := addrL_succ (p := p) (seg := seg) hsk
      have HADD := Lib.hid hadd
      clear hse hsk hadd
      generalize s.slots.length = n7 at *
      generalize s.objects.length = n8 at *
      obtain ⟨S, hS⟩ : ∃ S, S = Obj.cells #[.int .i64 s.fn, .int .i64 s.pc, .int .i64 s.base, .bool s.leaving, .bool s.defers, .int .i64 s.value, .bool s.has, .slice a7 n7 e7, .slice a8 n8 e8] 36 := ⟨_, rfl⟩
      obtain ⟨wb, hwb⟩ : ∃ wb, wb = wr.alloc S := ⟨_, rfl⟩
      have hrs : wb.heap[wr.heap.size]? = some S := by rw [hwb]; exact heap_new wr S
      have hfb : Fr (fun q => q = w.heap.size + 2) W wb := by rw [hwb]; exact hfr.trans (Fr.of_below ((Below.refl wr.heap.size wr).alloc (Nat.le_refl _) S) _) (fun _ _ h => h)
      have hmb : MapIs intK valP wb (w.heap.size + 2) n (mapOf (addrL p seg frs d)) := hmp.fr (F := fun _ => False) (by rw [hwb]; exact Fr.of_below ((Below.refl wr.heap.size wr).alloc (Nat.le_refl _) S) _) (fun h => h)
      have hzr : w.heap.size + 3 ≤ wr.heap.size := by have := hfr.size; have := HWS.out; omega
      rw [hS] at hwb
      have hkk : ∀ wz, Fr (fun q => q = w.heap.size + 2) wb wz → wz.cell? ⟨wr.heap.size, 0, none⟩ = some (.int .i64 s.fn) ∧ wz.cell? ⟨wr.heap.size, 2, none⟩ = some (.int .i64 s.base) := fun wz hf => by
        have h := hf.heap hrs (by omega)
        rw [hS] at h
        exact ⟨(row_cell h 0).1, (row_cell h 2).1⟩
      have HWB := Lib.hid hwb
      have HFB := Lib.hid hfb
      have HMB := Lib.hid hmb
      have HKK := Lib.hid hkk
      have HJ := Lib.hid hj
      clear hwb hrs hfb hmb hkk hmp hfr hS hj
      go_upto_region 5 with fail
      rw [← HWB.out]
      clear HWB q0 q1 q2 q3 q4 q5 q6 q7 q8
      obtain ⟨⟨k0, k1, k2⟩, _⟩ := HQ.out wb HFB.out
      obtain ⟨k5, _⟩ := HKK.out wb (Fr.refl _ _)
      have hbb := HBL.out wb HFB.out
      have fc := fnR_any wb D (fun k hk => Nat.lt_of_lt_of_le (HD.out k hk) hbb.size) p _ _ _ (HP.out wb hbb) s.fn
      unfold FnRPost at fc
      clear hbb
      have FC := Lib.hid fc
      clear fc
      go_wp2_with fail
      refine FC.out.mono ?_
      rintro e w5 ⟨d0, d3, d4, rfl, hfv, hb5⟩
      obtain ⟨_, _, ⟨y0, z0, rfl, _⟩, ⟨y3, z3, rfl, _⟩, y4, z4, rfl, _⟩ := hfv
      have hf5 : Fr (fun q => q = w.heap.size + 2) wb w5 := Fr.of_below hb5 _
      have hm5 := HMB.out.fr (F := fun _ => False) (Fr.of_below hb5 _) (fun h => h)
      have hol : (funR p s.fn).objects.length ≤ 3000 := by
        rw [HJ.out, funR_at p j hjl]
        have h1 := HPS.out.2.2.2 (((tOf p).funcs)[j]'(by simpa [tOf] using hjl)) (List.getElem_mem _)
        rw [tOf_fn p j hjl] at h1
        exact h1.2.2
      have HOL := Lib.hid hol
      have HF5 := Lib.hid hf5
      have HM5 := Lib.hid hm5
      clear hb5 hf5 hm5 k0 k1 k2 k5 FC hol
      generalize hal : (funR p s.fn).args.length = al
      generalize hco : (funR p s.fn).code.length = co
      generalize hre : (funR p s.fn).result = re
      generalize hsl : (funR p s.fn).slots = sl
      generalize hob : (funR p s.fn).objects.length = ob at *
      clear hal hco hre hsl
      have HOB := Lib.hid hob
      clear hob
      have hfd := field_fun3 (.slice y0 al z0) (.int .i64 re) (.int .i64 sl) (.slice y3 ob z3) (.slice y4 co z4)
      go_wp2_with fail
      clear hfd
      go_loopw [26] (fun i wz => ∃ k m : Nat, k ≤ ob ∧ i = .int .i64 k ∧ m ≤ d * 3000 + k ∧ MapIs intK valP wz (w.heap.size + 2) m (mapOf (addrL p seg frs d ++ objsA p seg s d k)) ∧ Fr (fun q => q = w.heap.size + 2) wb wz) (fun i _ => ob - (intOf i).toNat)
      case atStart => exact ⟨0, n, Nat.zero_le _, rfl, by omega, by rw [show objsA p seg s d 0 = [] from rfl, List.append_nil]; exact HM5.out, HF5.out⟩
      case round =>
        obtain ⟨k, m, hk, rfl, hm, hmp, hfr2⟩ := hrel
        have hobl := HOL.out
        have hfl := HFL.out
        have hfw := HFB.out.trans hfr2 (fun _ _ h => h)
        by_cases hlt2 : k < ob
        · have hbz := HBL.out wr hfw
          obtain ⟨⟨k0, k1, k2⟩, _⟩ := HQ.out wr hfw
          obtain ⟨k5, _⟩ := HKK.out wr hfr2
          have hjt : j < (tOf p).funcs.length := by simpa [tOf] using hjl
          have etf : (tOf p).funcs[j] = tfn p s.fn := by
            unfold tfn
            rw [HJ.out, Int.toNat_natCast, List.getElem?_eq_getElem hjt]
            rfl
          have oc := Tk.object_any wr D (fun k hk => Nat.lt_of_lt_of_le (HD.out k hk) hbz.size) (tOf p) _ _ _ j hjt (pv_of (HP.out wr hbz)) HPS.out (k : Int) (by unfold i64B; omega)
          have hob2 := objO_b HPS.out (tOf p).funcs[j] (List.getElem_mem _) (k : Int)
          rw [etf] at oc hob2
          rw [← HJ.out] at oc
          have hsu := objsA_succ p seg s d k
          generalize Tk.objO (tOf p) (tfn p s.fn) (k : Int) = X at *
          obtain ⟨x, y⟩ := X
          simp only at oc hob2 hsu
          clear etf hbz
          have OC := Lib.hid oc
          clear oc
          obtain ⟨hob3, hob4, _, _⟩ := hob2
          obtain ⟨hsg1, hsg2⟩ := HSG.out
          have HFR2 := Lib.hid hfr2
          have HFW := Lib.hid hfw
          clear hfr2 hfw
          by_cases hy : 0 < y
          · rw [if_pos hy] at hsu
            have hadd2 : mapOf (addrL p seg frs d ++ objsA p seg s d (k + 1)) = upd (mapOf (addrL p seg frs d ++ objsA p seg s d k)) (seg + s.base + x) (some (d, k)) := by rw [hsu, ← List.append_assoc, mapOf_snoc]
            have HA2 := Lib.hid hadd2
            have i1 : IntKind.i64.wrap (seg + s.base) = seg + s.base := IntWalk.i64_in _ (by omega)
            have i2 : IntKind.i64.wrap (seg + s.base + x) = seg + s.base + x := IntWalk.i64_in _ (by omega)
            have HXB := Lib.hid (show i64B (seg + s.base + x) by unfold i64B; omega)
            have ht : Tryz.prog.underlying 152 = some (.map intK.k 109) := Tryz.underlying152
            have HT := Lib.hid ht
            have hnm : m < maxLen := by unfold maxLen; omega
            have HNM := Lib.hid hnm
            clear hsu hadd2 ht hnm
            go_wp2_with fail
            refine OC.out.mono ?_
            rintro e w6 ⟨rfl, hb6⟩
            clear OC k0 k1 k2 k5
            have hf6 := HFR2.out.trans (Fr.of_below hb6 _) (fun _ _ h => h)
            have hm6 := hmp.fr (F := fun _ => False) (Fr.of_below hb6 _) (fun h => h)
            obtain ⟨_, k9⟩ := HQ.out w6 (HFB.out.trans hf6 (fun _ _ h => h))
            obtain ⟨_, k6⟩ := HKK.out w6 hf6
            clear hmp hb6
            have HF6 := Lib.hid hf6
            have HM6 := Lib.hid hm6
            clear hf6 hm6
            go_wp2_with (refine put_map rfl (.tmp 39) (.tmp 46) (.tmp 49) 152 109 rfl HM6.out HT.out HNM.out (seg + s.base + x) HXB.out (d, k) rfl rfl rfl ?_; intro w7 hm7 ht7)
            rw [← HA2.out] at hm7
            have HF7 := Lib.hid (HF6.out.trans (turned_fr ht7) (fun _ _ h => h))
            have HM7 := Lib.hid hm7
            clear hm7 ht7 k6 k9
            go_wp2_with fail
            go_roundw
            case rel => exact ⟨k + 1, _, hlt2, by go_num, by split <;> omega, HM7.out, HF7.out⟩
            case measure => simp [intOf]; omega
          · rw [if_neg hy, List.append_nil] at hsu
            rw [← hsu] at hmp
            clear hsu
            go_wp2_with fail
            refine OC.out.mono ?_
            rintro e w6 ⟨rfl, hb6⟩
            clear OC k0 k1 k2 k5
            have HF6 := Lib.hid (HFR2.out.trans (Fr.of_below hb6 _) (fun _ _ h => h))
            have HM6 := Lib.hid (hmp.fr (F := fun _ => False) (Fr.of_below hb6 _) (fun h => h))
            clear hmp hb6
            go_wp2_with fail
            go_roundw
            case rel => exact ⟨k + 1, m, hlt2, by go_num, by omega, HM6.out, HF6.out⟩
            case measure => simp [intOf]; omega
        · have hk' : k = ob := by omega
          subst hk'
          rw [← HADD.out] at hmp
          have HMP := Lib.hid hmp
          have HFW := Lib.hid hfw
          clear hmp hfr2 hfw
          go_wp2_with fail
          go_roundw
          case rel => exact ⟨d + 1, m, hlt, by go_num, by omega, HMP.out, HFW.out⟩
          case measure => simp [intOf]; omega
    · have hk' : d = frs.length := by omega
      subst hk'
      have hbe := HBL.out wr hfr
      clear hfr
      have HBE := Lib.hid hbe; clear hbe
      have HMP := Lib.hid hmp; clear hmp
      go_wp2_with fail
      go_ret
      exact ⟨_, n, rfl, by omega, HMP.out, HBE.out⟩
end Go.Proofs.YtknbllbhakpaaaaGreat
namespace Go.Proofs.YtknbllbhakpaaaaGreat
open Go.ChangeShapes Go.WideShapes Go.ChangeAt Go.RowKit Go.Maps Go.MapKept
section
variable {P : Program} {κ ν : Type} {K : KeyTy P κ} {val : ν → Value} {w : World} {b n : Nat} {f : κ → Option ν} {ops : Array Oper} {rest : List Oper} {o : Oper} {a : Act} {Q : Exit → Act → World → Prop}
theorem lookR_some_ok (hg : o.guard = none) (m x : Operand) (t e : TypeId) (hop : o.op = Op.lookup t m x true) (h : MapIs K val w b n f) (ht : P.underlying t = some (.map K.k e)) {z : Value} (hz : (zeroValue e).run P w = .ok z w) (k : κ) (hk : K.wf k)
    (hm : a.eval m = .map (some b)) (hx : a.eval x = K.key k) (y : ν) (hf : f k = some y) (hK : wpList P ops Q rest (a.put o.dst (.tuple #[val y, .bool true])) w) : wpList P ops Q (o :: rest) a w := by
  refine wpList_plain hg fun K' hK' => ?_
  have hrun := ((h.look ht hz k hk).1 y hf).2
  unfold Oper.wp
  simp [execOp, hop, hm, hx, hrun, Result.andThen]
  exact hK' _ _ hK
theorem lookR_none_ok (hg : o.guard = none) (m x : Operand) (t e : TypeId) (hop : o.op = Op.lookup t m x true) (h : MapIs K val w b n f) (ht : P.underlying t = some (.map K.k e)) {z : Value} (hz : (zeroValue e).run P w = .ok z w) (k : κ) (hk : K.wf k)
    (hm : a.eval m = .map (some b)) (hx : a.eval x = K.key k) (hf : f k = none) (hK : wpList P ops Q rest (a.put o.dst (.tuple #[z, .bool false])) w) : wpList P ops Q (o :: rest) a w := by
  refine wpList_plain hg fun K' hK' => ?_
  have hrun := ((h.look ht hz k hk).2 hf).2
  unfold Oper.wp
  simp [execOp, hop, hm, hx, hrun, Result.andThen]
  exact hK' _ _ hK
end
set_option maxRecDepth 100000 in
theorem rplaw : Go.WideMaps.KeyLaw Tryz.prog 109 := deep_law_laid plaidOut (m := 2) (by omega) rprow (by kernel_rfl) rpwide
theorem entry_rp {ν : Type} {val : ν → Value} {w : World} {b n : Nat} {f : RPl → Option ν} (h : MapIs rpK val w b n f) {t e : TypeId} (ht : Tryz.prog.underlying t = some (.map rpK.k e)) {z : Value} (hz : ∀ u : World, (zeroValue e).run Tryz.prog u = .ok z u) (hn : n < maxLen) (x : RPl) (y : ν) :
    ∃ v0 st w1 w', (Instr.mapEntry t (.map (some b)) (rpK.key x)).run Tryz.prog w = .ok (.tuple #[v0, .int .i64 st]) w1 ∧ (Instr.entryStore t (.map (some b)) (.int .i64 st) (val y)).run Tryz.prog w1 = .ok () w' ∧ MapIs rpK val w' b (if (f x).isSome then n else n + 1) (upd f x (some y)) ∧ w.mapTurned w' b := by
  obtain ⟨w', hr, h4, h5⟩ := h.put ht hn x trivial y
  obtain ⟨D, ⟨es, clock, hb, F, _⟩, _⟩ := h
  obtain ⟨v0, st, es1, clock1, he, _, hs⟩ := Go.WideElems.entry_then_store rplaw ht hz hb F (rpK.hkey x trivial)
  have hbl := (Array.getElem?_eq_some_iff.1 hb).1
  obtain ⟨es', clock', h7, h8⟩ := hs (Go.ChangeMaps.setBlock w b (.map es1 clock1)) (val y) (by simp [Go.ChangeMaps.setBlock, hbl])
  rw [hr] at h8
  injection h8 with _ h8
  refine ⟨v0, st, _, w', he, ?_, h4, h5⟩
  rw [h8]
  have e2 : Go.ChangeMaps.setBlock (Go.ChangeMaps.setBlock w b (.map es1 clock1)) b (.map es' clock') = Go.ChangeMaps.setBlock w b (.map es' clock') := by simp [Go.ChangeMaps.setBlock]
  rw [e2] at h7
  exact h7
/-- when the entry is made first, what stands there is as it was -/
theorem entry_look_gen {P : Program} {κ : Type} [DecidableEq κ] {K0 : KeyTy P κ} (KL : Go.WideMaps.KeyLaw P K0.k) {w : World} {b n : Nat} {f : κ → Option Int} (h : MapIs K0 (Value.int .i64) w b n f) {t e : TypeId} (ht : P.underlying t = some (.map K0.k e)) (hz : ∀ u : World, (zeroValue e).run P u = .ok (.int .i64 0) u) (hn : n < maxLen) (x : κ) (hx : K0.wf x) {r v : Value} {w1 : World} (hr : (Instr.mapEntry t (.map (some b)) (K0.key x)).run P w = .ok r w1)
    (hl : (Instr.lookup t (.map (some b)) (K0.key x) false).run P w = .ok v w) : (Instr.lookup t (.map (some b)) (K0.key x) false).run P w1 = .ok v w1 := by
  obtain ⟨w', hp, h4, h5⟩ := h.put ht hn x hx 0
  obtain ⟨D, ⟨es, clock, hb, F, _⟩, _⟩ := h
  have hkey := K0.hkey x hx
  rcases KL.find w hkey es.toList F.keys with ⟨h1, h2⟩ | ⟨j, e0, h1, h2, h3⟩
  · have e1 : w1 = w' := by
      simp [Instr.mapEntry, run_underlying ht, Go.MapKept.run_getObj_map hb, KL.check w false hkey, h1, hz, Go.MapKept.run_setObj_map _ hb, Result.andThen] at hr
      simp [Instr.mapUpdate, run_underlying ht, Go.MapKept.run_getObj_map hb, KL.check w false hkey, h1, Go.MapKept.run_setObj_map _ hb, Result.andThen] at hp
      rw [← hr.2, ← hp]
    have e2 : v = .int .i64 0 := by
      simp [Instr.lookup, run_underlying ht, Go.MapKept.run_getObj_map hb, KL.check w _ hkey, h1, hz, Result.andThen] at hl
      exact hl.symm
    rw [e1, e2]
    exact ((h4.look ht (hz _) x hx).1 0 (by unfold upd; rw [if_pos rfl])).1
  · have hj : es[j]? = some e0 := by simpa using h2
    have hsame : es.modify j (fun e => { e with key := K0.key x }) = es := by
      apply Array.ext'
      rw [Array.toList_modify, Go.ChangeMaps.modify_eq_set _ _ _ _ h2]
      have : ({ e0 with key := K0.key x } : MapEntry) = e0 := by rw [← h3]
      rw [this]
      exact Go.WideElems.set_self _ _ _ h2
    have e1 : w1 = w := by
      simp [Instr.mapEntry, run_underlying ht, Go.MapKept.run_getObj_map hb, KL.check w false hkey, h1, hj, h3, KL.stays w hkey, hsame, Go.MapKept.run_setObj_map _ hb, Result.andThen] at hr
      rw [← hr.2]
      have : w.heap.setIfInBounds b (.map es clock) = w.heap := by
        apply Array.ext_getElem?
        intro i
        rw [Array.getElem?_setIfInBounds]
        split
        · next h => subst h; split <;> simp_all
        · rfl
      simp [this]
    rw [e1]
    exact hl
theorem entry_look {w : World} {b n : Nat} {f : RPl → Option Int} (h : MapIs rpK (Value.int .i64) w b n f) {t e : TypeId} (ht : Tryz.prog.underlying t = some (.map rpK.k e)) (hz : ∀ u : World, (zeroValue e).run Tryz.prog u = .ok (.int .i64 0) u) (hn : n < maxLen) (x : RPl) {r v : Value} {w1 : World} (hr : (Instr.mapEntry t (.map (some b)) (rpK.key x)).run Tryz.prog w = .ok r w1)
    (hl : (Instr.lookup t (.map (some b)) (rpK.key x) false).run Tryz.prog w = .ok v w) : (Instr.lookup t (.map (some b)) (rpK.key x) false).run Tryz.prog w1 = .ok v w1 := entry_look_gen (K0 := rpK) rplaw h ht hz hn x trivial hr hl
theorem upd_isSomeR {ν : Type} (f : RPl → Option ν) (a x : RPl) (y : ν) : ((upd f a (some y)) x).isSome = true ↔ (f x).isSome = true ∨ x = a := by
  unfold upd
  by_cases h : x = a
  · rw [if_pos h]; simp [h]
  · rw [if_neg h]; simp [h]
theorem rnN_inj {x y : NPl} (h : rnN x = rnN y) : x = y := by rw [← to_rn x, h, to_rn]
theorem mapOf_mem {l : List (Int × (Nat × Nat))} {x : Int} {y : Nat × Nat} (h : mapOf l x = some y) : (x, y) ∈ l := by
  unfold mapOf at h
  obtain ⟨q, hq, rfl⟩ := Option.map_eq_some_iff.1 h
  have h1 := List.mem_of_find?_eq_some hq
  have h2 := List.find?_some hq
  simp only [decide_eq_true_eq] at h2
  subst h2
  simpa using h1
theorem addrL_mem {p : Prg} {seg : Int} {fr : List SpotD} {d : Nat} {a : Int} {x : Nat × Nat} (h : (a, x) ∈ addrL p seg fr d) : ∃ s, x.1 < d ∧ fr[x.1]? = some s ∧ x.2 < (funR p s.fn).objects.length ∧ a = seg + s.base + (Tk.objO (tOf p) (tfn p s.fn) x.2).1 ∧ 0 < (Tk.objO (tOf p) (tfn p s.fn) x.2).2 := by
  unfold addrL at h
  obtain ⟨i, hi, h⟩ := List.mem_flatMap.1 h
  rw [List.mem_range] at hi
  cases hs : fr[i]? with
  | none => rw [hs] at h; simp at h
  | some s =>
    rw [hs] at h
    simp only [Option.elim_some] at h
    unfold objsA at h
    obtain ⟨k, hk, h⟩ := List.mem_filterMap.1 h
    rw [List.mem_range] at hk
    split at h
    · next h0 =>
      injection h with h
      injection h with h1 h2
      subst h2
      exact ⟨s, hi, hs, hk, h1.symm, h0⟩
    · cases h
instance (x : Int) : Decidable (i64B x) := by unfold i64B; infer_instance
/-- the kinds at a place -/
def kdsR (C : Pl → Option (List Int)) (fn pc : Int) : List Int := if h : i64B fn ∧ i64B pc then (C ⟨(fn, pc), h⟩).getD [] else []
def locS (C : Pl → Option (List Int)) (s : SpotD) : List Int := selL s.slots (bitsP isLocB (kdsR C s.fn s.pc) (kdsR C s.fn s.pc).length) s.slots.length
def ptrS (C : Pl → Option (List Int)) (s : SpotD) : List Int := selL s.slots (bitsP isPtrB (kdsR C s.fn s.pc) (kdsR C s.fn s.pc).length) s.slots.length
/-- a slot of one of the first d frames, or one of the first k of the next one, is the place of y -/
def Fnd (C : Pl → Option (List Int)) (A : List (Int × (Nat × Nat))) (fr : List SpotD) (d k : Nat) (y : Nat × Nat) : Prop :=
  ∃ i s v, fr[i]? = some s ∧ mapOf A v = some y ∧ ((i < d ∧ v ∈ locS C s) ∨ (i = d ∧ v ∈ (locS C s).take k))
theorem Fnd.zero (C : Pl → Option (List Int)) (A : List (Int × (Nat × Nat))) (fr : List SpotD) (y : Nat × Nat) : ¬ Fnd C A fr 0 0 y := by
  rintro ⟨i, s, v, _, _, ⟨h, _⟩ | ⟨_, h⟩⟩
  · omega
  · simp at h
theorem Fnd.next {C : Pl → Option (List Int)} {A : List (Int × (Nat × Nat))} {fr : List SpotD} {d : Nat} {s : SpotD} (hs : fr[d]? = some s) (y : Nat × Nat) : Fnd C A fr (d + 1) 0 y ↔ Fnd C A fr d (locS C s).length y := by
  constructor
  · rintro ⟨i, t, v, h1, h2, ⟨h, h3⟩ | ⟨_, h⟩⟩
    · by_cases hi : i = d
      · subst hi
        rw [hs] at h1
        injection h1 with h1
        subst h1
        exact ⟨i, s, v, hs, h2, .inr ⟨rfl, by rw [List.take_length]; exact h3⟩⟩
      · exact ⟨i, t, v, h1, h2, .inl ⟨by omega, h3⟩⟩
    · simp at h
  · rintro ⟨i, t, v, h1, h2, ⟨h, h3⟩ | ⟨h, h3⟩⟩
    · exact ⟨i, t, v, h1, h2, .inl ⟨by omega, h3⟩⟩
    · subst h
      exact ⟨i, t, v, h1, h2, .inl ⟨by omega, List.mem_of_mem_take h3⟩⟩
theorem Fnd.step {C : Pl → Option (List Int)} {A : List (Int × (Nat × Nat))} {fr : List SpotD} {d k : Nat} {s : SpotD} (hs : fr[d]? = some s) {v : Int} (hv : (locS C s)[k]? = some v) (y : Nat × Nat) : Fnd C A fr d (k + 1) y ↔ Fnd C A fr d k y ∨ mapOf A v = some y := by
  have ht : (locS C s).take (k + 1) = (locS C s).take k ++ [v] := by rw [List.take_add_one, hv]; rfl
  constructor
  · rintro ⟨i, t, u, h1, h2, h | ⟨h, h3⟩⟩
    · exact .inl ⟨i, t, u, h1, h2, .inl h⟩
    · subst h
      rw [hs] at h1
      injection h1 with h1
      subst h1
      rw [ht, List.mem_append, List.mem_singleton] at h3
      rcases h3 with h3 | rfl
      · exact .inl ⟨i, s, u, hs, h2, .inr ⟨rfl, h3⟩⟩
      · exact .inr h2
  · rintro (⟨i, t, u, h1, h2, h | ⟨h, h3⟩⟩ | h)
    · exact ⟨i, t, u, h1, h2, .inl h⟩
    · subst h
      rw [hs] at h1
      injection h1 with h1
      subst h1
      exact ⟨i, s, u, hs, h2, .inr ⟨rfl, by rw [ht]; exact List.mem_append_left _ h3⟩⟩
    · exact ⟨d, s, v, hs, h, .inr ⟨rfl, by rw [ht]; simp⟩⟩
end Go.Proofs.YtknbllbhakpaaaaGreat
