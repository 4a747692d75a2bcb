/- Walk: roots.fields: the words of a stack object's fields that point. The words that a task's frames have, plainly; sets that grow by lists. -/
import Derived.Test.YtknbllbhakpaaaaGreatHBm
import Derived.Test.YtknbllbhakpaaaaGreatHBk
set_option linter.unusedVariables false
set_option linter.unusedSimpArgs false
namespace Go.Proofs.YtknbllbhakpaaaaGreat
open Go.ChangeShapes Go.WideShapes Go.ChangeAt Go.RowKit Go.Maps
/-- of the n words of a row behind the first fr those whose bits are set -/
def fldL (l : List Int) (bits fr n : Nat) : List Int := (List.range n).filterMap (fun i => if bits.testBit i = true then l[fr + i]? else none)
theorem fldL_succ (l : List Int) (bits fr n : Nat) : fldL l bits fr (n + 1) = fldL l bits fr n ++ (if bits.testBit n = true then (l[fr + n]?).toList else []) := by
  unfold fldL
  rw [List.range_succ, List.filterMap_append]
  congr 1
  by_cases h : bits.testBit n = true
  · simp only [List.filterMap_cons, if_pos h, List.filterMap_nil]
    cases l[fr + n]? <;> rfl
  · simp only [List.filterMap_cons, if_neg h, List.filterMap_nil]
theorem fldL_len (l : List Int) (bits fr n : Nat) : (fldL l bits fr n).length ≤ n := by
  unfold fldL
  have := List.length_filterMap_le (fun i => if bits.testBit i = true then l[fr + i]? else none) (List.range n)
  simpa using this
/-- the shape of a function's k-th stack object -/
def shpO (p : Prg) (fn : Int) (k : Nat) : List Int := (p.shapes[(((funR p fn).objects[k]?).getD 0).toNat]?).getD []
def fldS (p : Prg) (s : SpotD) (k : Nat) : List Int := fldL s.objects (bitsP isPtrB (shpO p s.fn k) (min (shpO p s.fn k).length 16)) (Tk.objsN (tOf p) ((funR p s.fn).objects.take k)) (shpO p s.fn k).length
theorem and_bit_min {x : Nat} (k : Nat) (hx : x < 65536) : (bits BinOp.and IntKind.u16 ((x : Int) / 2 ^ min k 16) 1 == 1) = x.testBit k := by
  by_cases h : k < 16
  · rw [show min k 16 = k by omega]; exact and_bit hx
  · rw [show min k 16 = 16 by omega, and_bit hx, Nat.testBit_lt_two_pow (Nat.lt_of_lt_of_le hx (by decide)), Nat.testBit_lt_two_pow (Nat.lt_of_lt_of_le hx (Nat.pow_le_pow_right (n := 2) (i := 16) (by decide) (by omega)))]
set_option maxRecDepth 100000 in
theorem field_fun2 (a b c d e : Value) : ∀ w, (Instr.field 31 (.agg #[a, b, c, d, e]) 2).run Tryz.prog w = .ok c w := fun w => by kernel_rfl
set_option maxRecDepth 100000 in
set_option maxHeartbeats 3200000 in
theorem fields_any (w : World) (D : Nat → Prop) (hD : ∀ k, D k → k < w.heap.size) (p : Prg) (c0 c1 c2 : Value) (hv : PrgVal w D p c0 c1 c2) (hp : Tk.PSmall (tOf p)) (s : SpotD) (hok : FrmOk p s) (a7 a8 : Option Addr) (c7 c8 : Nat) (h8 : IntSl w D a8 s.objects) (k : Nat) (hk : k < (funR p s.fn).objects.length) (hsl0 : 0 ≤ (funR p s.fn).slots) (hpos : 0 < (Tk.objO (tOf p) (tfn p s.fn) k).2) :
    Calls Tryz.prog 87 #[.agg #[c0, c1, c2], .agg (spotA s a7 c7 a8 c8), .int .i64 k] w fun e w' => ∃ v, e = .returned v ∧ Own intE w' w.heap.size v (fldS p s k) ∧ Below w.heap.size w w' := by
  unfold spotA
  obtain ⟨f1, f2, f3, f4, f5, f6, f7, f8, _⟩ := hok
  obtain ⟨j, hj⟩ : ∃ j : Nat, s.fn = j := ⟨s.fn.toNat, by omega⟩
  have hjl : j < p.funcs.length := by omega
  have hjt : j < (tOf p).funcs.length := by simpa [tOf] using hjl
  have etf : (tOf p).funcs[j] = tfn p s.fn := by
    unfold tfn
    rw [hj, Int.toNat_natCast, List.getElem?_eq_getElem hjt]
    rfl
  have etf2 := tOf_fn p j hjl hjt
  rw [etf] at etf2
  have hfR : funR p s.fn = p.funcs[j] := by rw [hj]; exact funR_at p j hjl
  rw [← hfR] at etf2
  have hbound := hp.2.2.2 (tOf p).funcs[j] (List.getElem_mem _)
  rw [etf, etf2] at hbound
  obtain ⟨_, hbs, hbo⟩ := hbound
  simp only at hbs hbo
  obtain ⟨z, hz⟩ : ∃ z, z = (funR p s.fn).objects[k] := ⟨_, rfl⟩
  have hobj : Tk.objO (tOf p) (tfn p s.fn) k = ((Tk.atN (tOf p) (tfn p s.fn) k : Int), (Tk.fieldsN (tOf p) z : Int)) := by
    rw [etf2]
    unfold Tk.objO
    rw [if_pos ⟨by omega, by simpa using hk⟩]
    simp [hk, hz]
  rw [hobj] at hpos
  have hwz : withinB z (tOf p).shapes.length = true := by
    cases h : withinB z (tOf p).shapes.length with
    | true => rfl
    | false => simp [Tk.fieldsN, h] at hpos
  obtain ⟨zn, hzn, hznl⟩ := within_nat hwz
  have hznl : zn < p.shapes.length := by simpa [tOf] using hznl
  have hsO : shpO p s.fn k = p.shapes[zn] := by
    unfold shpO
    rw [List.getElem?_eq_getElem hk, Option.getD_some, ← hz, hzn, Int.toNat_natCast, List.getElem?_eq_getElem hznl]
    rfl
  have hfN : Tk.fieldsN (tOf p) z = (shpO p s.fn k).length := by
    unfold Tk.fieldsN
    rw [if_pos hwz, hzn, Int.toNat_natCast, hsO]
    simp [tOf, hznl]
  have hatN : (Tk.atN (tOf p) (tfn p s.fn) k : Int) - 2 - (funR p s.fn).slots = (Tk.objsN (tOf p) ((funR p s.fn).objects.take k) : Nat) := by
    rw [etf2]
    unfold Tk.atN
    simp only
    omega
  have hob2 := objO_b hp (tfn p s.fn) (by rw [← etf]; exact List.getElem_mem _) (k : Int)
  rw [hobj, hfN] at hob2
  rw [hfN] at hobj
  have hshl : (shpO p s.fn k).length ≤ 3000 := by omega
  have hPV : ∀ wr, Below w.heap.size w wr → PrgVal wr D p c0 c1 c2 := fun wr hb => hv.fr (Fr.of_below hb (fun _ => False)) (fun _ _ h => h)
  have hoc : ∀ wr, Below w.heap.size w wr → Calls Tryz.prog 126 #[.agg #[c0, c1, c2], .int .i64 s.fn, .int .i64 k] wr fun e w' => e = .returned (.tuple #[.int .i64 (Tk.atN (tOf p) (tfn p s.fn) k : Nat), .int .i64 ((shpO p s.fn k).length : Nat)]) ∧ Below wr.heap.size wr w' := fun wr hb => by
    have h := Tk.object_any wr D (fun k hk => Nat.lt_of_lt_of_le (hD k hk) hb.size) (tOf p) _ _ _ j hjt (pv_of (hPV wr hb)) hp (k : Int) (by unfold i64B; omega)
    rw [etf, hobj, ← hj] at h
    exact h
  have hfc : ∀ wr, Below w.heap.size w wr → Calls Tryz.prog 34 #[.agg #[c0, c1, c2], .int .i64 s.fn] wr (FnRPost p s.fn D wr) := fun wr hb => fnR_any wr D (fun k hk => Nat.lt_of_lt_of_le (hD k hk) hb.size) p _ _ _ (hPV wr hb) s.fn
  unfold FnRPost at hfc
  have hfs : ∃ a1 m1, c1 = .slice a1 p.shapes.length m1 ∧ ShSl w D a1 p.shapes := by obtain ⟨_, ⟨a1, m1, h1, h2⟩, _⟩ := hv; exact ⟨a1, m1, h1, h2⟩
  obtain ⟨⟨ga, gc, rfl, _⟩, ⟨a1, m1, rfl, hsh⟩, a2, m2, rfl, _⟩ := hv
  obtain ⟨sb, so, rfl, hsb, sa, sc, hsc, hsI⟩ := hsh zn hznl
  rw [← hsO] at hsc hsI
  have hfl : fldS p s k = fldL s.objects (bitsP isPtrB (shpO p s.fn k) (min (shpO p s.fn k).length 16)) (Tk.objsN (tOf p) ((funR p s.fn).objects.take k)) (shpO p s.fn k).length := rfl
  have hbl : bitsP isPtrB (shpO p s.fn k) (min (shpO p s.fn k).length 16) < 65536 := Nat.lt_of_lt_of_le (bitsP_lt _ _ _) (Nat.pow_le_pow_right (n := 2) (by decide) (Nat.min_le_right _ _))
  have hpc : ∀ wr, Below w.heap.size w wr → Calls Tryz.prog 127 #[.agg #[.slice sa (shpO p s.fn k).length sc]] wr fun e w' => e = .returned (.int .u16 (bitsP isPtrB (shpO p s.fn k) (min (shpO p s.fn k).length 16) : Nat)) ∧ Below wr.heap.size wr w' := fun wr hb => shpP_any wr D sa _ sc (hsI.fr (Fr.of_below hb (fun _ => False)) (fun _ _ h => h)) (by omega)
  rw [hfl]
  obtain ⟨x, hx⟩ : ∃ x, x = Tk.atN (tOf p) (tfn p s.fn) k := ⟨_, rfl⟩
  obtain ⟨fr, hfr⟩ : ∃ fr, fr = Tk.objsN (tOf p) ((funR p s.fn).objects.take k) := ⟨_, rfl⟩
  rw [← hfr] at hatN ⊢
  rw [← hx] at hatN hoc
  simp only at hob2
  rw [← hx] at hob2
  generalize bitsP isPtrB (shpO p s.fn k) (min (shpO p s.fn k).length 16) = bt at *
  generalize (shpO p s.fn k).length = n at *
  have hzI : (funR p s.fn).objects[k]? = some (zn : Int) := by rw [List.getElem?_eq_getElem hk, ← hz, hzn]
  clear hx hfr hfl hsI hobj hfs etf etf2 hfR hwz hsO hfN hbo hPV hz hzn hpos hjt
  have i1 : IntKind.i64.wrap ((x : Int) - 2) = (x : Int) - 2 := IntWalk.i64_in _ (by omega)
  have i2 : IntKind.i64.wrap ((x : Int) - 2 - (funR p s.fn).slots) = (fr : Int) := by rw [hatN]; exact IntWalk.i64_in _ (by omega)
  have hfrb : fr ≤ 9100000 := by omega
  clear hatN
  generalize hn0 : p.globals.length = n0 at *
  generalize hn1 : p.shapes.length = n1 at *
  generalize hn2 : p.funcs.length = n2 at *
  clear hn0 hn1 hn2
  obtain ⟨A, hA⟩ : ∃ A, A = Obj.cells #[.slice ga n0 gc, .slice (some ⟨sb, so, none⟩) n1 m1, .slice a2 n2 m2] 34 := ⟨_, rfl⟩
  obtain ⟨S, hS⟩ : ∃ S, S = Obj.cells #[.int .i64 s.fn, .int .i64 s.pc, .int .i64 s.base, .bool s.leaving, .bool s.defers, .int .i64 s.value, .bool s.has, .slice a7 s.slots.length c7, .slice a8 s.objects.length c8] 36 := ⟨_, rfl⟩
  have hb0 := ((Below.refl w.heap.size w).alloc (Nat.le_refl _) A).alloc (by simp) S
  have hr0 := row_allocR (heap_new w A) S
  have hr1 := heap_new (w.alloc A) S
  have hz1 : (w.alloc A).heap.size = w.heap.size + 1 := by simp
  rw [hz1] at hr1
  obtain ⟨W, hW⟩ : ∃ W, W = (w.alloc A).alloc S := ⟨_, rfl⟩
  rw [← hW] at hb0 hr0 hr1
  rw [hA] at hr0
  rw [hS] at hr1
  rw [hA, hS] at hW
  have hq : ∀ wr, Below W.heap.size W wr → (wr.cell? ⟨w.heap.size, 0, none⟩ = some (.slice ga n0 gc) ∧ wr.cell? ⟨w.heap.size, 1, none⟩ = some (.slice (some ⟨sb, so, none⟩) n1 m1) ∧ wr.cell? ⟨w.heap.size, 2, none⟩ = some (.slice a2 n2 m2)) ∧ wr.cell? ⟨w.heap.size + 1, 0, none⟩ = some (.int .i64 s.fn) ∧ wr.cell? ⟨w.heap.size + 1, 8, none⟩ = some (.slice a8 s.objects.length c8) ∧ wr.cell? ⟨sb, so + zn, none⟩ = some (.slice sa n sc) := fun wr hb => by
    have h0 := (Fr.of_below hb (fun _ => False)).heap hr0 (fun h => h)
    have h1 := (Fr.of_below hb (fun _ => False)).heap hr1 (fun h => h)
    exact ⟨⟨(row_cell h0 0).1, (row_cell h0 1).1, (row_cell h0 2).1⟩, (row_cell h1 0).1, (row_cell h1 8).1, below_cell (hb0.trans (hb.mono hb0.size)) hsc⟩
  have h81 := h8.fr (Fr.of_below hb0 (fun _ => False)) (fun _ _ h => h)
  obtain ⟨⟨k0, k1, k2⟩, k3, _, _⟩ := hq W (Below.refl _ _)
  have HW := Lib.hid hW
  have HQ := Lib.hid hq
  have HB := Lib.hid hb0
  have HOC := Lib.hid (hoc W hb0)
  have HFC := Lib.hid hfc
  have HPC := Lib.hid hpc
  have H8 := Lib.hid h81
  have HBL := Lib.hid hbl
  have HJL := Lib.hid hjl
  have HFB := Lib.hid hfrb
  have HSH := Lib.hid hshl
  have HOL := Lib.hid f8
  have HK := Lib.hid hk
  have HZL := Lib.hid hznl
  have HZI := Lib.hid hzI
  clear hW hq hoc hfc hpc h8 h81 hb0 hr0 hr1 hz1 hA hS hsc hbl hjl hfrb hshl hob2 f1 f2 f3 f4 f5 f6 f7 f8 hk hj hznl hbs hsl0 hzI
  go_enter Tryz.func87, Tryz.ntmps87
  go_upto_region 1 with fail
  rw [← HW.out]
  go_wp2_with fail
  refine HOC.out.mono ?_
  rintro e w2 ⟨rfl, hb2⟩
  clear k0 k1 k2 k3
  obtain ⟨⟨k0, k1, k2⟩, k3, _, _⟩ := HQ.out w2 hb2
  have hfc2 := HFC.out w2 (HB.out.trans (hb2.mono HB.out.size))
  have HFC2 := Lib.hid hfc2
  have HB2 := Lib.hid hb2
  clear hfc2 hb2 HOC
  go_wp2_with fail
  refine HFC2.out.mono ?_
  rintro e w3 ⟨d0, d3, d4, rfl, hfv, hb3⟩
  obtain ⟨_, _, ⟨y0, z0, rfl, _⟩, ⟨y3, z3, rfl, _⟩, y4, z4, rfl, _⟩ := hfv
  have HB3 := Lib.hid (HB2.out.trans (hb3.mono HB2.out.size))
  clear hb3 k0 k1 k2 k3 HFC2
  have hfd := field_fun2 (.slice y0 (funR p s.fn).args.length z0) (.int .i64 (funR p s.fn).result) (.int .i64 (funR p s.fn).slots) (.slice y3 (funR p s.fn).objects.length z3) (.slice y4 (funR p s.fn).code.length z4)
  go_upto_region 3 with fail
  clear hfd i1 i2
  obtain ⟨⟨k0, k1, k2⟩, k3, _, k5⟩ := HQ.out w3 HB3.out
  have hfc3 := HFC.out w3 (HB.out.trans (HB3.out.mono HB.out.size))
  go_cut [9, 10] (fun u v wx => u = .int .i64 (fr : Int) ∧ v = .int .u16 (bt : Nat) ∧ Below W.heap.size W wx)
  case first =>
    have HFC3 := Lib.hid (HFC.out w3.drew ((HB.out.trans (HB3.out.mono HB.out.size)).drew))
    clear hfc3
    have hkL := HK.out
    have hzL := HZL.out
    go_region_law (first
      | (go_simp
         go_at_call 34
         refine HFC3.out.mono ?_
         rintro e w4 ⟨d0, d3, d4, rfl, hfv, hb4⟩
         obtain ⟨_, _, ⟨yy0, zz0, rfl, _⟩, ⟨yy3, zz3, rfl, hio⟩, yy4, zz4, rfl, _⟩ := hfv
         obtain ⟨b3, o3, rfl, _, hc3⟩ := hio k HK.out
         replace hc3 : w4.cell? ⟨b3, o3 + k, none⟩ = some (.int .i64 (zn : Int)) := hc3.trans (by rw [(List.getElem?_eq_some_iff.1 HZI.out).2])
         have HB4 := Lib.hid ((HB3.out.drew).trans (hb4.mono HB3.out.size))
         obtain ⟨⟨k0, k1, k2⟩, k3, _, k5⟩ := HQ.out w4 HB4.out
         have hfd := field_fun3 (.slice yy0 (funR p s.fn).args.length zz0) (.int .i64 (funR p s.fn).result) (.int .i64 (funR p s.fn).slots) (.slice (some ⟨b3, o3, none⟩) (funR p s.fn).objects.length zz3) (.slice yy4 (funR p s.fn).code.length zz4)
         clear hb4 hio)
      | (go_simp
         go_at_call 127
         refine (HPC.out _ (HB.out.trans (HB4.out.mono HB.out.size))).mono ?_
         rintro e w5 ⟨rfl, hb5⟩
         have HB5 := Lib.hid (HB4.out.trans (hb5.mono HB4.out.size))
         clear hb5))
    all_goals
      go_wp2_with fail
      go_meet
      exact ⟨rfl, rfl, HB5.out⟩
  case rest =>
    obtain ⟨rfl, rfl, hb5⟩ := hcut
    clear hfc3 k0 k1 k2 k3 k5
    obtain ⟨_, _, k8, _⟩ := HQ.out wc hb5
    have HB5 := Lib.hid hb5
    clear hb5 k8
    go_wp2_with fail
    go_loopw [11, 43] (fun o i wr => ∃ k : Nat, k ≤ n ∧ i = .int .i64 k ∧ Own intE wr wc.heap.size o (fldL s.objects bt fr k) ∧ Below wc.heap.size wc wr) (fun _ i _ => n - (intOf i).toNat)
    case atStart => exact ⟨0, Nat.zero_le _, rfl, Own.nil _ _ _, Below.refl _ _⟩
    case round =>
      obtain ⟨i, hi, rfl, ho, hbr⟩ := hrel
      obtain ⟨q1, q2, q3, rfl⟩ := ho.slice
      have hnn := HSH.out
      by_cases hlt : i < n
      · have hsu := fldL_succ s.objects bt fr i
        have hb := and_bit_min i HBL.out
        obtain ⟨_, _, k8, _⟩ := HQ.out wr (HB5.out.trans (hbr.mono HB5.out.size))
        have h0i : (0 : Int) ≤ (i : Int) := by omega
        have i1 : IntKind.u64.wrap (i : Int) = (i : Int) := by simp [IntKind.wrap, IntKind.bits, IntKind.signed]; omega
        have HLT := Lib.hid hlt
        cases hbit : bt.testBit i with
        | false =>
          rw [hbit] at hb
          rw [hbit, if_neg (by simp), List.append_nil] at hsu
          rw [← hsu] at ho
          have HO := Lib.hid ho
          have HBR := Lib.hid hbr
          clear hbit hsu ho hbr
          go_wp2_with fail
          go_roundw
          case rel => exact ⟨i + 1, HLT.out, by go_num, HO.out, HBR.out⟩
          case measure => simp [intOf]; omega
        | true =>
          rw [hbit] at hb
          rw [hbit, if_pos rfl] at hsu
          obtain ⟨m, hm⟩ : ∃ m, m = fr + i := ⟨_, rfl⟩
          have i2 : IntKind.i64.wrap ((fr : Int) + (i : Int)) = (m : Int) := by rw [hm]; push_cast; exact IntWalk.i64_in _ (by have := HFB.out; omega)
          rw [← hm] at hsu
          clear hm hbit
          have hlen := fldL_len s.objects bt fr i
          by_cases hml : m < s.objects.length
          · obtain ⟨x, hxe⟩ : ∃ x, x = s.objects[m] := ⟨_, rfl⟩
            obtain ⟨xb, xo, rfl, _, hxc⟩ := H8.out m hml
            have hxc := below_cell (HB5.out.trans (hbr.mono HB5.out.size)) hxc
            rw [← hxe] at hxc
            rw [List.getElem?_eq_getElem hml, ← hxe] at hsu
            have HSE := Lib.hid hsu
            have HO := Lib.hid ho
            have HBR := Lib.hid hbr
            have HLE := Lib.hid hlen
            clear hsu ho hbr hxe hlen
            go_wp2_with (at_builtin; refine append_freshR intE rfl (.tmp 61) (.tmp 69) rfl wc.heap.size (fldL s.objects bt fr i) [x] _ rfl (HO.out.alloc _) wr.heap.size 0 1 rfl (CellsAt.new _ _ _ _) ?c1 ?c2 ?_)
            case c1 => have := HLE.out; simp; omega
            case c2 => have := HBR.out.size; simp; omega
            intro v9 w9 ho9 hg9 hf9
            have hfr9 := ((Fr.refl (fun q => (Value.slice q1 q2 q3).ownBlock = some q) wr).alloc (.cells #[.int .i64 x] 3)).grown hg9 (fun k hk _ => hk)
            have hb9 := HBR.out.trans (hfr9.below HBR.out.size (fun q hq => (HO.out.lt hq).1))
            rw [show fldL s.objects bt fr i ++ [x] = fldL s.objects bt fr (i + 1) from HSE.out.symm] at ho9
            obtain ⟨x1, x2, x3, rfl⟩ := ho9.slice
            have HO9 := Lib.hid ho9
            have HB9 := Lib.hid hb9
            clear hg9 hf9 hfr9 HO HBR ho9 hb9
            go_wp2_with fail
            go_roundw
            case rel => exact ⟨i + 1, HLT.out, by go_num, HO9.out, HB9.out⟩
            case measure => simp [intOf]; omega
          · have hml2 : ¬ (m : Int) < (s.objects.length : Int) := by omega
            rw [List.getElem?_eq_none (by omega)] at hsu
            have hsu : fldL s.objects bt fr (i + 1) = fldL s.objects bt fr i := by rw [hsu]; simp
            rw [← hsu] at ho
            have HO := Lib.hid ho
            have HBR := Lib.hid hbr
            clear hsu ho hbr hlen
            go_wp2_with fail
            go_roundw
            case rel => exact ⟨i + 1, HLT.out, by go_num, HO.out, HBR.out⟩
            case measure => simp [intOf]; omega
      · have hi' : i = n := by omega
        subst hi'
        have hw5 := HB.out.trans (HB5.out.mono HB.out.size)
        have HBE := Lib.hid (hw5.trans (hbr.mono hw5.size))
        have HOE := Lib.hid (ho.base (B' := w.heap.size) (fun q hq => Nat.le_trans hw5.size (ho.lt hq).1))
        clear ho hbr hw5
        go_wp2_with fail
        go_ret
        exact ⟨_, rfl, HOE.out, HBE.out⟩
end Go.Proofs.YtknbllbhakpaaaaGreat
namespace Go.Proofs.YtknbllbhakpaaaaGreat
open Go.ChangeShapes Go.WideShapes Go.ChangeAt Go.RowKit Go.Maps
/-- block b is the set of the words of acc that are not 0, N or less -/
def SeenM (w : World) (b N : Nat) (acc : List Int) : Prop := Seen w b N (fun x => x ∈ acc ∧ x ≠ 0)
theorem SeenM.fr {w w' : World} {F : Nat → Prop} {b N : Nat} {acc : List Int} (h : SeenM w b N acc) (hf : Fr F w w') (hn : ¬ F b) : SeenM w' b N acc := Seen.fr h hf hn
theorem SeenM.below {w w' : World} {b N : Nat} {acc : List Int} (h : SeenM w b N acc) (hb : Below w.heap.size w w') : SeenM w' b N acc := Seen.below h hb
theorem SeenM.lt {w : World} {b N : Nat} {acc : List Int} (h : SeenM w b N acc) : b < w.heap.size := Seen.lt h
theorem SeenM.le {w : World} {b N M : Nat} {acc : List Int} (h : SeenM w b N acc) (hm : N ≤ M) : SeenM w b M acc := Seen.congr h (fun _ _ => Iff.rfl) hm
theorem SeenM.made (w : World) : SeenM (w.alloc (.map #[] 0)) w.heap.size 0 [] := (Seen.made w 0).congr (fun x _ => by simp) (Nat.le_refl _)
theorem putM_any (w : World) (b N : Nat) (acc : List Int) (h : SeenM w b N acc) (D : Nat → Prop) (hD : ∀ k, D k → k ≠ b) (a : Option Addr) (l : List Int) (c : Nat) (hl : IntSl w D a l) (hlB : ∀ x ∈ l, i64B x) (hn : N + l.length ≤ 100000000) :
    Calls Tryz.prog 36 #[.map (some b), .slice a l.length c] w fun e w' => e = .returned (.tuple #[]) ∧ SeenM w' b (N + l.length) (acc ++ l) ∧ Fr (fun k => k = b) w w' := by
  refine (put_any w b _ _ h D hD a l c hl hlB hn).mono ?_
  rintro e w' ⟨rfl, h1, h2⟩
  exact ⟨rfl, h1.congr (fun x _ => by rw [List.mem_append]; constructor <;> (intro h; grind)) (Nat.le_refl _), h2⟩
theorem wideM_any (w : World) (b N : Nat) (acc : List Int) (h : SeenM w b N acc) (D : Nat → Prop) (hD : ∀ k, D k → k ≠ b) (a : Option Addr) (l : List Int) (c : Nat) (hl : IntSl w D a l) (hlB : ∀ x ∈ l, i64B x) (hn : N + l.length ≤ 100000000) :
    Calls Tryz.prog 84 #[.map (some b), .slice a l.length c] w fun e w' => e = .returned (.tuple #[]) ∧ SeenM w' b (N + l.length) (acc ++ l.filter heapB) ∧ Fr (fun k => k = b) w w' := by
  refine (wide_any w b _ _ h D hD a l c hl hlB hn).mono ?_
  rintro e w' ⟨rfl, h1, h2⟩
  exact ⟨rfl, h1.congr (fun x _ => by rw [List.mem_append, List.mem_filter]; have := @heapB_ne x; constructor <;> (intro h; grind)) (Nat.le_refl _), h2⟩
def carW (cf : Bool) (n d : Nat) (s : SpotD) : List Int := if cf = true ∧ d + 1 = n then s.slots.filter heapB ++ s.objects.filter heapB else []
def valW (p : Prg) (s : SpotD) : List Int := if s.has = true ∧ ptrB (funR p s.fn).result = true then [s.value] else []
/-- the words of frame d of n -/
def frmW (p : Prg) (C : Pl → Option (List Int)) (cf : Bool) (n d : Nat) (s : SpotD) : List Int := carW cf n d s ++ ptrS C s ++ valW p s
def frsW (p : Prg) (C : Pl → Option (List Int)) (cf : Bool) (fr : List SpotD) (d : Nat) : List Int := (List.range d).flatMap (fun i => (fr[i]?).elim [] (fun s => frmW p C cf fr.length i s))
theorem frsW_succ {p : Prg} {C : Pl → Option (List Int)} {cf : Bool} {fr : List SpotD} {d : Nat} {s : SpotD} (h : fr[d]? = some s) : frsW p C cf fr (d + 1) = frsW p C cf fr d ++ frmW p C cf fr.length d s := by
  unfold frsW
  rw [List.range_succ, List.flatMap_append]
  simp [h]
def livW (p : Prg) (fr : List SpotD) (L : List NPl) (i : Nat) : List Int := (L.take i).flatMap (fun y => (fr[y.1.1]?).elim [] (fun s => fldS p s y.1.2))
theorem livW_succ {p : Prg} {fr : List SpotD} {L : List NPl} {i : Nat} {y : NPl} {s : SpotD} (h : L[i]? = some y) (hs : fr[y.1.1]? = some s) : livW p fr L (i + 1) = livW p fr L i ++ fldS p s y.1.2 := by
  unfold livW
  rw [List.take_add_one, h]
  simp [hs]
theorem fldL_len16 (l : List Int) (bits fr : Nat) (hb : bits < 65536) : ∀ n, (fldL l bits fr n).length ≤ 16
  | 0 => by simp [fldL]
  | n + 1 => by
    have h1 := fldL_len l bits fr n
    have h2 := fldL_len16 l bits fr hb n
    rw [fldL_succ, List.length_append]
    by_cases h : n < 16
    · split
      · cases l[fr + n]? <;> simp <;> omega
      · simp; omega
    · rw [Nat.testBit_lt_two_pow (Nat.lt_of_lt_of_le hb (Nat.pow_le_pow_right (n := 2) (i := 16) (by decide) (by omega)))]
      simp
      exact h2
theorem fldS_len (p : Prg) (s : SpotD) (k : Nat) : (fldS p s k).length ≤ 16 := fldL_len16 _ _ _ (Nat.lt_of_lt_of_le (bitsP_lt _ _ _) (Nat.pow_le_pow_right (n := 2) (by decide) (Nat.min_le_right _ _))) _
theorem fldS_mem {p : Prg} {s : SpotD} {k : Nat} {x : Int} (h : x ∈ fldS p s k) : x ∈ s.objects := by
  unfold fldS fldL at h
  obtain ⟨i, _, h⟩ := List.mem_filterMap.1 h
  split at h
  · exact List.mem_of_getElem? h
  · cases h
def ScanPost (p : Prg) (C : Pl → Option (List Int)) (l : LifeD) (cf : Bool) (w : World) (e : Ending) (w' : World) : Prop :=
  ∃ v L L0, e = .returned v ∧ L0.Pairwise ltN ∧ (∀ y : NPl, y ∈ L0 ↔ Fnd C (addrL p l.seg l.frames l.frames.length) l.frames l.frames.length 0 y.1) ∧
    Own intE w' w.heap.size v L ∧ Rising L ∧ (∀ x, x ∈ L ↔ (i64B x ∧ x ∈ frsW p C cf l.frames l.frames.length ++ livW p l.frames L0 L0.length ++ recW p l ∧ x ≠ 0)) ∧ Below w.heap.size w w'
end Go.Proofs.YtknbllbhakpaaaaGreat
