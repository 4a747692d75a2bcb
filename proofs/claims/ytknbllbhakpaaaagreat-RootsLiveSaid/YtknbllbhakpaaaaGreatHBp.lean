/- Walks: roots.Precise, Careful. Walk: roots.Objects. Flow, plainly: a table of kinds that is the flow of a function, by reckoning. Nothing of the program's text stands here. Walk: the first call of chapter 17's statements. -/
import Derived.Test.YtknbllbhakpaaaaGreatHBo
import Derived.Test.YtknbllbhakpaaaaGreatHBe
set_option linter.unusedVariables false
set_option linter.unusedSimpArgs false
namespace Go.Proofs.YtknbllbhakpaaaaGreat
open Go.ChangeShapes Go.WideShapes Go.ChangeAt Go.RowKit Go.Maps
set_option maxRecDepth 100000 in
set_option maxHeartbeats 1600000 in
theorem precise_any (w : World) (D : Nat → Prop) (hD : ∀ k, D k → k < w.heap.size) (p : Prg) (c0 c1 c2 : Value) (hv : PrgVal w D p c0 c1 c2) (hp : Tk.PSmall (tOf p)) (hB : PrgB p) (hsl0 : ∀ n, 0 ≤ (funR p n).slots) (l : LifeD) (a3 a4 a5 : Option Addr) (m3 m4 m5 : Nat) (hl : LifeVal w D l a3 m3 a4 m4 a5 m5) (hok : LifeOk p l)
    (B mb b0 nm : Nat) (V : Nat → Prop) (C : Pl → Option (List Int)) (hm : MapsAt w B mb b0 nm V C) (hCl : ∀ x K, C x = some K → K.length ≤ 16) :
    Calls Tryz.prog 12 #[.agg #[c0, c1, c2], .pointer (some ⟨mb, 0, none⟩), .agg (lifeA l a3 m3 a4 m4 a5 m5)] w (ScanPost p C l false w) := by
  have hsc : ∀ wr, Below w.heap.size w wr → Calls Tryz.prog 38 #[.agg #[c0, c1, c2], .pointer (some ⟨mb, 0, none⟩), .agg (lifeA l a3 m3 a4 m4 a5 m5), .bool false] wr (ScanPost p C l false wr) := fun wr hb => scan_no wr D (fun k hk => Nat.lt_of_lt_of_le (hD k hk) hb.size) p c0 c1 c2 (hv.fr (Fr.of_below hb (fun _ => False)) (fun _ _ h => h)) hp hB hsl0 l a3 a4 a5 m3 m4 m5 (hl.below hb) hok B mb b0 nm V C (hm.below hb) hCl
  obtain ⟨⟨ga, gc, rfl, _⟩, ⟨a1, m1, rfl, _⟩, a2, m2, rfl, _⟩ := hv
  unfold ScanPost
  unfold ScanPost at hsc
  generalize recW p l = RW at *
  obtain ⟨lst, seg, wds, frs, ths, als, blk⟩ := l
  unfold lifeA at *
  simp only at hsc ⊢
  generalize addrL p seg frs frs.length = AD at *
  generalize frsW p C false frs frs.length = FW at *
  clear hl hok hp hB hsl0
  generalize ths.length = nt at *
  generalize als.length = na at *
  generalize p.globals.length = n0 at *
  generalize p.shapes.length = n1 at *
  generalize p.funcs.length = n2 at *
  obtain ⟨A, hA⟩ : ∃ A, A = Obj.cells #[.slice ga n0 gc, .slice a1 n1 m1, .slice a2 n2 m2] 34 := ⟨_, rfl⟩
  obtain ⟨L, hL⟩ : ∃ L, L = Obj.cells #[.int .i64 lst, .int .i64 seg, .int .i64 wds, .slice a3 frs.length m3, .slice a4 nt m4, .slice a5 na m5, .bool blk] 46 := ⟨_, rfl⟩
  have hb1 := ((Below.refl w.heap.size w).alloc (Nat.le_refl _) A).alloc (by simp) L
  have hz1 : (w.alloc A).heap.size = w.heap.size + 1 := by simp
  have hr0 := row_allocR (heap_new w A) L
  have hr1 := heap_new (w.alloc A) L
  rw [hz1] at hr1
  obtain ⟨W, hW⟩ : ∃ W, W = (w.alloc A).alloc L := ⟨_, rfl⟩
  rw [← hW] at hb1 hr0 hr1
  rw [hA, hL] at hW
  rw [hA] at hr0
  rw [hL] at hr1
  have k0 : W.cell? ⟨w.heap.size, 0, none⟩ = some (.slice ga n0 gc) := (row_cell hr0 0).1
  have k1 : W.cell? ⟨w.heap.size, 1, none⟩ = some (.slice a1 n1 m1) := (row_cell hr0 1).1
  have k2 : W.cell? ⟨w.heap.size, 2, none⟩ = some (.slice a2 n2 m2) := (row_cell hr0 2).1
  have j0 : W.cell? ⟨w.heap.size + 1, 0, none⟩ = some (.int .i64 lst) := (row_cell hr1 0).1
  have j1 : W.cell? ⟨w.heap.size + 1, 1, none⟩ = some (.int .i64 seg) := (row_cell hr1 1).1
  have j2 : W.cell? ⟨w.heap.size + 1, 2, none⟩ = some (.int .i64 wds) := (row_cell hr1 2).1
  have j3 : W.cell? ⟨w.heap.size + 1, 3, none⟩ = some (.slice a3 frs.length m3) := (row_cell hr1 3).1
  have j4 : W.cell? ⟨w.heap.size + 1, 4, none⟩ = some (.slice a4 nt m4) := (row_cell hr1 4).1
  have j5 : W.cell? ⟨w.heap.size + 1, 5, none⟩ = some (.slice a5 na m5) := (row_cell hr1 5).1
  have j6 : W.cell? ⟨w.heap.size + 1, 6, none⟩ = some (.bool blk) := (row_cell hr1 6).1
  have HSC := Lib.hid (hsc W hb1)
  have HW := Lib.hid hW
  have HB1 := Lib.hid hb1
  clear hsc hW hb1 hr0 hr1 hz1 hA hL hm hCl hD
  go_enter Tryz.func12, Tryz.ntmps12
  go_upto_region 1 with fail
  rw [← HW.out]
  go_wp2_with fail
  refine HSC.out.mono ?_
  rintro e w5 ⟨v, L, L0, rfl, h1, h2, ho, h3, h4, hb⟩
  have H1 := Lib.hid h1
  have H2 := Lib.hid h2
  have H3 := Lib.hid h3
  have H4 := Lib.hid h4
  have HO := Lib.hid (ho.base (B' := w.heap.size) (fun q hq => Nat.le_trans HB1.out.size (ho.lt hq).1))
  have HB := Lib.hid (HB1.out.trans (hb.mono HB1.out.size))
  clear h1 h2 h3 h4 ho hb
  go_wp2_with fail
  go_ret
  exact ⟨v, L, L0, rfl, H1.out, H2.out, HO.out, H3.out, H4.out, HB.out⟩
end Go.Proofs.YtknbllbhakpaaaaGreat
namespace Go.Proofs.YtknbllbhakpaaaaGreat
open Go.ChangeShapes Go.WideShapes Go.ChangeAt Go.RowKit Go.Maps
set_option maxRecDepth 100000 in
def pairE : Elem Tryz.prog (Int × Int) where
  e := 62
  t := 60
  size := 2
  bytes := 16
  zero := .agg #[.int .i64 0, .int .i64 0]
  enc := fun x => [.int .i64 x.1, .int .i64 x.2]
  ht := Tryz.underlying60
  info := by kernel_rfl
  hzs := rfl
  hsz := by decide
  hby := by decide
  henc := fun _ => rfl
  hone := fun x u h => by simp at h; rcases h with rfl | rfl <;> rfl
def pairL (L : List NPl) : List (Int × Int) := L.map (fun y => (((y.1.1 : Nat) : Int), ((y.1.2 : Nat) : Int)))
def ObjsPost (p : Prg) (C : Pl → Option (List Int)) (l : LifeD) (w : World) (e : Ending) (w' : World) : Prop :=
  ∃ v L0, e = .returned v ∧ L0.Pairwise ltN ∧ (∀ y : NPl, y ∈ L0 ↔ Fnd C (addrL p l.seg l.frames l.frames.length) l.frames l.frames.length 0 y.1) ∧ Own pairE w' w.heap.size v (pairL L0) ∧ Below w.heap.size w w'
set_option maxRecDepth 100000 in
set_option maxHeartbeats 1600000 in
theorem objects_any (w : World) (D : Nat → Prop) (hD : ∀ k, D k → k < w.heap.size) (p : Prg) (c0 c1 c2 : Value) (hv : PrgVal w D p c0 c1 c2) (hp : Tk.PSmall (tOf p)) (l : LifeD) (a3 a4 a5 : Option Addr) (m3 m4 m5 : Nat) (hl : LifeVal w D l a3 m3 a4 m4 a5 m5) (hok : LifeOk p l)
    (B mb b0 nm : Nat) (V : Nat → Prop) (C : Pl → Option (List Int)) (hm : MapsAt w B mb b0 nm V C) (hCl : ∀ x K, C x = some K → K.length ≤ 16) :
    Calls Tryz.prog 14 #[.agg #[c0, c1, c2], .pointer (some ⟨mb, 0, none⟩), .agg (lifeA l a3 m3 a4 m4 a5 m5)] w (ObjsPost p C l w) := by
  have hsc : ∀ wr, Below w.heap.size w wr → Calls Tryz.prog 40 #[.agg #[c0, c1, c2], .pointer (some ⟨mb, 0, none⟩), .agg (lifeA l a3 m3 a4 m4 a5 m5)] wr (LivePost p C l wr) := fun wr hb => live_any wr D (fun k hk => Nat.lt_of_lt_of_le (hD k hk) hb.size) p c0 c1 c2 (hv.fr (Fr.of_below hb (fun _ => False)) (fun _ _ h => h)) hp l a3 a4 a5 m3 m4 m5 (hl.below hb) hok B mb b0 nm V C (hm.below hb) hCl
  obtain ⟨⟨ga, gc, rfl, _⟩, ⟨a1, m1, rfl, _⟩, a2, m2, rfl, _⟩ := hv
  unfold ObjsPost
  unfold LivePost at hsc
  obtain ⟨lst, seg, wds, frs, ths, als, blk⟩ := l
  unfold lifeA at *
  simp only at hsc ⊢
  generalize addrL p seg frs frs.length = AD at *
  clear hl hok hp
  generalize ths.length = nt at *
  generalize als.length = na at *
  generalize p.globals.length = n0 at *
  generalize p.shapes.length = n1 at *
  generalize p.funcs.length = n2 at *
  obtain ⟨A, hA⟩ : ∃ A, A = Obj.cells #[.slice ga n0 gc, .slice a1 n1 m1, .slice a2 n2 m2] 34 := ⟨_, rfl⟩
  obtain ⟨L, hL⟩ : ∃ L, L = Obj.cells #[.int .i64 lst, .int .i64 seg, .int .i64 wds, .slice a3 frs.length m3, .slice a4 nt m4, .slice a5 na m5, .bool blk] 46 := ⟨_, rfl⟩
  have hb1 := ((Below.refl w.heap.size w).alloc (Nat.le_refl _) A).alloc (by simp) L
  have hz1 : (w.alloc A).heap.size = w.heap.size + 1 := by simp
  have hr0 := row_allocR (heap_new w A) L
  have hr1 := heap_new (w.alloc A) L
  rw [hz1] at hr1
  obtain ⟨W, hW⟩ : ∃ W, W = (w.alloc A).alloc L := ⟨_, rfl⟩
  rw [← hW] at hb1 hr0 hr1
  rw [hA, hL] at hW
  rw [hA] at hr0
  rw [hL] at hr1
  have k0 : W.cell? ⟨w.heap.size, 0, none⟩ = some (.slice ga n0 gc) := (row_cell hr0 0).1
  have k1 : W.cell? ⟨w.heap.size, 1, none⟩ = some (.slice a1 n1 m1) := (row_cell hr0 1).1
  have k2 : W.cell? ⟨w.heap.size, 2, none⟩ = some (.slice a2 n2 m2) := (row_cell hr0 2).1
  have j0 : W.cell? ⟨w.heap.size + 1, 0, none⟩ = some (.int .i64 lst) := (row_cell hr1 0).1
  have j1 : W.cell? ⟨w.heap.size + 1, 1, none⟩ = some (.int .i64 seg) := (row_cell hr1 1).1
  have j2 : W.cell? ⟨w.heap.size + 1, 2, none⟩ = some (.int .i64 wds) := (row_cell hr1 2).1
  have j3 : W.cell? ⟨w.heap.size + 1, 3, none⟩ = some (.slice a3 frs.length m3) := (row_cell hr1 3).1
  have j4 : W.cell? ⟨w.heap.size + 1, 4, none⟩ = some (.slice a4 nt m4) := (row_cell hr1 4).1
  have j5 : W.cell? ⟨w.heap.size + 1, 5, none⟩ = some (.slice a5 na m5) := (row_cell hr1 5).1
  have j6 : W.cell? ⟨w.heap.size + 1, 6, none⟩ = some (.bool blk) := (row_cell hr1 6).1
  have HSC := Lib.hid (hsc W hb1)
  have HW := Lib.hid hW
  have HB1 := Lib.hid hb1
  clear hsc hW hb1 hr0 hr1 hz1 hA hL hm hCl hD
  go_enter Tryz.func14, Tryz.ntmps14
  go_upto_region 1 with fail
  rw [← HW.out]
  go_wp2_with fail
  refine HSC.out.mono ?_
  rintro e w5 ⟨v, L0, rfl, hln, h1, h2, hpl, hb⟩
  obtain ⟨va, vc, rfl, hpc⟩ := hpl
  have H1 := Lib.hid h1
  have H2 := Lib.hid h2
  have HLN := Lib.hid hln
  have HB := Lib.hid (HB1.out.trans (hb.mono HB1.out.size))
  have HPC := Lib.hid (show ∀ j (h : j < L0.length), ∃ g o, va = some ⟨g, o, none⟩ ∧ w5.cell? ⟨g, o + j * 2, none⟩ = some (.int .i64 (L0[j].1.1 : Nat)) ∧ w5.cell? ⟨g, o + j * 2 + 1, none⟩ = some (.int .i64 (L0[j].1.2 : Nat)) from fun j h => by
    obtain ⟨g, o, e, hg, h1, h2⟩ := hpc j h
    rw [Nat.mul_comm] at h1 h2
    exact ⟨g, o, e, h1, h2⟩)
  clear h1 h2 hpc hb hln k0 k1 k2 j0 j1 j2 j3 j4 j5 j6 HSC
  go_wp2_with fail
  go_loopw [7, 15] (fun o i wr => ∃ k : Nat, k ≤ L0.length ∧ i = .int .i64 k ∧ Own pairE wr w5.heap.size o (pairL (L0.take k)) ∧ Below w5.heap.size w5 wr) (fun _ i _ => L0.length - (intOf i).toNat)
  case atStart => exact ⟨0, Nat.zero_le _, rfl, Own.nil _ _ _, Below.refl _ _⟩
  case round =>
    obtain ⟨k, hk, rfl, ho, hbr⟩ := hrel
    obtain ⟨q1, q2, q3, rfl⟩ := ho.slice
    have hln := HLN.out
    by_cases hlt : k < L0.length
    · obtain ⟨y, hye⟩ : ∃ y, y = L0[k] := ⟨_, rfl⟩
      obtain ⟨g, o, rfl, h0, h1⟩ := HPC.out k hlt
      rw [← hye] at h0 h1
      have h0 := below_cell hbr h0
      have h1 := below_cell hbr h1
      have hsu : pairL (L0.take (k + 1)) = pairL (L0.take k) ++ [(((y.1.1 : Nat) : Int), ((y.1.2 : Nat) : Int))] := by
        unfold pairL
        rw [List.take_add_one, List.getElem?_eq_getElem hlt, ← hye]
        simp
      have hpl : (pairL (L0.take k)).length ≤ 300000 := by unfold pairL; rw [List.length_map, List.length_take]; omega
      obtain ⟨S, hS0⟩ : ∃ S, S = Obj.cells #[.int .i64 (y.1.1 : Nat), .int .i64 (y.1.2 : Nat)] 109 := ⟨_, rfl⟩
      have hab := (Below.refl wr.heap.size wr).alloc (Nat.le_refl _) S
      obtain ⟨wb, hwb⟩ : ∃ wb, wb = wr.alloc S := ⟨_, rfl⟩
      rw [← hwb] at hab
      have hrs : wb.heap[wr.heap.size]? = some S := by rw [hwb]; exact heap_new wr S
      rw [hS0] at hwb hrs
      have t0 : wb.cell? ⟨wr.heap.size, 0, none⟩ = some (.int .i64 (y.1.1 : Nat)) := (row_cell hrs 0).1
      have t1 : wb.cell? ⟨wr.heap.size, 1, none⟩ = some (.int .i64 (y.1.2 : Nat)) := (row_cell hrs 1).1
      have hzb := hab.size
      have HO := Lib.hid (show Own pairE wb w5.heap.size (.slice q1 q2 q3) (pairL (L0.take k)) from by rw [hwb]; exact ho.alloc _)
      have HBB := Lib.hid (hbr.trans (hab.mono hbr.size))
      have HSU := Lib.hid hsu
      have HPL := Lib.hid hpl
      have HWB := Lib.hid hwb
      have HLT := Lib.hid hlt
      have T0 := Lib.hid t0
      have T1 := Lib.hid t1
      clear ho hbr hye hsu hpl hS0 hwb hrs hab t0 t1 hzb
      go_upto_region 5 with fail
      rw [← HWB.out]
      clear h0 h1 HWB
      have t0 := T0.out
      have t1 := T1.out
      go_wp2_with (at_builtin; refine append_freshR pairE rfl (.tmp 19) (.tmp 25) rfl w5.heap.size (pairL (L0.take k)) [(((y.1.1 : Nat) : Int), ((y.1.2 : Nat) : Int))] _ rfl (HO.out.alloc _) wb.heap.size 0 1 rfl (CellsAt.new _ _ _ _) ?c1 ?c2 ?_)
      case c1 => have := HPL.out; simp; omega
      case c2 => have := HBB.out.size; simp; omega
      intro v9 w9 ho9 hg9 hf9
      have hfr9 := ((Fr.refl (fun q => (Value.slice q1 q2 q3).ownBlock = some q) wb).alloc (.cells #[.int .i64 (y.1.1 : Nat), .int .i64 (y.1.2 : Nat)] 62)).grown hg9 (fun k hk _ => hk)
      have hb9 := HBB.out.trans (hfr9.below HBB.out.size (fun q hq => (HO.out.lt hq).1))
      rw [← HSU.out] at ho9
      obtain ⟨x1, x2, x3, rfl⟩ := ho9.slice
      have HO9 := Lib.hid ho9
      have HB9 := Lib.hid hb9
      clear hg9 hf9 hfr9 HO HBB ho9 hb9 t0 t1
      go_wp2_with fail
      go_roundw
      case rel => exact ⟨k + 1, HLT.out, by go_num, HO9.out, HB9.out⟩
      case measure => simp [intOf]; omega
    · have hk' : k = L0.length := by omega
      subst hk'
      rw [List.take_length] at ho
      have HBE := Lib.hid (HB.out.trans (hbr.mono HB.out.size))
      have HOE := Lib.hid (ho.base (B' := w.heap.size) (fun q hq => Nat.le_trans HB.out.size (ho.lt hq).1))
      clear ho hbr
      go_wp2_with fail
      go_ret
      exact ⟨_, L0, rfl, H1.out, H2.out, HOE.out, HBE.out⟩
end Go.Proofs.YtknbllbhakpaaaaGreat
namespace Go.Proofs.YtknbllbhakpaaaaGreat
open Go.ChangeShapes Go.WideShapes Go.ChangeAt Go.RowKit Go.Maps
def leB (K L : List Int) : Bool := K.length == L.length && (List.range K.length).all fun j => (K[j]?).getD 0 == 0 || (K[j]?).getD 0 == (L[j]?).getD 0
theorem leB_le {K L : List Int} (h : leB K L = true) : Le K L := by
  unfold leB at h
  rw [Bool.and_eq_true] at h
  refine ⟨by simpa using h.1, fun j => ?_⟩
  rcases Nat.lt_or_ge j K.length with hj | hj
  · have := List.all_eq_true.1 h.2 j (List.mem_range.2 hj)
    simpa using this
  · rw [List.getElem?_eq_none hj]
    exact .inl rfl
def tblF (t : List (Option (List Int))) : Flo := fun q => (t[q]?).getD none
/-- the table holds -/
def solB (p : Prg) (f : Fun) (t : List (Option (List Int))) : Bool :=
  t.length == f.code.length && (match tblF t 0 with | some K => leB K (firstK f) | none => false) &&
  (List.range f.code.length).all fun q => match tblF t q with
    | none => true
    | some K => K.length == f.slots.toNat && (nextK (insAt f q) q).all fun m => !decide (0 ≤ m ∧ m < f.code.length) || (match tblF t m.toNat with | some L => leB L (outK p f (insAt f q) K) | none => false)
/-- each place of the table is the first one, or it has just what an earlier one hands on -/
def treeB (p : Prg) (f : Fun) (t : List (Option (List Int))) (par : List Nat) : Bool :=
  (List.range f.code.length).all fun q => match tblF t q with
    | none => true
    | some K => (q == 0 && leB K (firstK f) && leB (firstK f) K) || (let r := (par[q]?).getD 0; decide (r < q) && (nextK (insAt f r) r).contains (q : Int) && (match tblF t r with | some L => outK p f (insAt f r) L == K | none => false))
theorem isFlow_tbl {p : Prg} {f : Fun} {t : List (Option (List Int))} {par : List Nat} (ho : ∀ i ∈ f.code, InsOk p i) (h1 : solB p f t = true) (h2 : treeB p f t par = true) : IsFlow p f (tblF t) := by
  have hlen : t.length = f.code.length := by
    unfold solB at h1
    rw [Bool.and_eq_true, Bool.and_eq_true] at h1
    simpa using h1.1.1
  have hlt : ∀ q K, tblF t q = some K → q < f.code.length := fun q K hq => by
    rcases Nat.lt_or_ge q t.length with h | h
    · omega
    · unfold tblF at hq
      rw [List.getElem?_eq_none h] at hq
      cases hq
  have hat : ∀ q i, f.code[q]? = some i → insAt f q = i := fun q i hi => by unfold insAt; rw [hi]; rfl
  have hin : ∀ {q}, q < f.code.length → f.code[q]? = some (insAt f q) := fun {q} hq => by
    unfold insAt
    rw [List.getElem?_eq_getElem hq]
    rfl
  unfold solB at h1
  rw [Bool.and_eq_true, Bool.and_eq_true] at h1
  obtain ⟨⟨_, h1a⟩, h1b⟩ := h1
  have hrow : ∀ q K, tblF t q = some K → K.length = f.slots.toNat ∧ ∀ m : Nat, (m : Int) ∈ nextK (insAt f q) q → m < f.code.length → ∃ L, tblF t m = some L ∧ Le L (outK p f (insAt f q) K) := fun q K hq => by
    have h3 := List.all_eq_true.1 h1b q (List.mem_range.2 (hlt q K hq))
    simp only [hq] at h3
    rw [Bool.and_eq_true] at h3
    refine ⟨by simpa using h3.1, fun m hm hml => ?_⟩
    have h4 := List.all_eq_true.1 h3.2 (m : Int) hm
    rw [decide_eq_true (show (0 : Int) ≤ (m : Int) ∧ (m : Int) < (f.code.length : Int) by omega)] at h4
    simp only [Int.toNat_natCast, Bool.not_true, Bool.false_or] at h4
    cases hL : tblF t m with
    | none => rw [hL] at h4; cases h4
    | some L => rw [hL] at h4; exact ⟨L, rfl, leB_le h4⟩
  refine ⟨⟨?_, fun q K hq => ⟨hlt q K hq, (hrow q K hq).1⟩, fun q K i hq hi m hm hml => ?_⟩, fun S hS q => ?_⟩
  · cases h0 : tblF t 0 with
    | none => rw [h0] at h1a; cases h1a
    | some K => rw [h0] at h1a; exact ⟨K, rfl, leB_le h1a⟩
  · have e := hat q i hi
    subst e
    exact (hrow q K hq).2 m hm hml
  · induction q using Nat.strongRecOn with
    | ind q ih =>
      intro K hq
      have hql := hlt q K hq
      have h3 := List.all_eq_true.1 h2 q (List.mem_range.2 hql)
      simp only [hq] at h3
      rw [Bool.or_eq_true] at h3
      rcases h3 with h3 | h3
      · rw [Bool.and_eq_true, Bool.and_eq_true] at h3
        obtain ⟨⟨e, _⟩, h5⟩ := h3
        have e : q = 0 := by simpa using e
        subst e
        obtain ⟨L, hL, hle⟩ := hS.first
        exact ⟨L, hL, hle.trans (leB_le h5)⟩
      · generalize (par[q]?).getD 0 = r at h3
        simp only [Bool.and_eq_true] at h3
        obtain ⟨⟨hr, hc⟩, hK⟩ := h3
        have hr := of_decide_eq_true hr
        cases hL : tblF t r with
        | none => rw [hL] at hK; cases hK
        | some L =>
          rw [hL] at hK
          have hK : outK p f (insAt f r) L = K := by simpa using hK
          have hrl := hlt r L hL
          obtain ⟨L', hL', hle'⟩ := ih r hr L hL
          have hmem : (q : Int) ∈ nextK (insAt f r) r := by simpa using hc
          obtain ⟨M, hM, hMle⟩ := hS.step r L' _ hL' (hin hrl) q hmem hql
          refine ⟨M, hM, hMle.trans ?_⟩
          rw [← hK]
          exact outK_le hle' p f _ (ho _ (List.mem_of_getElem? (hin hrl)))
theorem flow_uniq {p : Prg} {f : Fun} {M N : Flo} (h : IsFlow p f M) (h2 : IsFlow p f N) : M = N := by
  have hle2 : ∀ {K L : List Int}, Le K L → Le L K → K = L := fun {K L} h h2 => by
    refine List.ext_getElem h.1 fun j hj hj2 => ?_
    have e := h.2 j
    have e2 := h2.2 j
    rw [List.getElem?_eq_getElem hj, List.getElem?_eq_getElem hj2] at e e2
    simp only [Option.getD_some] at e e2
    omega
  funext q
  cases hm : M q with
  | none =>
    cases hn : N q with
    | none => rfl
    | some K =>
      obtain ⟨L, hL, _⟩ := h2.2 M h.1 q K hn
      rw [hm] at hL
      cases hL
  | some K =>
    obtain ⟨L, hL, hle⟩ := h.2 N h2.1 q K hm
    obtain ⟨K2, hK2, hle3⟩ := h2.2 M h.1 q L hL
    rw [hm] at hK2
    injection hK2 with e
    subst e
    rw [hL, hle2 hle hle3]
/-- a program whose every function has its table -/
def TabOk (p : Prg) (tb : Nat → List (Option (List Int))) : Prop := ∀ i, i < p.funcs.length → IsFlow p (fnAt p i) (tblF (tb i)) ∧ (flowE p (fnAt p i) (tblF (tb i))).1 = 0
theorem tab_flow {p : Prg} {tb : Nat → List (Option (List Int))} (h0 : (progS p).1 = 0) (ht : TabOk p tb) {w : World} {e : Ending} {w' : World} (h : FlowPost p w e w') :
    Below w.heap.size w w' ∧ ∃ Ms mb b nm V, (∀ i, i < p.funcs.length → Ms i = tblF (tb i)) ∧ e = .returned (.tuple #[.pointer (some ⟨mb, 0, none⟩), .int .i64 0, .agg #[.int .i64 0, .int .i64 0]]) ∧ MapsAt w' w.heap.size mb b nm V (allM p.funcs.length Ms) := by
  obtain ⟨hb, h⟩ := h
  refine ⟨hb, ?_⟩
  rcases h with ⟨E, fn, pc, hf, _⟩ | ⟨_, Ms, mb, b, nm, V, hms, he, hm⟩
  · obtain ⟨hE, hf⟩ := hf
    rcases hf with hf | ⟨_, hfn, Ms, hms, _, hfe⟩
    · rw [hf] at h0
      exact absurd h0 hE
    · have hu := flow_uniq (hms fn (Nat.le_refl _)) (ht fn hfn).1
      rw [hu] at hfe
      have h2 := (ht fn hfn).2
      rw [hfe] at h2
      exact absurd h2 hE
  · exact ⟨Ms, mb, b, nm, V, fun i hi => flow_uniq (hms i hi).1 (ht i hi).1, he, hm⟩
end Go.Proofs.YtknbllbhakpaaaaGreat
namespace Go.Proofs.YtknbllbhakpaaaaGreat
open Go.ChangeShapes Go.WideShapes Go.ChangeAt Go.RowKit Go.Maps
def p17 : Prg := ⟨[], [[1]], [⟨[], 0, 1, [], [⟨11, 0, 0, 0⟩, ⟨27, 0, 0, 0⟩]⟩]⟩
def t17 (_ : Nat) : List (Option (List Int)) := [some [0], some [16]]
def s17 : SpotD := ⟨0, 1, 0, false, false, 0, false, [1048580], []⟩
def l17 : LifeD := ⟨0, 1073741824, 3, [s17], [[]], [], false⟩
theorem insOkR_of (p : Prg) (o a b c : Int) (h : o ≠ 17 ∧ o ≠ 21 ∧ o ≠ 23 ∧ o ≠ 24) : InsOk p ⟨o, a, b, c⟩ :=
  ⟨fun e => absurd e h.1, fun k _ e => by have e : o = 21 ∨ o = 23 ∨ o = 24 := e; omega⟩
theorem p17_S : progS p17 = (0, 0, 0) := by decide +kernel
theorem p17_B : PrgB p17 ∧ PrgR p17 := by
  unfold PrgB PrgR FunB Ins.wf i64B p17
  simp
theorem p17_tab : TabOk p17 t17 := fun i hi => by
  obtain rfl : i = 0 := by have : i < 1 := hi; omega
  refine ⟨isFlow_tbl (par := [0, 0]) (fun j hj => ?_) (by decide +kernel) (by decide +kernel), by decide +kernel⟩
  have hj : j ∈ [(⟨11, 0, 0, 0⟩ : Ins), ⟨27, 0, 0, 0⟩] := hj
  simp at hj
  rcases hj with rfl | rfl <;> exact insOkR_of _ _ _ _ _ (by decide)
theorem p17_small : Tk.PSmall (tOf p17) := by
  unfold Tk.PSmall tOf p17
  simp
theorem p17_slots (n : Int) : 0 ≤ (funR p17 n).slots := by
  unfold funR
  split
  · cases h : p17.funcs[n.toNat]? with
    | none => simp [fun0]
    | some f =>
      have := List.mem_of_getElem? h
      simp [p17] at this
      rw [this]
      simp
  · simp [fun0]
theorem l17_ok : LifeOk p17 l17 := by
  unfold LifeOk FrmOk l17 s17 p17 i64B
  simp
theorem addr17 : addrL p17 l17.seg l17.frames l17.frames.length = [] := by decide +kernel
theorem rec17 : recW p17 l17 = [] := by decide +kernel
theorem val17 : valW p17 s17 = [] := by decide +kernel
theorem nofnd (C : Pl → Option (List Int)) (fr : List SpotD) (d k : Nat) (y : Nat × Nat) : ¬ Fnd C [] fr d k y := by
  rintro ⟨i, s, v, _, h, _⟩
  simp [mapOf] at h
theorem ptrS17 (C : Pl → Option (List Int)) (hI : i64B 0 ∧ i64B 1) (hC : C ⟨(0, 1), hI⟩ = some [16]) : ptrS C s17 = [1048580] := by
  have hk : kdsR C 0 1 = [16] := by unfold kdsR; rw [dif_pos hI, hC]; rfl
  show selL [1048580] (bitsP isPtrB (kdsR C 0 1) (kdsR C 0 1).length) 1 = _
  rw [hk]
  decide +kernel
theorem no_live {L0 : List NPl} {C : Pl → Option (List Int)} {fr : List SpotD} {d k : Nat} (h : ∀ y : NPl, y ∈ L0 ↔ Fnd C [] fr d k y.1) : L0 = [] := List.eq_nil_iff_forall_not_mem.2 fun y hy => nofnd _ _ _ _ _ ((h y).1 hy)
theorem scan17 {C : Pl → Option (List Int)} (hI : i64B 0 ∧ i64B 1) (hC : C ⟨(0, 1), hI⟩ = some [16]) {w : World} {e : Ending} {w' : World} (h : ScanPost p17 C l17 false w e w') : ∃ v, e = .returned v ∧ Own intE w' w.heap.size v [1048580] ∧ Below w.heap.size w w' := by
  obtain ⟨v, L, L0, rfl, _, hm, ho, hr, hx, hb⟩ := h
  rw [addr17] at hm
  obtain rfl := no_live hm
  have hf : frsW p17 C false l17.frames l17.frames.length = [1048580] := by
    show frsW p17 C false [s17] 1 = _
    rw [frsW_succ (s := s17) rfl]
    unfold frmW
    rw [ptrS17 C hI hC, val17]
    rfl
  rw [hf, rec17] at hx
  have hL : L = [1048580] := Rising.eq hr (by unfold Rising; simp) fun x => by
    rw [hx x]
    simp [livW]
    constructor
    · rintro ⟨_, h, _⟩; exact h
    · rintro rfl; unfold i64B; omega
  rw [hL] at ho
  exact ⟨v, rfl, ho, hb⟩
theorem own_nil {α : Type} {E : Elem Tryz.prog α} {w : World} {B : Nat} {v : Value} (h : Own E w B v []) : ∃ a c, v = .slice a 0 c := by
  rcases h.2 with ⟨rfl, _⟩ | ⟨g, cap, cur, rfl, _⟩
  · exact ⟨none, 0, rfl⟩
  · exact ⟨_, _, rfl⟩
theorem recs17 {w : World} {e : Ending} {w' : World} (h : RecPost (recW p17 l17) w e w') : ∃ a c, e = .returned (.slice a 0 c) ∧ Below w.heap.size w w' := by
  rw [rec17] at h
  obtain ⟨v, L, rfl, ho, _, _, hl, hb⟩ := h
  obtain rfl : L = [] := List.length_eq_zero_iff.1 (by simpa using hl)
  obtain ⟨a, c, rfl⟩ := own_nil ho
  exact ⟨a, c, rfl, hb⟩
theorem objs17 {C : Pl → Option (List Int)} {w : World} {e : Ending} {w' : World} (h : ObjsPost p17 C l17 w e w') : ∃ a c, e = .returned (.slice a 0 c) ∧ Below w.heap.size w w' := by
  obtain ⟨v, L0, rfl, _, hm, ho, hb⟩ := h
  rw [addr17] at hm
  obtain rfl := no_live hm
  obtain ⟨a, c, rfl⟩ := own_nil ho
  exact ⟨a, c, rfl, hb⟩
end Go.Proofs.YtknbllbhakpaaaaGreat
