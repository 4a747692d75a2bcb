import Derived.Test.YthkhgihjigmkoaaGreatCAj
import Derived.Laws.IdiomStrings
import Derived.WalkSmall
set_option linter.unusedVariables false
set_option linter.unusedSimpArgs false
namespace Go.Proofs.YthkhgihjigmkoaaGreat.Tk
open Go.ChangeShapes Go.WideShapes Go.ChangeAt Go.RowKit Go.Maps
set_option maxRecDepth 100000 in
set_option maxHeartbeats 1600000 in
theorem need_any (w : World) (F : Nat → Prop) (tb : Nat) (p : TPrg) (T : Tk) (X : TB) (h : TaskAt w F tb p T X) (hp : PSmall p) (ht : TkOk T) (fn : Int) :
  Calls Tryz.prog 15 #[.pointer (some ⟨tb, 0, none⟩), .int .i64 fn] w fun e w' => e = .returned (.int .i64 (usedN p T + wordsN p fn)) ∧ Below w.heap.size w w' := by
 have us : ∀ W : BelowW w, Calls Tryz.prog 22 _ W.val _ := fun V => used_any V.val F tb p T X (h.below V.2) hp ht
 have wd : ∀ W : BelowW w, Calls Tryz.prog 44 _ W.val _ := fun V => words_any V.val X.D (fun k hk => Nat.lt_of_lt_of_le (h.out k hk).2 V.2.size) p X.c0 X.c1 X.c2 fn (h.prg.below V.2) hp
 obtain ⟨q0, q1, q2, _⟩ := h.cells
 obtain ⟨⟨a0, n0, m0, e0⟩, ⟨a1, m1, e1, _⟩, a2, m2, e2, _⟩ := h.prg
 rw [e0, e1, e2] at wd
 rw [e0] at q0
 rw [e1] at q1
 rw [e2] at q2
 have b1 := usedN_le hp ht
 have b2 := wordsN_le hp fn
 have i1 : IntKind.i64.wrap (usedN p T + wordsN p fn) = usedN p T + wordsN p fn := IntWalk.i64_in _ (by omega)
 generalize usedN p T = un at *
 generalize wordsN p fn = wn at *
 have Q0 := fun W : BelowW w => W.cell q0
 have Q1 := fun W : BelowW w => W.cell q1
 have Q2 := fun W : BelowW w => W.cell q2
 clear q0 q1 q2 e0 e1 e2 h hp ht b1 b2
 have US := Lib.hid us; clear us
 have WD := Lib.hid wd; clear wd
 go_enter Tryz.func15, Tryz.ntmps15
 go_upto_region 3 with fail
 refine wp_region_below (by kernel_rfl) (by kernel_rfl) ?_
 repeat (go_big_quiet_step (first | (go_at_call 44; exact Calls.below_of (WD.out _)) | (go_at_call 22; exact Calls.below_of (US.out _))))
 refine wpQuiet_nil ?_
 rintro _ ⟨WL, rfl⟩
 have HL := Lib.hid WL.2
 go_wp2_with fail
 go_ret
 exact ⟨rfl, HL.out⟩
def fitsB (p : TPrg) (T : Tk) (fn : Int) (na : Nat) : Bool := withinB fn p.funcs.length && ((p.funcs[fn.toNat]?).map TFun.nargs).getD 0 == na && decide (usedN p T + wordsN p fn ≤ T.words.length)
theorem fitsB_at {p : TPrg} {T : Tk} {j na : Nat} (hj : j < p.funcs.length) : fitsB p T j na = ((p.funcs[j].nargs == na) && decide (usedN p T + wordsN p j ≤ T.words.length)) := by
 unfold fitsB
 rw [show withinB (j : Int) p.funcs.length = true from by simp [withinB]; omega]
 simp [hj]
set_option maxRecDepth 100000 in
set_option maxHeartbeats 1600000 in
theorem fits_any (w : World) (F : Nat → Prop) (tb : Nat) (p : TPrg) (T : Tk) (X : TB) (h : TaskAt w F tb p T X) (hp : PSmall p) (ht : TkOk T) (fn : Int) (a : Option Addr) (na c : Nat) (hna : na ≤ 3000) :
  Calls Tryz.prog 58 #[.pointer (some ⟨tb, 0, none⟩), .int .i64 fn, .slice a na c] w fun e w' => e = .returned (.bool (fitsB p T fn na)) ∧ Below w.heap.size w w' := by
 have nd := need_any w F tb p T X h hp ht fn
 have cp := fun wr (hw : Below w.heap.size w wr) => cap_any wr F tb p T X (h.below hw)
 obtain ⟨q0, q1, q2, _⟩ := h.cells
 obtain ⟨⟨a0, n0, m0, e0⟩, ⟨a1, m1, e1, _⟩, a2, m2, e2, hfn⟩ := h.prg
 rw [e0] at q0
 rw [e1] at q1
 rw [e2] at q2
 cases hin : withinB fn p.funcs.length
 ·have hv : fitsB p T fn na = false := by unfold fitsB; rw [hin]; simp
  rw [hv]
  clear hv hfn h hp ht
  have ND := Lib.hid nd; clear nd
  have CP := Lib.hid cp; clear cp
  by_cases h0 : 0 ≤ fn
  ·have h1 : ¬ fn < p.funcs.length := by simp [withinB] at hin; omega
   clear hin
   go_enter Tryz.func58, Tryz.ntmps58
   go_wp2_with fail
   go_ret
   exact ⟨rfl, Below.refl _ _⟩
  ·clear hin
   go_enter Tryz.func58, Tryz.ntmps58
   go_wp2_with fail
   go_ret
   exact ⟨rfl, Below.refl _ _⟩
 ·obtain ⟨j, rfl, hj⟩ := within_nat hin
  rw [fitsB_at hj]
  obtain ⟨bb, o, rfl, _, y0, y1, y2, y3, y4, g0, g1, g2, g3, g4, hfv⟩ := hfn j hj
  obtain ⟨⟨e3, e4, rfl⟩, _⟩ := hfv
  have hfp := (hp.2.2.2 p.funcs[j] (List.getElem_mem hj)).1
  generalize p.funcs[j] = f at *
  generalize f.nargs = nf at *
  have hj0 : (0 : Int) ≤ (j : Int) := by omega
  have hj1 : (j : Int) < p.funcs.length := by omega
  clear g1 g2 g3 g4 hin h hp ht e0 e1 e2 hfn
  by_cases hnn : nf = na
  ·subst hnn
   have hq : ((nf : Int) == (nf : Int)) = true := by simp
   rw [show (nf == nf) = true from by simp, Bool.true_and]
   generalize usedN p T + (wordsN p (j : Int) : Int) = nn at *
   generalize T.words.length = cl at *
   by_cases hle : nn ≤ (cl : Int)
   ·rw [decide_eq_true hle]
    have ND := Lib.hid nd; clear nd
    have CP := Lib.hid cp; clear cp
    go_enter Tryz.func58, Tryz.ntmps58
    go_wp2_with fail
    refine ND.out.mono ?_
    rintro e w1 ⟨rfl, hb1⟩
    have HB1 := Lib.hid hb1
    clear hb1
    go_wp2_with fail
    refine (CP.out _ HB1.out).mono ?_
    rintro e w2 ⟨rfl, rfl⟩
    go_wp2_with fail
    go_ret
    first | exact ⟨rfl, HB1.out⟩ | exact ⟨congrArg (fun b => Ending.returned (Value.bool b)) (decide_eq_true (by omega)), HB1.out⟩
   ·rw [decide_eq_false hle]
    have ND := Lib.hid nd; clear nd
    have CP := Lib.hid cp; clear cp
    go_enter Tryz.func58, Tryz.ntmps58
    go_wp2_with fail
    refine ND.out.mono ?_
    rintro e w1 ⟨rfl, hb1⟩
    have HB1 := Lib.hid hb1
    clear hb1
    go_wp2_with fail
    refine (CP.out _ HB1.out).mono ?_
    rintro e w2 ⟨rfl, rfl⟩
    go_wp2_with fail
    go_ret
    first | exact ⟨rfl, HB1.out⟩ | exact ⟨congrArg (fun b => Ending.returned (Value.bool b)) (decide_eq_false (by omega)), HB1.out⟩
  ·have hq : ((na : Int) == (nf : Int)) = false := by rw [beq_eq_false_iff_ne]; omega
   rw [show (nf == na) = false from by simpa using hnn, Bool.false_and]
   clear hnn
   have ND := Lib.hid nd; clear nd
   have CP := Lib.hid cp; clear cp
   go_enter Tryz.func58, Tryz.ntmps58
   go_wp2_with fail
   go_ret
   exact ⟨rfl, Below.refl _ _⟩
end Go.Proofs.YthkhgihjigmkoaaGreat.Tk
namespace Go.Proofs.YthkhgihjigmkoaaGreat.Tk
open Go.ChangeShapes Go.WideShapes Go.ChangeAt Go.RowKit Go.Maps
theorem TaskAt.lt {w : World} {F : Nat → Prop} {tb : Nat} {p : TPrg} {T : Tk} {X : TB} (h : TaskAt w F tb p T X) : tb < w.heap.size := heap_lt h.row
set_option maxRecDepth 100000 in
set_option maxHeartbeats 3200000 in
theorem off_in (w : World) (F : Nat → Prop) (tb : Nat) (p : TPrg) (T : Tk) (X : TB) (h : TaskAt w F tb p T X) (ht : TkOk T) (d : Nat) (hd : d < T.parts.length) (j : Nat) (hj : j < p.funcs.length) (hfj : T.parts[d].fn = j) (s : Nat) (hs : (s : Int) < p.funcs[j].slots) (hs2 : s ≤ 3000) :
  Calls Tryz.prog 50 #[.pointer (some ⟨tb, 0, none⟩), .agg #[.int .i64 d, .int .i64 s]] w fun e w' => e = .returned (.int .i64 (T.parts[d].base + (2 + s))) ∧ Below w.heap.size w w' := by
 have hb0 := (Below.refl w.heap.size w).alloc (Nat.le_refl _) (.cells #[.int .i64 (d : Int), .int .i64 (s : Int)] 106)
 have hq := fun j => cell_new w #[.int .i64 (d : Int), .int .i64 (s : Int)] 106 (0, 0) j
 obtain ⟨W, hW⟩ : ∃ W, W = (w.alloc (.cells #[.int .i64 (d : Int), .int .i64 (s : Int)] 106)) := ⟨_, rfl⟩
 rw [← hW] at hb0 hq
 have s0 : W.cell? ⟨w.heap.size, 0, none⟩ = some (.int .i64 (d : Int)) := hq 0
 have s1 : W.cell? ⟨w.heap.size, 1, none⟩ = some (.int .i64 (s : Int)) := hq 1
 have hT := h.below hb0
 have dp := fun m => depth_any (W.drewN m) F tb p T X (hT.below (below_drewN (Below.refl _ _) m))
 obtain ⟨_, _, q2, _, q4, _⟩ := hT.cells
 obtain ⟨_, _, a2, m2, e2, hfn⟩ := hT.prg
 rw [e2] at q2
 obtain ⟨a, c, hpv, hel⟩ := hT.pv
 rw [hpv] at q4
 obtain ⟨b, rfl, hb, k0, k1, k2, k3, k4⟩ := hel d hd
 obtain ⟨bb, o, rfl, _, y0, y1, y2, y3, y4, g0, g1, g2, g3, g4, hfv⟩ := hfn j hj
 obtain ⟨_, _, rfl, _⟩ := hfv
 have hbd := ht.2.2.2 T.parts[d] (List.getElem_mem hd)
 generalize p.funcs[j] = f at *
 rw [hfj] at k0
 generalize T.parts[d] = q at *
 have hd0 : ¬ (d : Int) < 0 := by omega
 have hd1 : ¬ (T.parts.length : Int) ≤ (d : Int) := by omega
 have hd2 : (d : Int) < T.parts.length := by omega
 have hd3 : (0 : Int) ≤ (d : Int) := by omega
 have hj0 : (0 : Int) ≤ (j : Int) := by omega
 have hj1 : (j : Int) < p.funcs.length := by omega
 have hs0 : ¬ (s : Int) < 0 := by omega
 have hs1 : ¬ f.slots ≤ (s : Int) := by omega
 have sf := fun w => slotF_any w (j : Int) (s : Int) (by omega) (by omega)
 have i1 : IntKind.i64.wrap (q.base + (2 + (s : Int))) = q.base + (2 + (s : Int)) := IntWalk.i64_in _ (by omega)
 have HW := Lib.hid hW
 clear hq hW hel hpv hb hfn e2 g0 g1 g3 g4 hT h ht hbd hd hj hs hfj
 generalize T.parts.length = pl at *
 generalize p.funcs.length = fl at *
 have DP := Lib.hid dp; clear dp
 have HB0 := Lib.hid hb0; clear hb0
 have SF := Lib.hid sf; clear sf
 go_enter Tryz.func50, Tryz.ntmps50
 go_upto_region 1 with fail
 rw [← HW.out]
 go_quiet ((go_at_call 34; exact Calls.quiet_of_same ((DP.out _).mono fun _ _ ⟨a, b⟩ => ⟨a, b.symm⟩)))
 go_upto_region 3 with fail
 have hB1 : Below W.heap.size W (W.drewN nq) := below_drewN (Below.refl _ _) nq
 have hb1 := HB0.out.trans (hB1.mono HB0.out.size)
 have s0 := below_cell hB1 s0
 have s1 := below_cell hB1 s1
 have q2 := below_cell hB1 q2
 have q4 := below_cell hB1 q4
 have k0 := below_cell hB1 k0
 have k1 := below_cell hB1 k1
 have k2 := below_cell hB1 k2
 have k3 := below_cell hB1 k3
 have k4 := below_cell hB1 k4
 have g2 := below_cell hB1 g2
 clear hB1
 generalize W.drewN nq = W1 at *
 have hw1 := Below.refl W1.heap.size W1
 have hbw : ∀ wr, Below W1.heap.size W1 wr → Below w.heap.size w wr := fun wr h => hb1.trans (h.mono hb1.size)
 have hs0' : ∀ wr, Below W1.heap.size W1 wr → wr.cell? _ = _ := fun wr h => below_cell h s0
 have hs1' : ∀ wr, Below W1.heap.size W1 wr → wr.cell? _ = _ := fun wr h => below_cell h s1
 have hq2' : ∀ wr, Below W1.heap.size W1 wr → wr.cell? _ = _ := fun wr h => below_cell h q2
 have hg2' : ∀ wr, Below W1.heap.size W1 wr → wr.cell? _ = _ := fun wr h => below_cell h g2
 clear hb1
 have HW1 := Lib.hid hw1; clear hw1
 have HBW := Lib.hid hbw; clear hbw
 have HS0' := Lib.hid hs0'; clear hs0'
 have HS1' := Lib.hid hs1'; clear hs1'
 have HQ2' := Lib.hid hq2'; clear hq2'
 have HG2' := Lib.hid hg2'; clear hg2'
 go_cut [5] (fun t wx => ∃ z : Nat, t = .pointer (some ⟨z, 0, none⟩) ∧ wx.heap[z]? = some (.cells #[.int .i64 (j : Int), .int .i64 q.pc, .int .i64 q.base, .int .i64 q.ret, .slice q.ta q.tn q.tc] 100) ∧ Below W1.heap.size W1 wx)
 case first =>
  have bs := World.block_lt s0
  have bk := World.block_lt k0
  have bq := World.block_lt q4
  dsimp only at bs bk bq
  go_region
  all_goals
   go_wp2_with fail
   go_meet
   case rel => exact ⟨_, rfl, heap_new _ _, (HW1.out.drew).alloc (HW1.out.size) _⟩
 case rest =>
  obtain ⟨z, rfl, hz, hR⟩ := hcut
  have s0 := HS0'.out wc hR
  have s1 := HS1'.out wc hR
  have q2 := HQ2'.out wc hR
  have g2 := HG2'.out wc hR
  have p0 : wc.cell? ⟨z, 0, none⟩ = some (.int .i64 (j : Int)) := (row_cell hz 0).1
  have p2 : wc.cell? ⟨z, 2, none⟩ = some (.int .i64 q.base) := (row_cell hz 2).1
  have hbc := HBW.out wc hR
  clear k0 k1 k2 k3 k4 q4 hR hz
  have HBC := Lib.hid hbc; clear hbc
  go_upto_region 4 with fail
  go_quiet (fail)
  go_upto_region 6 with fail
  have hB2 : Below wc.heap.size wc (wc.drewN nq) := below_drewN (Below.refl _ _) nq
  have s1 := below_cell hB2 s1
  have p0 := below_cell hB2 p0
  have p2 := below_cell hB2 p2
  have hbe := below_drewN HBC.out nq
  clear hB2 HBC
  generalize wc.drewN nq = W2 at *
  have HBE := Lib.hid hbe; clear hbe
  go_quiet ((go_at_call 82; exact Calls.quiet_of_same ((SF.out _).mono fun _ _ ⟨a, b⟩ => ⟨a, b.symm⟩)))
  go_wp2_with fail
  go_ret
  exact ⟨rfl, below_drewN HBE.out _⟩
end Go.Proofs.YthkhgihjigmkoaaGreat.Tk
namespace Go.Proofs.YthkhgihjigmkoaaGreat.Tk
open Go.ChangeShapes Go.WideShapes Go.ChangeAt Go.RowKit Go.Maps
theorem cells_ne {w : World} {a b : Nat} {cs cs' : Array Value} {t t' : TypeId} {f f' : Nat × Nat} (h : w.heap[a]? = some (.cells cs t f)) (h' : w.heap[b]? = some (.cells cs' t' f')) (ht : t ≠ t') : a ≠ b := by
 rintro rfl
 rw [h] at h'
 injection h' with e
 injection e with _ e2 _
 exact ht e2
theorem own_row {P : Program} {α : Type} {E : Elem P α} {w : World} {B : Nat} {v : Value} {l : List α} (h : Own E w B v l) {k : Nat} (hk : v.ownBlock = some k) : ∃ cur f, w.heap[k]? = some (.cells cur E.e f) := by
 rcases h.2 with ⟨rfl, _⟩ | ⟨g, cap, cur, rfl, hg, hh, _⟩
 ·cases hk
 ·simp [Value.ownBlock] at hk
  subst hk
  exact ⟨cur, _, hh⟩
theorem TaskAt.distinct {w : World} {F : Nat → Prop} {tb : Nat} {p : TPrg} {T : Tk} {X : TB} (h : TaskAt w F tb p T X) :
  tb ≠ X.sb ∧ tb ≠ X.wb ∧ X.sb ≠ X.wb ∧ (∀ k, X.pv.ownBlock = some k → k ≠ tb ∧ k ≠ X.sb ∧ k ≠ X.wb) ∧ (∀ k, X.mv.ownBlock = some k → k ≠ tb ∧ k ≠ X.sb ∧ k ≠ X.wb) ∧ (∀ k, X.pv.ownBlock = some k → X.mv.ownBlock ≠ some k) ∧ (∀ k, X.av.ownBlock = some k → k ≠ tb ∧ k ≠ X.sb ∧ k ≠ X.wb ∧ X.pv.ownBlock ≠ some k ∧ X.mv.ownBlock ≠ some k) := by
 have hw := h.wrow
 unfold intRow at hw
 refine ⟨cells_ne h.row h.srow (by decide), cells_ne h.row hw (by decide), cells_ne h.srow hw (by decide), fun k hk => ?_, fun k hk => ?_, fun k hk hk2 => ?_, fun k hk => ?_⟩
 ·obtain ⟨cur, f, hc⟩ := own_row h.parts hk
  exact ⟨cells_ne hc h.row (by decide), cells_ne hc h.srow (by decide), cells_ne hc hw (by decide)⟩
 ·obtain ⟨cur, f, hc⟩ := own_row h.marks hk
  exact ⟨cells_ne hc h.row (by decide), cells_ne hc h.srow (by decide), cells_ne hc hw (by decide)⟩
 ·obtain ⟨cur, f, hc⟩ := own_row h.parts hk
  obtain ⟨cur2, f2, hc2⟩ := own_row h.marks hk2
  exact cells_ne hc hc2 (by decide) rfl
 ·obtain ⟨cur, f, hc⟩ := own_row h.alarms hk
  refine ⟨cells_ne hc h.row (by decide), cells_ne hc h.srow (by decide), cells_ne hc hw (by decide), fun hk2 => ?_, fun hk2 => ?_⟩
  ·obtain ⟨cur2, f2, hc2⟩ := own_row h.parts hk2
   exact cells_ne hc hc2 (by decide) rfl
  ·obtain ⟨cur2, f2, hc2⟩ := own_row h.marks hk2
   exact cells_ne hc hc2 (by decide) rfl
theorem TaskAt.words {w w' : World} {F : Nat → Prop} {tb : Nat} {p : TPrg} {T : Tk} {X : TB} (h : TaskAt w F tb p T X) (hf : Fr (fun k => k = X.wb) w w') (l : List Int) (hl : l.length = T.words.length) (hw : w'.heap[X.wb]? = some (intRow l 3)) : TaskAt w' F tb p ⟨T.base, l, T.parts, T.marks⟩ X where
 row := hf.heap h.row h.distinct.2.1
 prg := h.prg.fr hf fun k hk e => (h.out k hk).1 (e ▸ h.fw)
 out := fun k hk => ⟨(h.out k hk).1, Nat.lt_of_lt_of_le (h.out k hk).2 hf.size⟩
 srow := by
  show w'.heap[X.sb]? = some (.cells #[.int .i64 T.base, .slice (some ⟨X.wb, 0, none⟩) l.length l.length] _)
  rw [hl]
  exact hf.heap h.srow h.distinct.2.2.1
 wrow := hw
 parts := h.parts.fr hf fun k hk => (h.distinct.2.2.2.1 k hk).2.2
 marks := h.marks.fr hf fun k hk => (h.distinct.2.2.2.2.1 k hk).2.2
 kb := Nat.lt_of_lt_of_le h.kb hf.size
 kept := h.kept.imp fun n hm => ⟨hm.1, hm.2.fr hf (by have hw := h.wrow; unfold intRow at hw; exact map_ne hm.2 hw)⟩
 alarms := h.alarms.fr hf fun k hk => (h.distinct.2.2.2.2.2.2 k hk).2.2.1
 ft := h.ft
 fs := h.fs
 fw := h.fw
 fk := h.fk
 fp := h.fp
 fm := h.fm
 fa := h.fa
 flt := fun k hk => Nat.lt_of_lt_of_le (h.flt k hk) hf.size
theorem TaskAt.store {w : World} {F : Nat → Prop} {tb : Nat} {p : TPrg} {T : Tk} {X : TB} (h : TaskAt w F tb p T X) (k : Nat) (v : Int) : TaskAt (w.setCell ⟨X.wb, k, none⟩ (.int .i64 v)) F tb p ⟨T.base, T.words.set k v, T.parts, T.marks⟩ X :=
 h.words ((Fr.refl (fun k => k = X.wb) w).setCell (p := ⟨X.wb, k, none⟩) (fun _ => rfl) _) _ (by simp) (intRow_set h.wrow k v)
end Go.Proofs.YthkhgihjigmkoaaGreat.Tk
namespace Go.Proofs.YthkhgihjigmkoaaGreat.Tk
open Go.ChangeShapes Go.WideShapes Go.ChangeAt Go.RowKit Go.Maps
set_option maxRecDepth 100000 in
set_option maxHeartbeats 1600000 in
theorem set_in (w : World) (F : Nat → Prop) (tb : Nat) (p : TPrg) (T : Tk) (X : TB) (h : TaskAt w F tb p T X) (ht : TkOk T) (n : Nat) (hn : T.parts.length = n + 1) (j : Nat) (hj : j < p.funcs.length) (hfj : (T.parts[n]'(by omega)).fn = j) (bn : Nat) (hbn : (T.parts[n]'(by omega)).base = bn) (s : Nat) (hs : (s : Int) < p.funcs[j].slots) (hs2 : s ≤ 3000) (hin : bn + (2 + s) < T.words.length) (v : Int) :
  Calls Tryz.prog 18 #[.pointer (some ⟨tb, 0, none⟩), .int .i64 s, .int .i64 v] w fun e w' => e = .returned (.bool true) ∧ TaskAt w' F tb p ⟨T.base, T.words.set (bn + (2 + s)) v, T.parts, T.marks⟩ X ∧ Fr F w w' := by
 have hlt : n < T.parts.length := by omega
 have dp := fun wr (hw : Below w.heap.size w wr) => depth_any wr F tb p T X (h.below hw)
 have of := fun wr (hw : Below w.heap.size w wr) => off_in wr F tb p T X (h.below hw) ht n hlt j hj hfj s hs hs2
 obtain ⟨_, _, _, q3, _⟩ := h.cells
 rw [hn] at dp
 rw [hbn] at of
 have i1 : IntKind.i64.wrap (((n + 1 : Nat) : Int) - 1) = (n : Int) := by rw [show (((n + 1 : Nat) : Int) - 1) = (n : Int) from by omega]; exact IntWalk.i64_in _ (by have := ht.1; omega)
 have of : ∀ wr, Below w.heap.size w wr → Calls Tryz.prog 50 #[.pointer (some ⟨tb, 0, none⟩), .agg #[.int .i64 n, .int .i64 s]] wr fun e w' => e = .returned (.int .i64 (bn + (2 + s) : Nat)) ∧ Below wr.heap.size wr w' := fun wr hw => by
  have := of wr hw
  rw [show ((bn : Int) + (2 + (s : Int))) = ((bn + (2 + s) : Nat) : Int) from by omega] at this
  exact this
 have st := fun wr (hw : Below w.heap.size w wr) => stStore_in wr X.sb X.wb T.base T.words (h.below hw).st (bn + (2 + s)) hin v
 have hfin : ∀ wr, Below w.heap.size w wr → TaskAt (wr.setCell ⟨X.wb, bn + (2 + s), none⟩ (.int .i64 v)) F tb p ⟨T.base, T.words.set (bn + (2 + s)) v, T.parts, T.marks⟩ X ∧ Fr F w (wr.setCell ⟨X.wb, bn + (2 + s), none⟩ (.int .i64 v)) := fun wr hw => ⟨(h.below hw).store _ _, (Fr.of_below hw F).setCell (p := ⟨X.wb, bn + (2 + s), none⟩) (fun _ => h.fw) _⟩
 have hr0 := (Below.refl w.heap.size w).drew
 generalize bn + (2 + s) = off at *
 obtain ⟨N, hN⟩ : ∃ N, N = n + 1 := ⟨_, rfl⟩
 rw [← hN] at i1 dp
 clear hN hlt hbn hfj hj hs hs2 hin hn h ht
 have DP := Lib.hid dp; clear dp
 have OF := Lib.hid of; clear of
 have ST := Lib.hid st; clear st
 have HFIN := Lib.hid hfin; clear hfin
 have HR0 := Lib.hid hr0; clear hr0
 go_enter Tryz.func18, Tryz.ntmps18
 go_upto_region 1 with fail
 go_region_held3 (fun w' => w'.cell? ⟨tb, 3, none⟩ = some (.pointer (some ⟨X.sb, 0, none⟩))) (first | go_keep | exact q3 | exact qq3 | exact qq4) (first | (go_at_call 34; refine (DP.out _ HR0.out).mono ?_; rintro e wq ⟨rfl, rfl⟩) | (go_at_call 50; refine (OF.out _ HR0.out).mono ?_; rintro e w3 ⟨rfl, hb3⟩; have hbw := HR0.out.trans (hb3.mono HR0.out.size); have qq3 := below_cell hbw q3) | (go_at_call 52; refine (ST.out w3 hbw).mono ?_; rintro e w4 ⟨rfl, rfl⟩; have qq4 := (HFIN.out w3 hbw).1.cells.2.2.2.1))
 all_goals
  have hf := HFIN.out w3 hbw
  clear hb3
  have HF := Lib.hid hf; clear hf
  have HBW := Lib.hid hbw; clear hbw
  go_wp2_with fail
  go_ret
  exact ⟨rfl, HF.out⟩
set_option maxRecDepth 100000 in
set_option maxHeartbeats 1600000 in
theorem slot_in (w : World) (F : Nat → Prop) (tb : Nat) (p : TPrg) (T : Tk) (X : TB) (h : TaskAt w F tb p T X) (ht : TkOk T) (n : Nat) (hn : T.parts.length = n + 1) (j : Nat) (hj : j < p.funcs.length) (hfj : (T.parts[n]'(by omega)).fn = j) (bn : Nat) (hbn : (T.parts[n]'(by omega)).base = bn) (s : Nat) (hs : (s : Int) < p.funcs[j].slots) (hs2 : s ≤ 3000) (hin : bn + (2 + s) < T.words.length) :
  Calls Tryz.prog 33 #[.pointer (some ⟨tb, 0, none⟩), .int .i64 s] w fun e w' => e = .returned (.int .i64 (T.words[bn + (2 + s)]'hin)) ∧ Below w.heap.size w w' := by
 have hlt : n < T.parts.length := by omega
 have dp := fun wr (hw : Below w.heap.size w wr) => depth_any wr F tb p T X (h.below hw)
 have of := fun wr (hw : Below w.heap.size w wr) => off_in wr F tb p T X (h.below hw) ht n hlt j hj hfj s hs hs2
 obtain ⟨_, _, _, q3, _⟩ := h.cells
 rw [hn] at dp
 rw [hbn] at of
 have i1 : IntKind.i64.wrap (((n + 1 : Nat) : Int) - 1) = (n : Int) := by rw [show (((n + 1 : Nat) : Int) - 1) = (n : Int) from by omega]; exact IntWalk.i64_in _ (by have := ht.1; omega)
 have of : ∀ wr, Below w.heap.size w wr → Calls Tryz.prog 50 #[.pointer (some ⟨tb, 0, none⟩), .agg #[.int .i64 n, .int .i64 s]] wr fun e w' => e = .returned (.int .i64 (bn + (2 + s) : Nat)) ∧ Below wr.heap.size wr w' := fun wr hw => by
  have := of wr hw
  rw [show ((bn : Int) + (2 + (s : Int))) = ((bn + (2 + s) : Nat) : Int) from by omega] at this
  exact this
 have ld : ∀ V : BelowW w, Calls Tryz.prog 51 _ V.val _ := fun V => stLoad_in V.val X.sb X.wb T.base T.words (h.below V.2).st (bn + (2 + s)) hin
 have dp : ∀ V : BelowW w, Calls Tryz.prog 34 _ V.val _ := fun V => dp V.val V.2
 have of : ∀ V : BelowW w, Calls Tryz.prog 50 _ V.val _ := fun V => of V.val V.2
 have Q3 := fun V : BelowW w => V.cell q3
 generalize T.words[bn + (2 + s)] = x at *
 generalize bn + (2 + s) = off at *
 obtain ⟨N, hN⟩ : ∃ N, N = n + 1 := ⟨_, rfl⟩
 rw [← hN] at i1 dp
 clear hN hlt hbn hfj hj hs hs2 hin hn h ht q3
 have DP := Lib.hid dp; clear dp
 have OF := Lib.hid of; clear of
 have LD := Lib.hid ld; clear ld
 go_enter Tryz.func33, Tryz.ntmps33
 go_upto_region 3 with fail
 refine wp_region_below (by kernel_rfl) (by kernel_rfl) ?_
 repeat (go_big_quiet_step (first | (go_at_call 34; exact Calls.below_same (DP.out _)) | (go_at_call 50; exact Calls.below_of (OF.out _)) | (go_at_call 51; exact Calls.below_same (LD.out _))))
 refine wpQuiet_nil ?_
 rintro _ ⟨WL, rfl⟩
 have HL := Lib.hid WL.2
 go_wp2_with fail
 go_ret
 exact ⟨rfl, HL.out⟩
end Go.Proofs.YthkhgihjigmkoaaGreat.Tk
namespace Go.Proofs.YthkhgihjigmkoaaGreat.Tk
open Go.ChangeShapes Go.WideShapes Go.ChangeAt Go.RowKit Go.Maps
theorem alloc_cellA {w : World} {b j : Nat} {o : Obj} {v : Value} (h : w.cell? ((⟨b, 0, none⟩ : Addr).add j) = some v) : (w.alloc o).cell? ((⟨b, 0, none⟩ : Addr).add j) = some v := by
 have hb : ((⟨b, 0, none⟩ : Addr).add j).block < w.heap.size := World.block_lt h
 rw [cell_under _ _ hb]; exact h
set_option maxRecDepth 100000 in
set_option maxHeartbeats 1600000 in
theorem cloneMarks_any (w : World) (B : Nat) (v : Value) (l : List Mark) (h : Own markE w B v l) (hn : l.length ≤ 100000) :
  Calls Tryz.prog 115 #[v] w fun e w' => ∃ v', e = .returned v' ∧ Own markE w' w.heap.size v' l ∧ Below w.heap.size w w' := by
 have hc := fun g hg => World.ownsRow.cells (g := g) h hg
 rcases h.2 with ⟨rfl, h0⟩ | ⟨g, cap, cur, rfl, hg, hh, _⟩
 ·have hl : l = [] := List.length_eq_zero_iff.1 h0
  subst hl
  have hnil := fun w => eq_nil_run markE none 0 0 w
  have hnil : ∀ w, (binOp .eql 93 (.slice none 0 0) (.slice none 0 0)).run Tryz.prog w = .ok (.bool true) w := hnil
  clear hc h h0
  go_enter Tryz.func115, Tryz.ntmps115
  go_wp2_with fail
  go_ret
  exact ⟨_, rfl, Own.nil _ _ _, Below.refl _ _⟩
 ·have hc1 := hc g rfl
  have ho := own_new markE w [] #[] rfl (by decide)
  have hb0 := (Below.refl w.heap.size w).alloc (Nat.le_refl _) (.cells #[] markE.e)
  have hc2 := fun j u hj => alloc_cellA (o := .cells #[] markE.e) (hc1 j u hj)
  have hnil := fun w => eq_nil_run markE (some ⟨g, 0, none⟩) l.length cap w
  have hnil : ∀ w, (binOp .eql 93 (.slice (some ⟨g, 0, none⟩) l.length cap) (.slice none 0 0)).run Tryz.prog w = .ok (.bool false) w := hnil
  clear hc hc1 h
  have HC2 := Lib.hid hc2; clear hc2
  have HO := Lib.hid ho; clear ho
  have HB0 := Lib.hid hb0; clear hb0
  go_enter Tryz.func115, Tryz.ntmps115
  go_wp2_with (at_builtin; refine append_own_addr markE rfl (.tmp 5) (.tmp 6) rfl w.heap.size [] l _ rfl HO.out ⟨g, 0, none⟩ cap rfl HC2.out ?c1 ?c2 ?_)
  case c1 => simp; omega
  case c2 => simp
  intro v2 w2 hown2 hg2
  have hB2 := below_grown HB0.out HO.out hg2 (by simp) (Nat.le_refl _)
  clear hg2
  have HB2 := Lib.hid hB2; clear hB2
  have HOWN2 := Lib.hid hown2; clear hown2
  go_wp2_with fail
  go_ret
  exact ⟨_, rfl, HOWN2.out, HB2.out⟩
set_option maxRecDepth 100000 in
set_option maxHeartbeats 1600000 in
theorem cloneAlarms_any (w : World) (B : Nat) (v : Value) (l : List Alarm) (h : Own alarmE w B v l) (hn : l.length ≤ 100000) :
  Calls Tryz.prog 62 #[v] w fun e w' => ∃ v', e = .returned v' ∧ Own alarmE w' w.heap.size v' l ∧ Below w.heap.size w w' := by
 have hc := fun g hg => World.ownsRow.cells (g := g) h hg
 rcases h.2 with ⟨rfl, h0⟩ | ⟨g, cap, cur, rfl, hg, hh, _⟩
 ·have hl : l = [] := List.length_eq_zero_iff.1 h0
  subst hl
  have hnil := fun w => eq_nil_run alarmE none 0 0 w
  have hnil : ∀ w, (binOp .eql 45 (.slice none 0 0) (.slice none 0 0)).run Tryz.prog w = .ok (.bool true) w := hnil
  clear hc h h0
  go_enter Tryz.func62, Tryz.ntmps62
  go_wp2_with fail
  go_ret
  exact ⟨_, rfl, Own.nil _ _ _, Below.refl _ _⟩
 ·have hc1 := hc g rfl
  have ho := own_new alarmE w [] #[] rfl (by decide)
  have hb0 := (Below.refl w.heap.size w).alloc (Nat.le_refl _) (.cells #[] alarmE.e)
  have hc2 := fun j u hj => alloc_cellA (o := .cells #[] alarmE.e) (hc1 j u hj)
  have hnil := fun w => eq_nil_run alarmE (some ⟨g, 0, none⟩) l.length cap w
  have hnil : ∀ w, (binOp .eql 45 (.slice (some ⟨g, 0, none⟩) l.length cap) (.slice none 0 0)).run Tryz.prog w = .ok (.bool false) w := hnil
  clear hc hc1 h
  have HC2 := Lib.hid hc2; clear hc2
  have HO := Lib.hid ho; clear ho
  have HB0 := Lib.hid hb0; clear hb0
  go_enter Tryz.func62, Tryz.ntmps62
  go_wp2_with (at_builtin; refine append_own_addr alarmE rfl (.tmp 5) (.tmp 6) rfl w.heap.size [] l _ rfl HO.out ⟨g, 0, none⟩ cap rfl HC2.out ?c1 ?c2 ?_)
  case c1 => simp; omega
  case c2 => simp
  intro v2 w2 hown2 hg2
  have hB2 := below_grown HB0.out HO.out hg2 (by simp) (Nat.le_refl _)
  clear hg2
  have HB2 := Lib.hid hB2; clear hB2
  have HOWN2 := Lib.hid hown2; clear hown2
  go_wp2_with fail
  go_ret
  exact ⟨_, rfl, HOWN2.out, HB2.out⟩
end Go.Proofs.YthkhgihjigmkoaaGreat.Tk
namespace Go.Proofs.YthkhgihjigmkoaaGreat.Tk
open Go.ChangeShapes Go.WideShapes Go.ChangeAt Go.RowKit Go.Maps
theorem own_pop {P : Program} {α : Type} {E : Elem P α} {w : World} {B : Nat} {v : Value} {l : List α} {x : α} (h : Own E w B v (l ++ [x])) : ∃ g cap, v = .slice (some ⟨g, 0, none⟩) (l.length + 1) cap ∧ l.length + 1 ≤ cap ∧ Own E w B (.slice (some ⟨g, 0, none⟩) l.length cap) l := by
 have h0 : w.ownsRow B E.e E.size v (l ++ [x]).length ((l ++ [x]).flatMap E.enc) := h
 rw [List.length_append, List.flatMap_append] at h0
 have h1 : w.ownsRow B E.e E.size v (l.length + 1) (l.flatMap E.enc ++ [x].flatMap E.enc) := h0
 rcases id h1.2 with ⟨_, hz⟩ | ⟨g, cap, cur, hv, _, _, hc, _⟩
 ·exact absurd hz (by omega)
 subst hv
 exact ⟨g, cap, rfl, hc, ownsRow_pop (E.len l) h1⟩
theorem own_put {P : Program} {α : Type} {E : Elem P α} {w : World} {B : Nat} {l : List α} {x : α} {g n cap : Nat} (h : Own E w B (.slice (some ⟨g, 0, none⟩) n cap) (l ++ [x])) (r : Nat) (u : Value) (y : α) (hy : E.enc y = (E.enc x).set r u) : Own E (w.setCell ⟨g, l.length * E.size + r, none⟩ u) B (.slice (some ⟨g, 0, none⟩) n cap) (l ++ [y]) := by
 obtain ⟨g', cap', he, _, _⟩ := own_pop h
 injection he with e1 e2 e3
 injection e1 with e1
 injection e1 with e1
 subst e1 e2 e3
 have h0 : w.ownsRow B E.e E.size (.slice (some ⟨g, 0, none⟩) (l.length + 1) cap) (l ++ [x]).length ((l ++ [x]).flatMap E.enc) := h
 rw [List.length_append, List.flatMap_append] at h0
 have h1 : w.ownsRow B E.e E.size (.slice (some ⟨g, 0, none⟩) (l.length + 1) cap) (l.length + 1) (l.flatMap E.enc ++ [x].flatMap E.enc) := h0
 have h2 := (World.ownsRow.stored h1 (l.length * E.size + r) u).1
 unfold Own
 rw [List.length_append, List.flatMap_append]
 have h3 : (l.flatMap E.enc ++ [x].flatMap E.enc).set (l.length * E.size + r) u = l.flatMap E.enc ++ [y].flatMap E.enc := by
  rw [← E.len l, List.set_append_right _ _ (Nat.le_add_right _ _), Nat.add_sub_cancel_left]
  simp [hy]
 rw [h3] at h2
 exact h2
theorem own_lastc {P : Program} {α : Type} {E : Elem P α} {w : World} {B : Nat} {l : List α} {x : α} {g n cap : Nat} (h : Own E w B (.slice (some ⟨g, 0, none⟩) n cap) (l ++ [x])) (r : Nat) (u : Value) (hu : (E.enc x)[r]? = some u) : w.cell? ⟨g, l.length * E.size + r, none⟩ = some u ∧ w.frozen? ⟨g, l.length * E.size + r, none⟩ = false := by
 obtain ⟨a, c, h1, h2⟩ := own_elems h
 injection h1 with e1 e2 e3
 obtain ⟨b, h3, h4, h5⟩ := h2 l.length (by simp)
 rw [← e1] at h3
 injection h3 with h3
 injection h3 with h3
 subst h3
 refine ⟨h5 r u (by simpa using hu), ?_⟩
 obtain ⟨g', cap', he, _, _⟩ := own_pop h
 injection he with e4 e5 e6
 subst e5
 have h0 : w.ownsRow B E.e E.size (.slice (some ⟨g, 0, none⟩) (l.length + 1) cap) (l.length + 1) ((l ++ [x]).flatMap E.enc) := by
  have h0 : w.ownsRow B E.e E.size (.slice (some ⟨g, 0, none⟩) (l.length + 1) cap) (l ++ [x]).length ((l ++ [x]).flatMap E.enc) := h
  rw [List.length_append] at h0
  exact h0
 exact World.ownsRow.frozenAt h0 _
end Go.Proofs.YthkhgihjigmkoaaGreat.Tk
