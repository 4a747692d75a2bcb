import Derived.Test.YthkhgihjigmkoaaGreatCAp
import Derived.Test.YthkhgihjigmkoaaGreatCAm
import Derived.Test.YthkhgihjigmkoaaGreatCAn
import Derived.Test.YthkhgihjigmkoaaGreatCAo
import Derived.Test.YthkhgihjigmkoaaGreatCAk
set_option linter.unusedVariables false
set_option linter.unusedSimpArgs false
namespace Go.Proofs.YthkhgihjigmkoaaGreat.Tk
open Go.ChangeShapes Go.WideShapes Go.ChangeAt Go.RowKit Go.Maps
set_option maxRecDepth 100000 in
set_option maxHeartbeats 1600000 in
theorem tkLeave_any (w : World) (F : Nat → Prop) (tb : Nat) (p : TPrg) (T : Tk) (X : TB) (h : TaskAt w F tb p T X) (M : List Mark) (m : Mark) (hM : T.marks = M ++ [m]) (hl : M.length ≤ 10000) (hal : X.al.length ≤ 10000) :
  Calls Tryz.prog 125 #[.pointer (some ⟨tb, 0, none⟩)] w fun e w' => e = .returned (.tuple #[]) ∧ ∃ F' X', TaskAt w' F' tb p ⟨T.base, T.words, T.parts, M ++ [⟨true, m.deferred, m.thunks⟩]⟩ X' ∧ X'.Q X X.al X.kf ∧ (∀ k, F' k → F k ∨ w.heap.size ≤ k) ∧ Fr F w w' := by
 have sp := stLeave_some w 0 X.mv M m (by have := h.marks; rw [hM] at this; exact this) hl 0 X.av X.al h.alarms hal
 obtain ⟨_, _, _, _, _, q5, q6, _⟩ := h.cells
 obtain ⟨a6, n6, c6, hmv2⟩ := h.marks.slice
 obtain ⟨a7, n7, c7, hav2⟩ := h.alarms.slice
 rw [hmv2, hav2] at sp
 rw [hmv2] at q5
 rw [hav2] at q6
 clear hM hmv2 hav2
 have SP := Lib.hid sp; clear sp
 have H := Lib.hid h; clear h
 go_enter Tryz.func125, Tryz.ntmps125
 go_wp2_with fail
 refine SP.out.mono ?_
 rintro e w4 ⟨v4, u4, rfl, ho4, hu4, hb4⟩
 obtain ⟨a4, n4, c4, rfl⟩ := ho4.slice
 obtain ⟨a8, n8, c8, rfl⟩ := hu4.slice
 have hT4 := H.out.below hb4
 have q5 := hT4.cells.2.2.2.2.2.1
 have q6 := hT4.cells.2.2.2.2.2.2.1
 have f5 : w4.frozen? ⟨tb, 5, none⟩ = false := (row_cell hT4.row 5).2
 have f6 : w4.frozen? ⟨tb, 6, none⟩ = false := (row_cell hT4.row 6).2
 obtain ⟨hT5, hF5⟩ := hT4.mark ho4 hu4 (fun k hk => hk.elim (fun h => H.out.flt k h) (fun h => (H.out.out k h).2))
 have hF6 := (Fr.of_below hb4 F).trans hF5 (fun k _ hk => hk)
 have hnew : ∀ k, (F k ∨ (Value.slice a4 n4 c4).ownBlock = some k) ∨ (Value.slice a8 n8 c8).ownBlock = some k → F k ∨ w.heap.size ≤ k := fun k hk => by
  rcases hk with (h1 | h1) | h1
  ·exact .inl h1
  ·exact .inr (own_base ho4 h1)
  ·exact .inr (own_base hu4 h1)
 clear hT4 hb4 ho4 hu4 hF5
 have HT5 := Lib.hid hT5; clear hT5
 have HF6 := Lib.hid hF6; clear hF6
 have HNEW := Lib.hid hnew; clear hnew
 go_wp2_with fail
 go_end0
 exact ⟨rfl, _, _, HT5.out, ⟨rfl, rfl, rfl, rfl⟩, HNEW.out, HF6.out⟩
set_option maxRecDepth 100000 in
theorem tkNext_any (w : World) (F : Nat → Prop) (tb : Nat) (p : TPrg) (T : Tk) (X : TB) (h : TaskAt w F tb p T X) (hl : T.marks.length ≤ 10000) (hla : X.al.length ≤ 10000) :
  Calls Tryz.prog 66 #[.pointer (some ⟨tb, 0, none⟩)] w fun e w' => e = .returned (.int .i64 (nextU T.marks X.al)) ∧ Below w.heap.size w w' := by
 obtain ⟨_, _, _, _, _, q5, q6, _⟩ := h.cells
 have sp := stNext_any w 0 X.mv T.marks h.marks (by omega) 0 X.av X.al h.alarms (by omega)
 obtain ⟨a6, n6, c6, hmv2⟩ := h.marks.slice
 obtain ⟨a7, n7, c7, hav2⟩ := h.alarms.slice
 rw [hmv2, hav2] at sp
 rw [hmv2] at q5
 rw [hav2] at q6
 generalize nextU T.marks X.al = x at *
 clear hmv2 hav2 h
 have SP := Lib.hid sp; clear sp
 go_enter Tryz.func66, Tryz.ntmps66
 go_wp2_with fail
 refine SP.out.mono ?_
 rintro e w4 ⟨rfl, hb4⟩
 have HB4 := Lib.hid hb4
 clear hb4
 go_wp2_with fail
 go_ret
 exact ⟨rfl, HB4.out⟩
set_option maxRecDepth 100000 in
set_option maxHeartbeats 1600000 in
theorem cloneInts_any (w : World) (g : Nat) (l : List Int) (c : Nat) (hc : ∀ j (hj : j < l.length), w.cell? ⟨g, j, none⟩ = some (.int .i64 l[j])) (hn : l.length ≤ 100000) :
  Calls Tryz.prog 64 #[.slice (some ⟨g, 0, none⟩) l.length c] w fun e w' => ∃ v', e = .returned v' ∧ Own intE w' w.heap.size v' l ∧ Below w.heap.size w w' := by
 have ho := own_new intE w [] #[] rfl (by decide)
 have hb0 := (Below.refl w.heap.size w).alloc (Nat.le_refl _) (.cells #[] intE.e)
 have hc1 : ∀ j u, (l.flatMap intE.enc)[j]? = some u → w.cell? ((⟨g, 0, none⟩ : Addr).add j) = some u := fun j u hj => by
  have hlt : j < l.length := by
   have h1 := (List.getElem?_eq_some_iff.1 hj).1
   have h2 := intE.len l
   rw [h2] at h1
   have h3 : intE.size = 1 := rfl
   rw [h3] at h1
   omega
  have h4 := intE.get l j 0 hlt (by decide)
  have h5 : (l.flatMap intE.enc)[j]? = some (.int .i64 l[j]) := by
   have h6 : j * intE.size + 0 = j := by show j * 1 + 0 = j; omega
   rw [h6] at h4
   rw [h4]; rfl
  rw [h5] at hj
  injection hj with hj
  subst hj
  have := hc j hlt
  by_cases hj0 : j = 0
  ·subst hj0; simpa [Addr.add] using this
  ·simpa [Addr.add, hj0] using this
 have hc2 := fun j u hj => alloc_cellA (o := .cells #[] intE.e) (hc1 j u hj)
 have hnil := fun w => eq_nil_run intE (some ⟨g, 0, none⟩) l.length c w
 have hnil : ∀ w, (binOp .eql 23 (.slice (some ⟨g, 0, none⟩) l.length c) (.slice none 0 0)).run Tryz.prog w = .ok (.bool false) w := hnil
 clear hc hc1
 have HC2 := Lib.hid hc2; clear hc2
 have HO := Lib.hid ho; clear ho
 have HB0 := Lib.hid hb0; clear hb0
 go_enter Tryz.func64, Tryz.ntmps64
 go_wp2_with (at_builtin; refine append_own_addr intE rfl (.tmp 5) (.tmp 6) rfl w.heap.size [] l _ rfl HO.out ⟨g, 0, none⟩ c rfl HC2.out ?c1 ?c2 ?_)
 case c1 => simp; omega
 case c2 => simp
 intro v2 w2 hown2 hg2
 have hB2 := below_grown HB0.out HO.out hg2 (by simp) (Nat.le_refl _)
 clear hg2
 have HB2 := Lib.hid hB2; clear hB2
 have HOWN2 := Lib.hid hown2; clear hown2
 go_wp2_with fail
 go_ret
 exact ⟨_, rfl, HOWN2.out, HB2.out⟩
theorem TaskAt.putPart {w : World} {F : Nat → Prop} {tb : Nat} {p : TPrg} {T : Tk} {X : TB} {P : List Part} {q y : Part} {g n c : Nat} (h : TaskAt w F tb p T X) (hP : T.parts = P ++ [q]) (hv : X.pv = .slice (some ⟨g, 0, none⟩) n c) (r : Nat) (u : Value) (hy : partE.enc y = (partE.enc q).set r u) :
  TaskAt (w.setCell ⟨g, P.length * 5 + r, none⟩ u) F tb p ⟨T.base, T.words, P ++ [y], T.marks⟩ X ∧ Fr F w (w.setCell ⟨g, P.length * 5 + r, none⟩ u) := by
 have hgo : X.pv.ownBlock = some g := by rw [hv]; rfl
 have hfs : Fr (fun k => k = g) w (w.setCell ⟨g, P.length * 5 + r, none⟩ u) := (Fr.refl (fun k => k = g) w).setCell (p := ⟨g, P.length * 5 + r, none⟩) (fun _ => rfl) _
 obtain ⟨d1, d2, d3, d4, d5, d6, d7⟩ := h.distinct
 obtain ⟨e1, e2, e3⟩ := d4 g hgo
 have ho := h.parts
 rw [hP, hv] at ho
 have ho2 := own_put ho r u y hy
 have hF : ∀ k, k = g → F k := fun k e => e ▸ h.fp g hgo
 refine ⟨?_, hfs.mono hF⟩
 constructor
 ·exact hfs.heap h.row (fun e => e1 e.symm)
 ·exact h.prg.fr hfs fun k hk e => (h.out k hk).1 (hF k e)
 ·exact fun k hk => ⟨(h.out k hk).1, Nat.lt_of_lt_of_le (h.out k hk).2 hfs.size⟩
 ·exact hfs.heap h.srow (fun e => e2 e.symm)
 ·exact hfs.heap h.wrow (fun e => e3 e.symm)
 ·rw [hv]; exact ho2
 ·exact h.marks.fr hfs (fun k hk e => d6 k (e ▸ hgo) hk)
 ·exact Nat.lt_of_lt_of_le h.kb hfs.size
 ·exact h.kept.imp fun n hm => ⟨hm.1, hm.2.fr hfs (fun e => by obtain ⟨cur, f, hc⟩ := own_row h.parts hgo; exact map_ne hm.2 hc e)⟩
 ·exact h.alarms.fr hfs (fun k hk e => (d7 k hk).2.2.2.1 (e ▸ hgo))
 ·exact h.ft
 ·exact h.fs
 ·exact h.fw
 ·exact h.fk
 ·exact h.fp
 ·exact h.fm
 ·exact h.fa
 ·exact fun k hk => Nat.lt_of_lt_of_le (h.flt k hk) hfs.size
end Go.Proofs.YthkhgihjigmkoaaGreat.Tk
namespace Go.Proofs.YthkhgihjigmkoaaGreat.Tk
open Go.ChangeShapes Go.WideShapes Go.ChangeAt Go.RowKit Go.Maps
set_option maxRecDepth 100000 in
theorem pc_some (w : World) (F : Nat → Prop) (tb : Nat) (p : TPrg) (T : Tk) (X : TB) (h : TaskAt w F tb p T X) (hn : T.parts.length ≤ 1000) (n : Nat) (h0 : T.parts.length = n + 1) :
  Calls Tryz.prog 31 #[.pointer (some ⟨tb, 0, none⟩)] w fun e w' => e = .returned (.int .i64 (T.parts[n]'(by omega)).pc) ∧ ∃ m, w' = w.drewN m := by
 obtain ⟨a, c, hpv, hel⟩ := h.pv
 obtain ⟨g, rfl, hgo, k0, k1, k2, k3, k4⟩ := hel n (by omega)
 have tp := top_some w F tb p T X h hn n h0 g hgo
 generalize (T.parts[n]'(by omega)).pc = x at *
 clear h0 h hel k0 k2 k3 k4 hpv hgo hn
 have TP := Lib.hid tp; clear tp
 go_enter Tryz.func31, Tryz.ntmps31
 go_wp2_with fail
 refine TP.out.mono ?_
 rintro e w' ⟨rfl, m, rfl⟩
 have k1 := below_cell (below_drewN (Below.refl w.heap.size w) m) k1
 go_wp2_with fail
 go_ret
 exact ⟨rfl, m, rfl⟩
set_option maxRecDepth 100000 in
theorem goto_any (w : World) (F : Nat → Prop) (tb : Nat) (p : TPrg) (T : Tk) (X : TB) (h : TaskAt w F tb p T X) (hn : T.parts.length ≤ 1000) (P : List Part) (q : Part) (hP : T.parts = P ++ [q]) (v : Int) :
  Calls Tryz.prog 16 #[.pointer (some ⟨tb, 0, none⟩), .int .i64 v] w fun e w' => e = .returned (.tuple #[]) ∧ TaskAt w' F tb p ⟨T.base, T.words, P ++ [⟨q.fn, v, q.base, q.ret, q.ta, q.tn, q.tc⟩], T.marks⟩ X ∧ Fr F w w' := by
 have h0 : T.parts.length = P.length + 1 := by rw [hP]; simp
 obtain ⟨a, c, hpv, hel⟩ := h.pv
 obtain ⟨g, rfl, hgo, k0, k1, k2, k3, k4⟩ := hel P.length (by omega)
 have tp := top_some w F tb p T X h hn P.length h0 g hgo
 have fin := fun m => (h.below (below_drewN (Below.refl w.heap.size w) m)).putPart hP (by rw [hpv]) 1 (.int .i64 v) (y := ⟨q.fn, v, q.base, q.ret, q.ta, q.tn, q.tc⟩) rfl
 have hfz : ∀ m, (w.drewN m).frozen? ⟨g, P.length * 5 + 1, none⟩ = false := fun m => by
  have ho := (h.below (below_drewN (Below.refl w.heap.size w) m)).parts
  rw [hpv, hP] at ho
  exact (own_lastc ho 1 _ rfl).2
 have hfr := fun m => Fr.of_below (below_drewN (Below.refl w.heap.size w) m) F
 generalize (T.parts[P.length]'(by omega)).pc = x at k1
 clear h0 h hel k0 k2 k3 k4 hpv hgo hn hP
 have TP := Lib.hid tp; clear tp
 have FIN := Lib.hid fin; clear fin
 have HFR := Lib.hid hfr; clear hfr
 go_enter Tryz.func16, Tryz.ntmps16
 go_wp2_with fail
 refine TP.out.mono ?_
 rintro e w' ⟨rfl, m, rfl⟩
 have k1 := below_cell (below_drewN (Below.refl w.heap.size w) m) k1
 have hfz := hfz m
 have FINM := Lib.hid (FIN.out m)
 have HFRM := Lib.hid (HFR.out m)
 generalize w.drewN m = wd at *
 go_wp2_with fail
 go_end0
 first | exact ⟨rfl, FINM.out.1, HFRM.out.trans FINM.out.2 (fun _ _ h => h)⟩
end Go.Proofs.YthkhgihjigmkoaaGreat.Tk
namespace Go.Proofs.YthkhgihjigmkoaaGreat.Tk
open Go.ChangeShapes Go.WideShapes Go.ChangeAt Go.RowKit Go.Maps
def inObj (p : TPrg) (q : Part) (off : Int) : Prop := ∃ (j : Nat) (hj : j < p.funcs.length), q.fn = j ∧ ∃ k : Nat, k < p.funcs[j].objects.length ∧ (atN p p.funcs[j] k : Int) ≤ off - q.base ∧ off - q.base < atN p p.funcs[j] (k + 1)
def withinR (p : TPrg) (T : Tk) (v : Int) : Prop := T.base ≤ v ∧ v < T.base + T.words.length ∧ ∃ q ∈ T.parts, inObj p q (v - T.base)
set_option maxRecDepth 100000 in
set_option maxHeartbeats 3200000 in
theorem within_any (w : World) (F : Nat → Prop) (tb : Nat) (p : TPrg) (T : Tk) (X : TB) (h : TaskAt w F tb p T X) (hp : PSmall p) (ht : TkOk T) (hi : ∀ q ∈ T.parts, ∃ j : Nat, j < p.funcs.length ∧ q.fn = j) (hB : baseOk T.base) (v : Int) :
  Calls Tryz.prog 57 #[.pointer (some ⟨tb, 0, none⟩), .int .i64 v] w fun e w' => ∃ x r, e = .returned (.tuple #[.int .i64 x, .bool r]) ∧ ((r = true ∧ x = v - T.base ∧ withinR p T v) ∨ (r = false ∧ x = 0 ∧ ¬ withinR p T v)) ∧ Below w.heap.size w w' := by
 have of := stOff_any w X.sb X.wb T.base T.words h.st hB ht.2.2.1 v
 obtain ⟨q0, q1, q2, q3, q4, _⟩ := h.cells
 by_cases hin : T.base ≤ v ∧ v < T.base + T.words.length
 case neg =>
  rw [if_neg hin, decide_eq_false hin] at of
  have hno : ¬ withinR p T v := fun hh => hin ⟨hh.1, hh.2.1⟩
  clear hin h hB hi ht hp
  have HNO := Lib.hid hno; clear hno
  have OF := Lib.hid of; clear of
  go_enter Tryz.func57, Tryz.ntmps57
  go_wp2_with fail
  refine OF.out.mono ?_
  rintro e w1 ⟨rfl, hb1⟩
  have HB1 := Lib.hid hb1; clear hb1
  go_wp2_with fail
  go_ret2
  exact ⟨_, _, rfl, .inr ⟨rfl, rfl, HNO.out⟩, HB1.out⟩
 rw [if_pos hin, decide_eq_true hin] at of
 have at' := fun wr (hw : Below w.heap.size w wr) (j : Nat) (hj : j < p.funcs.length) (off : Int) => at_any wr X.D (fun k hk => Nat.lt_of_lt_of_le (h.out k hk).2 hw.size) p X.c0 X.c1 X.c2 j hj (h.prg.below hw) hp off
 obtain ⟨⟨a0, n0, m0, e0⟩, ⟨a1, m1, e1, _⟩, a2, m2, e2, _⟩ := h.prg
 rw [e0, e1, e2] at at'
 rw [e0] at q0
 rw [e1] at q1
 rw [e2] at q2
 obtain ⟨a, c, hpv, hel⟩ := h.pv
 rw [hpv] at q4
 have hel : ∀ d (hd : d < T.parts.length), ∃ b, a = some ⟨b, 0, none⟩ ∧ ∀ wr, Below w.heap.size w wr → wr.cell? ⟨b, d * 5, none⟩ = some (.int .i64 T.parts[d].fn) ∧ wr.cell? ⟨b, d * 5 + 1, none⟩ = some (.int .i64 T.parts[d].pc) ∧ wr.cell? ⟨b, d * 5 + 2, none⟩ = some (.int .i64 T.parts[d].base) ∧ wr.cell? ⟨b, d * 5 + 3, none⟩ = some (.int .i64 T.parts[d].ret) ∧ wr.cell? ⟨b, d * 5 + 4, none⟩ = some (.slice T.parts[d].ta T.parts[d].tn T.parts[d].tc) := fun d hd => by
  obtain ⟨b, h1, _, h3, h4, h5, h6, h7⟩ := hel d hd
  exact ⟨b, h1, fun wr hw => ⟨below_cell hw h3, below_cell hw h4, below_cell hw h5, below_cell hw h6, below_cell hw h7⟩⟩
 have hlt0 : tb < w.heap.size := h.lt
 have hpl := ht.1
 have hbs := ht.2.2.2
 have hwl := ht.2.2.1
 have hw1 : ∀ q ∈ T.parts, inObj p q (v - T.base) → withinR p T v := fun q hq hh => ⟨hin.1, hin.2, q, hq, hh⟩
 have hw2 : (∀ d (hd : d < T.parts.length), ¬ inObj p T.parts[d] (v - T.base)) → ¬ withinR p T v := fun hh ⟨_, _, q, hq, h3⟩ => by
  obtain ⟨d, hd, rfl⟩ := List.getElem_of_mem hq
  exact hh d hd h3
 obtain ⟨off, hoff⟩ : ∃ off, off = v - T.base := ⟨_, rfl⟩
 have hofb : 0 ≤ off ∧ off ≤ 100000 := by omega
 rw [← hoff] at hw1 hw2 of
 clear hin h hB ht hp e0 e1 e2 hpv hwl
 have OF := Lib.hid of; clear of
 have AT := Lib.hid at'; clear at'
 have HEL := Lib.hid hel; clear hel
 have HW1 := Lib.hid hw1; clear hw1
 have HW2 := Lib.hid hw2; clear hw2
 have HBS := Lib.hid hbs; clear hbs
 have HI := Lib.hid hi; clear hi
 go_enter Tryz.func57, Tryz.ntmps57
 go_wp2_with fail
 refine OF.out.mono ?_
 rintro e w1 ⟨rfl, hb1⟩
 have q0 := below_cell hb1 q0
 have q1 := below_cell hb1 q1
 have q2 := below_cell hb1 q2
 have q4 := below_cell hb1 q4
 have hbw := Below.refl w1.heap.size w1
 clear hlt0
 have HB1 := Lib.hid hb1; clear hb1
 have HBW := Lib.hid hbw; clear hbw
 have HOFF := Lib.hid hoff; clear hoff
 go_upto_region 6 with fail
 go_wp2_with fail
 go_loopw [31] (fun i wr => ∃ k : Nat, k ≤ T.parts.length ∧ i = .int .i64 k ∧ Below w1.heap.size w1 wr ∧ ∀ d (hd : d < T.parts.length), d < k → ¬ inObj p T.parts[d] off) (fun i _ => T.parts.length - (intOf i).toNat)
 case atStart => exact ⟨0, Nat.zero_le _, rfl, HBW.out, fun d _ hd => absurd hd (Nat.not_lt_zero _)⟩
 case round =>
  obtain ⟨k, hk, rfl, hbr, hno⟩ := hrel
  have hbr2 := HB1.out.trans (hbr.mono HB1.out.size)
  by_cases hlt : k < T.parts.length
  ·obtain ⟨j, hj, hfj⟩ := HI.out T.parts[k] (List.getElem_mem hlt)
   obtain ⟨b, rfl, hcs⟩ := HEL.out k hlt
   obtain ⟨y0, y1, y2, y3, y4⟩ := hcs wr hbr2
   have hbq := HBS.out T.parts[k] (List.getElem_mem hlt)
   have hyes := HW1.out T.parts[k] (List.getElem_mem hlt)
   have hino : ∀ z, (inObj p T.parts[k] z ↔ ∃ i : Nat, i < p.funcs[j].objects.length ∧ (atN p p.funcs[j] i : Int) ≤ z - T.parts[k].base ∧ z - T.parts[k].base < atN p p.funcs[j] (i + 1)) := fun z => ⟨fun ⟨j', hj', e, h⟩ => by
    have : j' = j := by omega
    subst this
    exact h, fun h => ⟨j, hj, hfj, h⟩⟩
   have q0 := below_cell hbr q0
   have q1 := below_cell hbr q1
   have q2 := below_cell hbr q2
   have hk0 : (k : Int) < (T.parts.length : Int) := by omega
   have hk1 : (0 : Int) ≤ (k : Int) := by omega
   have i1 : IntKind.i64.wrap ((k : Int) + 1) = ((k + 1 : Nat) : Int) := IntWalk.i64_in _ (by omega)
   have hnx : ¬ inObj p T.parts[k] off → ∀ d (hd : d < T.parts.length), d < k + 1 → ¬ inObj p T.parts[d] off := fun hn d hd hd2 => by
    rcases Nat.lt_succ_iff_lt_or_eq.1 hd2 with h3 | h3
    ·exact hno d hd h3
    ·subst h3; exact hn
   rw [hfj] at y0
   have i2 : IntKind.i64.wrap (off - T.parts[k].base) = off - T.parts[k].base := IntWalk.i64_in _ (by omega)
   have AJ := Lib.hid (fun wr hw => AT.out wr hw j hj (off - T.parts[k].base))
   have ho := hino off
   generalize hIN : inObj p T.parts[k] off = IN at *
   generalize T.parts[k].base = bq at *
   generalize T.parts[k].pc = pq at *
   generalize T.parts[k].ret = rq at *
   generalize T.parts[k].ta = taq at *
   generalize T.parts[k].tn = tnq at *
   generalize T.parts[k].tc = tcq at *
   obtain ⟨z, hz⟩ : ∃ z, z = off - bq := ⟨_, rfl⟩
   rw [← hz] at ho AJ
   have i3 : IntKind.i64.wrap (off - bq) = z := by rw [i2, hz]
   clear i2
   obtain ⟨xw, hxw⟩ : ∃ xw, xw = wr.alloc (.cells #[.int .i64 j, .int .i64 pq, .int .i64 bq, .int .i64 rq, .slice taq tnq tcq] 100) := ⟨_, rfl⟩
   have hbx : Below wr.heap.size wr xw := by rw [hxw]; exact (Below.refl _ _).alloc (Nat.le_refl _) _
   have hrx : xw.heap[wr.heap.size]? = some (.cells #[.int .i64 j, .int .i64 pq, .int .i64 bq, .int .i64 rq, .slice taq tnq tcq] 100) := by rw [hxw]; exact heap_new _ _
   have p0 := (row_cell hrx 0).1
   have p2 := (row_cell hrx 2).1
   have p0 : xw.cell? ⟨wr.heap.size, 0, none⟩ = some (.int .i64 j) := p0
   have p2 : xw.cell? ⟨wr.heap.size, 2, none⟩ = some (.int .i64 bq) := p2
   have x0 := below_cell hbx q0
   have x1 := below_cell hbx q1
   have x2 := below_cell hbx q2
   have HXW := Lib.hid hxw
   have HBX := Lib.hid (hbr2.trans (hbx.mono hbr2.size))
   have HR0 := Lib.hid (hbr2.trans (hbx.mono hbr2.size)).drew
   have HRR := Lib.hid (hbr.trans (hbx.mono hbr.size)).drew
   have HNX := Lib.hid hnx
   have HO := Lib.hid ho
   have HY := Lib.hid hyes
   clear hxw hbx hrx hnx ho hyes hno hcs hz hino hIN
   go_upto_region 9 with fail
   rw [← HXW.out]
   clear y0 y1 y2 y3 y4 q0 q1 q2 q3 q4
   have hxd := (Below.refl xw.heap.size xw).drew
   have hSd := And.intro (below_cell hxd x0) (And.intro (below_cell hxd x1) (And.intro (below_cell hxd x2) (And.intro (below_cell hxd p0) (below_cell hxd p2))))
   clear hxd
   go_region_held3 (fun w' => w'.cell? ⟨tb, 0, none⟩ = some (.slice a0 n0 m0) ∧ w'.cell? ⟨tb, 1, none⟩ = some (.slice a1 p.shapes.length m1) ∧ w'.cell? ⟨tb, 2, none⟩ = some (.slice a2 p.funcs.length m2) ∧ w'.cell? ⟨wr.heap.size, 0, none⟩ = some (.int .i64 j) ∧ w'.cell? ⟨wr.heap.size, 2, none⟩ = some (.int .i64 bq)) (first | with_reducible exact hSd | with_reducible exact hS3 | go_keep) (first
    | (go_at_call 85
       refine (AJ.out _ HR0.out).mono ?_
       rintro e w3 ⟨xa, xb, xr, rfl, hres, hb3⟩
       have hS3 := And.intro (below_cell hb3 x0) (And.intro (below_cell hb3 x1) (And.intro (below_cell hb3 x2) (And.intro (below_cell hb3 p0) (below_cell hb3 p2))))
       have HB3 := Lib.hid (HR0.out.trans (hb3.mono HR0.out.size))
       have HBR3 := Lib.hid (HRR.out.trans (hb3.mono HRR.out.size))
       have HRES := Lib.hid hres
       clear hb3 hres))
   all_goals
    rcases HRES.out with ⟨rfl, i, hi1, rfl, hi2, hi3, rfl⟩ | ⟨rfl, rfl, rfl, hno2⟩
    ·have hIN2 : IN := HO.out.2 ⟨i, hi1, hi2, hi3⟩
     clear HRES hS3 x0 x1 x2 p0 p2 hi2 hi3
     go_wp2_with fail
     go_ret2
     exact ⟨_, _, rfl, .inl ⟨rfl, HOFF.out, HY.out hIN2⟩, HB3.out⟩
    ·have hIN2 : ¬ IN := fun hh => by
      obtain ⟨i, h1, h2, h3⟩ := HO.out.1 hh
      exact hno2 i h1 ⟨h2, h3⟩
     have HN3 := Lib.hid (HNX.out hIN2)
     clear HRES hS3 x0 x1 x2 p0 p2 hno2
     go_wp2_with fail
     go_roundw
     case rel => exact ⟨k + 1, hlt, by go_num, HBR3.out, HN3.out⟩
     case measure => simp [intOf]; omega
  ·have hk' : k = T.parts.length := by omega
   subst hk'
   have HNO := Lib.hid (HW2.out (fun d hd => hno d hd hd))
   have HB2 := Lib.hid hbr2
   clear hno hbr hbr2
   go_wp2_with fail
   go_ret2
   exact ⟨_, _, rfl, .inr ⟨rfl, rfl, HNO.out⟩, HB2.out⟩
end Go.Proofs.YthkhgihjigmkoaaGreat.Tk
