/- Walks: the place of a stack object; whether an address is in one of them; its word, read and written. Walks: whether an address is in a stack object; its word, read and written. Walks: a step's on and set. -/
import Derived.Test.YthkhgihjigmkoaaGreatSAo
set_option linter.unusedVariables false
set_option linter.unusedSimpArgs false
namespace Go.Proofs.YthkhgihjigmkoaaGreat.Tk
open Go.ChangeShapes Go.WideShapes Go.ChangeAt Go.RowKit Go.Maps
theorem objO_b {p : TPrg} (hp : PSmall p) (f : TFun) (hf : f ∈ p.funcs) (k : Int) : 0 ≤ (objO p f k).1 ∧ (objO p f k).1 ≤ 9100000 ∧ 0 ≤ (objO p f k).2 := by
  unfold objO
  split
  · next h =>
    have := atN_le hp f hf k.toNat (by omega)
    refine ⟨?_, ?_, ?_⟩ <;> dsimp only <;> omega
  · exact ⟨by decide, by decide, by decide⟩
def placeN (p : TPrg) (T : Tk) (b : Int) (f : TFun) (k : Int) : Int := if (objO p f k).2 = 0 then 0 else if 0 ≤ b + (objO p f k).1 ∧ b + (objO p f k).1 < T.words.length then T.base + (b + (objO p f k).1) else 0
set_option maxRecDepth 100000 in
set_option maxHeartbeats 1600000 in
theorem tkPlace_any (w : World) (F : Nat → Prop) (tb : Nat) (p : TPrg) (T : Tk) (X : TB) (h : TaskAt w F tb p T X) (hp : PSmall p) (ht : TkOk T) (hB : baseOk T.base) (n : Nat) (h0 : T.parts.length = n + 1) (j : Nat) (hj : j < p.funcs.length) (hfj : (T.parts[n]'(by omega)).fn = j) (k : Int) (hk : i64B k) :
    Calls Tryz.prog 17 #[.pointer (some ⟨tb, 0, none⟩), .int .i64 k] w fun e w' => e = .returned (.int .i64 (placeN p T (T.parts[n]'(by omega)).base p.funcs[j] k)) ∧ Below w.heap.size w w' := by
  obtain ⟨a, c, hpv, hel⟩ := h.pv
  obtain ⟨g, rfl, hgo, k0, k1, k2, k3, k4⟩ := hel n (by omega)
  have tp := top_some w F tb p T X h ht.1 n h0 g hgo
  have ob := fun wr (hw : Below w.heap.size w wr) => object_any wr X.D (fun k hk => Nat.lt_of_lt_of_le (h.out k hk).2 hw.size) p X.c0 X.c1 X.c2 j hj (h.prg.below hw) hp k hk
  have ad := fun wr (hw : Below w.heap.size w wr) => stAddr_any wr X.sb X.wb T.base T.words (h.below hw).st hB ht.2.2.1
  have hob := objO_b hp p.funcs[j] (List.getElem_mem hj) k
  have hq := ht.2.2.2 (T.parts[n]'(by omega)) (List.getElem_mem _)
  obtain ⟨⟨a0, n0, m0, e0⟩, ⟨a1, m1, e1, _⟩, a2, m2, e2, _⟩ := h.prg
  obtain ⟨q0, q1, q2, q3, _⟩ := h.cells
  rw [e0, e1, e2] at ob
  rw [e0] at q0
  rw [e1] at q1
  rw [e2] at q2
  rw [hfj] at k0
  unfold placeN
  generalize (T.parts[n]'(by omega)).base = bq at *
  generalize objO p p.funcs[j] k = O at *
  obtain ⟨x, y⟩ := O
  dsimp only at *
  obtain ⟨z, hz⟩ : ∃ z, z = bq + x := ⟨_, rfl⟩
  have i1 : IntKind.i64.wrap (bq + x) = z := by rw [hz]; exact IntWalk.i64_in _ (by omega)
  rw [← hz]
  have ad := fun wr hw => ad wr hw z
  generalize (if 0 ≤ z ∧ z < (T.words.length : Int) then T.base + z else 0) = r at *
  obtain ⟨R, hR⟩ : ∃ R, R = if y = 0 then 0 else r := ⟨_, rfl⟩
  rw [← hR]
  have hbd := fun m => below_drewN (Below.refl w.heap.size w) m
  clear hz hq hob k1 k3 k4 hgo hel hpv h0 h e0 e1 e2 hB ht hp hfj
  have TP := Lib.hid tp; clear tp
  have OB := Lib.hid ob; clear ob
  have AD := Lib.hid ad; clear ad
  have HBD := Lib.hid hbd; clear hbd
  go_enter Tryz.func17, Tryz.ntmps17
  go_wp2_with fail
  refine TP.out.mono ?_
  rintro e w' ⟨rfl, m, rfl⟩
  have hb1 := HBD.out m
  go_upto_region 4 with fail
  have q0 := below_cell hb1 q0
  have q1 := below_cell hb1 q1
  have q2 := below_cell hb1 q2
  have q3 := below_cell hb1 q3
  have k0 := below_cell hb1 k0
  have k2 := below_cell hb1 k2
  generalize w.drewN m = wd at *
  have HR0 := Lib.hid hb1.drew
  clear hb1
  go_region_held3 (fun w' => w'.cell? ⟨tb, 0, none⟩ = some (.slice a0 n0 m0) ∧ w'.cell? ⟨tb, 1, none⟩ = some (.slice a1 p.shapes.length m1) ∧ w'.cell? ⟨tb, 2, none⟩ = some (.slice a2 p.funcs.length m2) ∧ w'.cell? ⟨g, n * 5, none⟩ = some (.int .i64 j) ∧ w'.cell? ⟨tb, 3, none⟩ = some (.pointer (some ⟨X.sb, 0, none⟩)) ∧ w'.cell? ⟨g, n * 5 + 2, none⟩ = some (.int .i64 bq)) (first | with_reducible exact ⟨q0, q1, q2, k0, q3, k2⟩ | with_reducible exact hS3 | go_keep) (first
    | (go_at_call 55
       refine (OB.out _ HR0.out).mono ?_
       rintro e w3 ⟨rfl, hb3⟩
       have hS3 := And.intro (below_cell hb3 q0) (And.intro (below_cell hb3 q1) (And.intro (below_cell hb3 q2) (And.intro (below_cell hb3 k0) (And.intro (below_cell hb3 q3) (below_cell hb3 k2)))))
       have HB3 := Lib.hid (HR0.out.trans (hb3.mono HR0.out.size))
       clear hb3))
  all_goals
    obtain ⟨_, _, _, _, q3, k2⟩ := hS3
    by_cases hy : y = 0
    · subst hy
      rw [if_pos rfl] at hR
      subst hR
      go_wp2_with fail
      go_ret
      exact ⟨rfl, HB3.out⟩
    · have hy2 : (y == 0) = false := by rw [beq_eq_false_iff_ne]; exact hy
      rw [if_neg hy] at hR
      subst hR
      go_upto_region 7 with fail
      go_still_tail 10, (by kernel_rfl)
      change wpList _ _ _ _ _ w3.drew
      have hb4 := HB3.out.trans (((Below.refl w3.heap.size w3).drew).mono HB3.out.size)
      generalize w3.drew = w4 at *
      have HB4 := Lib.hid hb4; clear hb4
      go_wp2_with fail
      refine (AD.out _ HB4.out).mono ?_
      rintro e w5 ⟨rfl, rfl⟩
      go_wp2_with fail
      go_ret
      exact ⟨rfl, HB4.out⟩
end Go.Proofs.YthkhgihjigmkoaaGreat.Tk
namespace Go.Proofs.YthkhgihjigmkoaaGreat.Tk
open Go.ChangeShapes Go.WideShapes Go.ChangeAt Go.RowKit Go.Maps
/-- a word of a frame is in one of its stack objects -/
def inObj (p : TPrg) (q : Part) (off : Int) : Prop := ∃ (j : Nat) (hj : j < p.funcs.length), q.fn = j ∧ ∃ k : Nat, k < p.funcs[j].objects.length ∧ (atN p p.funcs[j] k : Int) ≤ off - q.base ∧ off - q.base < atN p p.funcs[j] (k + 1)
/-- an address is in a stack object of a frame -/
def withinR (p : TPrg) (T : Tk) (v : Int) : Prop := T.base ≤ v ∧ v < T.base + T.words.length ∧ ∃ q ∈ T.parts, inObj p q (v - T.base)
set_option maxRecDepth 100000 in
set_option maxHeartbeats 3200000 in
theorem within_any (w : World) (F : Nat → Prop) (tb : Nat) (p : TPrg) (T : Tk) (X : TB) (h : TaskAt w F tb p T X) (hp : PSmall p) (ht : TkOk T) (hi : ∀ q ∈ T.parts, ∃ j : Nat, j < p.funcs.length ∧ q.fn = j) (hB : baseOk T.base) (v : Int) :
    Calls Tryz.prog 57 #[.pointer (some ⟨tb, 0, none⟩), .int .i64 v] w fun e w' => ∃ x r, e = .returned (.tuple #[.int .i64 x, .bool r]) ∧ ((r = true ∧ x = v - T.base ∧ withinR p T v) ∨ (r = false ∧ x = 0 ∧ ¬ withinR p T v)) ∧ Below w.heap.size w w' := by
  have of := stOff_any w X.sb X.wb T.base T.words h.st hB ht.2.2.1 v
  obtain ⟨q0, q1, q2, q3, q4, _⟩ := h.cells
  by_cases hin : T.base ≤ v ∧ v < T.base + T.words.length
  case neg =>
    rw [if_neg hin, decide_eq_false hin] at of
    have hno : ¬ withinR p T v := fun hh => hin ⟨hh.1, hh.2.1⟩
    clear hin h hB hi ht hp
    have HNO := Lib.hid hno; clear hno
    have OF := Lib.hid of; clear of
    go_enter Tryz.func57, Tryz.ntmps57
    go_wp2_with fail
    refine OF.out.mono ?_
    rintro e w1 ⟨rfl, hb1⟩
    have HB1 := Lib.hid hb1; clear hb1
    go_wp2_with fail
    go_ret2
    exact ⟨_, _, rfl, .inr ⟨rfl, rfl, HNO.out⟩, HB1.out⟩
  rw [if_pos hin, decide_eq_true hin] at of
  have at' := fun wr (hw : Below w.heap.size w wr) (j : Nat) (hj : j < p.funcs.length) (off : Int) => at_any wr X.D (fun k hk => Nat.lt_of_lt_of_le (h.out k hk).2 hw.size) p X.c0 X.c1 X.c2 j hj (h.prg.below hw) hp off
  obtain ⟨⟨a0, n0, m0, e0⟩, ⟨a1, m1, e1, _⟩, a2, m2, e2, _⟩ := h.prg
  rw [e0, e1, e2] at at'
  rw [e0] at q0
  rw [e1] at q1
  rw [e2] at q2
  obtain ⟨a, c, hpv, hel⟩ := h.pv
  rw [hpv] at q4
  have hel : ∀ d (hd : d < T.parts.length), ∃ b, a = some ⟨b, 0, none⟩ ∧ ∀ wr, Below w.heap.size w wr → wr.cell? ⟨b, d * 5, none⟩ = some (.int .i64 T.parts[d].fn) ∧ wr.cell? ⟨b, d * 5 + 1, none⟩ = some (.int .i64 T.parts[d].pc) ∧ wr.cell? ⟨b, d * 5 + 2, none⟩ = some (.int .i64 T.parts[d].base) ∧ wr.cell? ⟨b, d * 5 + 3, none⟩ = some (.int .i64 T.parts[d].ret) ∧ wr.cell? ⟨b, d * 5 + 4, none⟩ = some (.slice T.parts[d].ta T.parts[d].tn T.parts[d].tc) := fun d hd => by
    obtain ⟨b, h1, _, h3, h4, h5, h6, h7⟩ := hel d hd
    exact ⟨b, h1, fun wr hw => ⟨below_cell hw h3, below_cell hw h4, below_cell hw h5, below_cell hw h6, below_cell hw h7⟩⟩
  have hlt0 : tb < w.heap.size := h.lt
  have hpl := ht.1
  have hbs := ht.2.2.2
  have hwl := ht.2.2.1
  have hw1 : ∀ q ∈ T.parts, inObj p q (v - T.base) → withinR p T v := fun q hq hh => ⟨hin.1, hin.2, q, hq, hh⟩
  have hw2 : (∀ d (hd : d < T.parts.length), ¬ inObj p T.parts[d] (v - T.base)) → ¬ withinR p T v := fun hh ⟨_, _, q, hq, h3⟩ => by
    obtain ⟨d, hd, rfl⟩ := List.getElem_of_mem hq
    exact hh d hd h3
  obtain ⟨off, hoff⟩ : ∃ off, off = v - T.base := ⟨_, rfl⟩
  have hofb : 0 ≤ off ∧ off ≤ 100000 := by omega
  rw [← hoff] at hw1 hw2 of
  clear hin h hB ht hp e0 e1 e2 hpv hwl
  have OF := Lib.hid of; clear of
  have AT := Lib.hid at'; clear at'
  have HEL := Lib.hid hel; clear hel
  have HW1 := Lib.hid hw1; clear hw1
  have HW2 := Lib.hid hw2; clear hw2
  have HBS := Lib.hid hbs; clear hbs
  have HI := Lib.hid hi; clear hi
  go_enter Tryz.func57, Tryz.ntmps57
  go_wp2_with fail
  refine OF.out.mono ?_
  rintro e w1 ⟨rfl, hb1⟩
  have q0 := below_cell hb1 q0
  have q1 := below_cell hb1 q1
  have q2 := below_cell hb1 q2
  have q4 := below_cell hb1 q4
  have hbw := Below.refl w1.heap.size w1
  clear hlt0
  have HB1 := Lib.hid hb1; clear hb1
  have HBW := Lib.hid hbw; clear hbw
  have HOFF := Lib.hid hoff; clear hoff
  go_upto_region 6 with fail
  go_wp2_with fail
  go_loopw [31] (fun i wr => ∃ k : Nat, k ≤ T.parts.length ∧ i = .int .i64 k ∧ Below w1.heap.size w1 wr ∧ ∀ d (hd : d < T.parts.length), d < k → ¬ inObj p T.parts[d] off) (fun i _ => T.parts.length - (intOf i).toNat)
  case atStart => exact ⟨0, Nat.zero_le _, rfl, HBW.out, fun d _ hd => absurd hd (Nat.not_lt_zero _)⟩
  case round =>
    obtain ⟨k, hk, rfl, hbr, hno⟩ := hrel
    have hbr2 := HB1.out.trans (hbr.mono HB1.out.size)
    by_cases hlt : k < T.parts.length
    · obtain ⟨j, hj, hfj⟩ := HI.out T.parts[k] (List.getElem_mem hlt)
      obtain ⟨b, rfl, hcs⟩ := HEL.out k hlt
      obtain ⟨y0, y1, y2, y3, y4⟩ := hcs wr hbr2
      have hbq := HBS.out T.parts[k] (List.getElem_mem hlt)
      have hyes := HW1.out T.parts[k] (List.getElem_mem hlt)
      have hino : ∀ z, (inObj p T.parts[k] z ↔ ∃ i : Nat, i < p.funcs[j].objects.length ∧ (atN p p.funcs[j] i : Int) ≤ z - T.parts[k].base ∧ z - T.parts[k].base < atN p p.funcs[j] (i + 1)) := fun z => ⟨fun ⟨j', hj', e, h⟩ => by
        have : j' = j := by omega
        subst this
        exact h, fun h => ⟨j, hj, hfj, h⟩⟩
      have q0 := below_cell hbr q0
      have q1 := below_cell hbr q1
      have q2 := below_cell hbr q2
      have hk0 : (k : Int) < (T.parts.length : Int) := by omega
      have hk1 : (0 : Int) ≤ (k : Int) := by omega
      have i1 : IntKind.i64.wrap ((k : Int) + 1) = ((k + 1 : Nat) : Int) := IntWalk.i64_in _ (by omega)
      have hnx : ¬ inObj p T.parts[k] off → ∀ d (hd : d < T.parts.length), d < k + 1 → ¬ inObj p T.parts[d] off := fun hn d hd hd2 => by
        rcases Nat.lt_succ_iff_lt_or_eq.1 hd2 with h3 | h3
        · exact hno d hd h3
        · subst h3; exact hn
      rw [hfj] at y0
      have i2 : IntKind.i64.wrap (off - T.parts[k].base) = off - T.parts[k].base := IntWalk.i64_in _ (by omega)
      have AJ := Lib.hid (fun wr hw => AT.out wr hw j hj (off - T.parts[k].base))
      have ho := hino off
      generalize hIN : inObj p T.parts[k] off = IN at *
      generalize T.parts[k].base = bq at *
      generalize T.parts[k].pc = pq at *
      generalize T.parts[k].ret = rq at *
      generalize T.parts[k].ta = taq at *
      generalize T.parts[k].tn = tnq at *
      generalize T.parts[k].tc = tcq at *
      obtain ⟨z, hz⟩ : ∃ z, z = off - bq := ⟨_, rfl⟩
      rw [← hz] at ho AJ
      have i3 : IntKind.i64.wrap (off - bq) = z := by rw [i2, hz]
      clear i2
      obtain ⟨xw, hxw⟩ : ∃ xw, xw = wr.alloc (.cells #[.int .i64 j, .int .i64 pq, .int .i64 bq, .int .i64 rq, .slice taq tnq tcq] 100) := ⟨_, rfl⟩
      have hbx : Below wr.heap.size wr xw := by rw [hxw]; exact (Below.refl _ _).alloc (Nat.le_refl _) _
      have hrx : xw.heap[wr.heap.size]? = some (.cells #[.int .i64 j, .int .i64 pq, .int .i64 bq, .int .i64 rq, .slice taq tnq tcq] 100) := by rw [hxw]; exact heap_new _ _
      have p0 := (row_cell hrx 0).1
      have p2 := (row_cell hrx 2).1
      have p0 : xw.cell? ⟨wr.heap.size, 0, none⟩ = some (.int .i64 j) := p0
      have p2 : xw.cell? ⟨wr.heap.size, 2, none⟩ = some (.int .i64 bq) := p2
      have x0 := below_cell hbx q0
      have x1 := below_cell hbx q1
      have x2 := below_cell hbx q2
      have HXW := Lib.hid hxw
      have HBX := Lib.hid (hbr2.trans (hbx.mono hbr2.size))
      have HR0 := Lib.hid (hbr2.trans (hbx.mono hbr2.size)).drew
      have HRR := Lib.hid (hbr.trans (hbx.mono hbr.size)).drew
      have HNX := Lib.hid hnx
      have HO := Lib.hid ho
      have HY := Lib.hid hyes
      clear hxw hbx hrx hnx ho hyes hno hcs hz hino hIN
      go_upto_region 9 with fail
      rw [← HXW.out]
      clear y0 y1 y2 y3 y4 q0 q1 q2 q3 q4
      have hxd := (Below.refl xw.heap.size xw).drew
      have hSd := And.intro (below_cell hxd x0) (And.intro (below_cell hxd x1) (And.intro (below_cell hxd x2) (And.intro (below_cell hxd p0) (below_cell hxd p2))))
      clear hxd
      go_region_held3 (fun w' => w'.cell? ⟨tb, 0, none⟩ = some (.slice a0 n0 m0) ∧ w'.cell? ⟨tb, 1, none⟩ = some (.slice a1 p.shapes.length m1) ∧ w'.cell? ⟨tb, 2, none⟩ = some (.slice a2 p.funcs.length m2) ∧ w'.cell? ⟨wr.heap.size, 0, none⟩ = some (.int .i64 j) ∧ w'.cell? ⟨wr.heap.size, 2, none⟩ = some (.int .i64 bq)) (first | with_reducible exact hSd | with_reducible exact hS3 | go_keep) (first
        | (go_at_call 85
           refine (AJ.out _ HR0.out).mono ?_
           rintro e w3 ⟨xa, xb, xr, rfl, hres, hb3⟩
           have hS3 := And.intro (below_cell hb3 x0) (And.intro (below_cell hb3 x1) (And.intro (below_cell hb3 x2) (And.intro (below_cell hb3 p0) (below_cell hb3 p2))))
           have HB3 := Lib.hid (HR0.out.trans (hb3.mono HR0.out.size))
           have HBR3 := Lib.hid (HRR.out.trans (hb3.mono HRR.out.size))
           have HRES := Lib.hid hres
           clear hb3 hres))
      all_goals
        rcases HRES.out with ⟨rfl, i, hi1, rfl, hi2, hi3, rfl⟩ | ⟨rfl, rfl, rfl, hno2⟩
        · have hIN2 : IN := HO.out.2 ⟨i, hi1, hi2, hi3⟩
          clear HRES hS3 x0 x1 x2 p0 p2 hi2 hi3
          go_wp2_with fail
          go_ret2
          exact ⟨_, _, rfl, .inl ⟨rfl, HOFF.out, HY.out hIN2⟩, HB3.out⟩
        · have hIN2 : ¬ IN := fun hh => by
            obtain ⟨i, h1, h2, h3⟩ := HO.out.1 hh
            exact hno2 i h1 ⟨h2, h3⟩
          have HN3 := Lib.hid (HNX.out hIN2)
          clear HRES hS3 x0 x1 x2 p0 p2 hno2
          go_wp2_with fail
          go_roundw
          case rel => exact ⟨k + 1, hlt, by go_num, HBR3.out, HN3.out⟩
          case measure => simp [intOf]; omega
    · have hk' : k = T.parts.length := by omega
      subst hk'
      have HNO := Lib.hid (HW2.out (fun d hd => hno d hd hd))
      have HB2 := Lib.hid hbr2
      clear hno hbr hbr2
      go_wp2_with fail
      go_ret2
      exact ⟨_, _, rfl, .inr ⟨rfl, rfl, HNO.out⟩, HB2.out⟩
set_option maxRecDepth 100000 in
set_option maxHeartbeats 1600000 in
theorem word_in (w : World) (F : Nat → Prop) (tb : Nat) (p : TPrg) (T : Tk) (X : TB) (h : TaskAt w F tb p T X) (hp : PSmall p) (ht : TkOk T) (hi : ∀ q ∈ T.parts, ∃ j : Nat, j < p.funcs.length ∧ q.fn = j) (hB : baseOk T.base) (v : Int) (hv : withinR p T v) (k : Nat) (hk : k < T.words.length) (hvk : v - T.base = k) :
    Calls Tryz.prog 24 #[.pointer (some ⟨tb, 0, none⟩), .int .i64 v] w fun e w' => e = .returned (.tuple #[.int .i64 (T.words[k]'hk), .bool true]) ∧ Below w.heap.size w w' := by
  have wi := within_any w F tb p T X h hp ht hi hB v
  have ld := fun wr (hw : Below w.heap.size w wr) => stLoad_in wr X.sb X.wb T.base T.words (h.below hw).st k hk
  have q3 : ∀ wr, Below w.heap.size w wr → wr.cell? ⟨tb, 3, none⟩ = some (.pointer (some ⟨X.sb, 0, none⟩)) := fun wr hw => (h.below hw).cells.2.2.2.1
  generalize T.words[k] = x at *
  rw [hvk] at wi
  clear hi hB hp ht h
  have HV := Lib.hid hv; clear hv
  have WI := Lib.hid wi; clear wi
  have LD := Lib.hid ld; clear ld
  have Q3 := Lib.hid q3; clear q3
  go_enter Tryz.func24, Tryz.ntmps24
  go_wp2_with fail
  refine WI.out.mono ?_
  rintro e w1 ⟨y, r, rfl, hres, hb1⟩
  have hres2 : r = true ∧ y = k := by
    rcases hres with ⟨h1, h2, _⟩ | ⟨_, _, h3⟩
    · exact ⟨h1, h2⟩
    · exact absurd HV.out h3
  obtain ⟨rfl, rfl⟩ := hres2
  clear hres
  have q3 := Q3.out _ hb1
  have HB1 := Lib.hid hb1; clear hb1
  go_wp2_with fail
  refine (LD.out _ HB1.out).mono ?_
  rintro e w2 ⟨rfl, rfl⟩
  go_wp2_with fail
  go_ret2
  exact ⟨rfl, HB1.out⟩
set_option maxRecDepth 100000 in
set_option maxHeartbeats 1600000 in
theorem put_in (w : World) (F : Nat → Prop) (tb : Nat) (p : TPrg) (T : Tk) (X : TB) (h : TaskAt w F tb p T X) (hp : PSmall p) (ht : TkOk T) (hi : ∀ q ∈ T.parts, ∃ j : Nat, j < p.funcs.length ∧ q.fn = j) (hB : baseOk T.base) (v : Int) (hv : withinR p T v) (k : Nat) (hk : k < T.words.length) (hvk : v - T.base = k) (x : Int) :
    Calls Tryz.prog 19 #[.pointer (some ⟨tb, 0, none⟩), .int .i64 v, .int .i64 x] w fun e w' => e = .returned (.bool true) ∧ TaskAt w' F tb p ⟨T.base, T.words.set k x, T.parts, T.marks⟩ X ∧ Fr F w w' := by
  have wi := within_any w F tb p T X h hp ht hi hB v
  have ld := fun wr (hw : Below w.heap.size w wr) => stStore_in wr X.sb X.wb T.base T.words (h.below hw).st k hk x
  have q3 : ∀ wr, Below w.heap.size w wr → wr.cell? ⟨tb, 3, none⟩ = some (.pointer (some ⟨X.sb, 0, none⟩)) := fun wr hw => (h.below hw).cells.2.2.2.1
  have hfin : ∀ wr, Below w.heap.size w wr → TaskAt (wr.setCell ⟨X.wb, k, none⟩ (.int .i64 x)) F tb p ⟨T.base, T.words.set k x, T.parts, T.marks⟩ X ∧ Fr F w (wr.setCell ⟨X.wb, k, none⟩ (.int .i64 x)) := fun wr hw => ⟨(h.below hw).store _ _, (Fr.of_below hw F).setCell (p := ⟨X.wb, k, none⟩) (fun _ => h.fw) _⟩
  rw [hvk] at wi
  clear hi hB hp ht h
  have HV := Lib.hid hv; clear hv
  have WI := Lib.hid wi; clear wi
  have LD := Lib.hid ld; clear ld
  have Q3 := Lib.hid q3; clear q3
  have HFIN := Lib.hid hfin; clear hfin
  go_enter Tryz.func19, Tryz.ntmps19
  go_wp2_with fail
  refine WI.out.mono ?_
  rintro e w1 ⟨y, r, rfl, hres, hb1⟩
  have hres2 : r = true ∧ y = k := by
    rcases hres with ⟨h1, h2, _⟩ | ⟨_, _, h3⟩
    · exact ⟨h1, h2⟩
    · exact absurd HV.out h3
  obtain ⟨rfl, rfl⟩ := hres2
  clear hres
  have q3 := Q3.out _ hb1
  have HB1 := Lib.hid hb1; clear hb1
  go_wp2_with fail
  refine (LD.out _ HB1.out).mono ?_
  rintro e w2 ⟨rfl, rfl⟩
  have HF := Lib.hid (HFIN.out _ HB1.out)
  go_wp2_with fail
  go_ret
  exact ⟨rfl, HF.out⟩
end Go.Proofs.YthkhgihjigmkoaaGreat.Tk
namespace Go.Proofs.YthkhgihjigmkoaaGreat.Tk
open Go.ChangeShapes Go.WideShapes Go.ChangeAt Go.RowKit Go.Maps
/-- what a step did, or asks for -/
def actV (k a f v fn : Int) (b : Bool) (r : Value) : Value := .agg #[.int .i64 k, .int .i64 a, .int .i64 f, .int .i64 v, .int .i64 fn, .bool b, r]
def act0 : Obj := .cells #[.int .i64 0, .int .i64 0, .int .i64 0, .int .i64 0, .int .i64 0, .bool false, .slice none 0 0] 63
/-- a step, as its nine cells -/
def stepV (c0 c1 c2 mp : Value) (tb : Nat) (i0 i1 i2 i3 : Int) : Array Value := #[c0, c1, c2, mp, .pointer (some ⟨tb, 0, none⟩), .int .i64 i0, .int .i64 i1, .int .i64 i2, .int .i64 i3]
theorem seven_cells {w : World} {q : Nat} {x0 x1 x2 x3 x4 x5 x6 : Value} {t : TypeId} (h : w.heap[q]? = some (.cells #[x0, x1, x2, x3, x4, x5, x6] t)) :
    (w.cell? ⟨q, 0, none⟩ = some x0 ∧ w.cell? ⟨q, 1, none⟩ = some x1 ∧ w.cell? ⟨q, 2, none⟩ = some x2 ∧ w.cell? ⟨q, 3, none⟩ = some x3 ∧ w.cell? ⟨q, 4, none⟩ = some x4 ∧ w.cell? ⟨q, 5, none⟩ = some x5 ∧ w.cell? ⟨q, 6, none⟩ = some x6) ∧ w.frozen? ⟨q, 0, none⟩ = false ∧ w.frozen? ⟨q, 1, none⟩ = false ∧ w.frozen? ⟨q, 2, none⟩ = false ∧ w.frozen? ⟨q, 3, none⟩ = false ∧ w.frozen? ⟨q, 4, none⟩ = false ∧ w.frozen? ⟨q, 5, none⟩ = false ∧ w.frozen? ⟨q, 6, none⟩ = false :=
  ⟨⟨(row_cell h 0).1, (row_cell h 1).1, (row_cell h 2).1, (row_cell h 3).1, (row_cell h 4).1, (row_cell h 5).1, (row_cell h 6).1⟩, (row_cell h 0).2, (row_cell h 1).2, (row_cell h 2).2, (row_cell h 3).2, (row_cell h 4).2, (row_cell h 5).2, (row_cell h 6).2⟩
theorem seven_fr (X : World) (v0 v1 v2 v3 v4 v5 v6 : Value) (z : Nat) : Fr (fun k => k = z) X (((((((X.setCell ⟨z, 0, none⟩ v0).setCell ⟨z, 1, none⟩ v1).setCell ⟨z, 2, none⟩ v2).setCell ⟨z, 3, none⟩ v3).setCell ⟨z, 4, none⟩ v4).setCell ⟨z, 5, none⟩ v5).setCell ⟨z, 6, none⟩ v6) := (((((((Fr.refl (fun k => k = z) X).setCell (p := ⟨z, 0, none⟩) (fun _ => rfl) v0).setCell (p := ⟨z, 1, none⟩) (fun _ => rfl) v1).setCell (p := ⟨z, 2, none⟩) (fun _ => rfl) v2).setCell (p := ⟨z, 3, none⟩) (fun _ => rfl) v3).setCell (p := ⟨z, 4, none⟩) (fun _ => rfl) v4).setCell (p := ⟨z, 5, none⟩) (fun _ => rfl) v5).setCell (p := ⟨z, 6, none⟩) (fun _ => rfl) v6
theorem seven_row {X : World} {z : Nat} {u0 u1 u2 u3 u4 u5 u6 : Value} {t : TypeId} (h : X.heap[z]? = some (.cells #[u0, u1, u2, u3, u4, u5, u6] t)) (v0 v1 v2 v3 v4 v5 v6 : Value) : (((((((X.setCell ⟨z, 0, none⟩ v0).setCell ⟨z, 1, none⟩ v1).setCell ⟨z, 2, none⟩ v2).setCell ⟨z, 3, none⟩ v3).setCell ⟨z, 4, none⟩ v4).setCell ⟨z, 5, none⟩ v5).setCell ⟨z, 6, none⟩ v6).heap[z]? = some (.cells #[v0, v1, v2, v3, v4, v5, v6] t) := by
  have := (row_set (row_set (row_set (row_set (row_set (row_set (row_set h 0 v0) 1 v1) 2 v2) 3 v3) 4 v4) 5 v5) 6 v6)
  simpa using this
set_option maxRecDepth 100000 in
set_option maxHeartbeats 1600000 in
theorem on_any (w : World) (F : Nat → Prop) (tb : Nat) (p : TPrg) (T : Tk) (X : TB) (h : TaskAt w F tb p T X) (hn : T.parts.length ≤ 1000) (P : List Part) (q : Part) (hP : T.parts = P ++ [q]) (hq : 0 ≤ q.pc ∧ q.pc ≤ 100000) (c0 c1 c2 mp : Value) (i0 i1 i2 i3 : Int) :
    Calls Tryz.prog 71 #[.agg (stepV c0 c1 c2 mp tb i0 i1 i2 i3)] w fun e w' => e = .returned (actV 0 0 0 0 0 false (.slice none 0 0)) ∧ TaskAt w' F tb p ⟨T.base, T.words, P ++ [⟨q.fn, q.pc + 1, q.base, q.ret, q.ta, q.tn, q.tc⟩], T.marks⟩ X ∧ Fr F w w' := by
  have hb0 := ((Below.refl w.heap.size w).alloc (Nat.le_refl _) (.cells (stepV c0 c1 c2 mp tb i0 i1 i2 i3) 124))
  have hb1 := hb0.alloc hb0.size act0
  have hr0 := row_alloc (heap_new w (.cells (stepV c0 c1 c2 mp tb i0 i1 i2 i3) 124)) act0
  have hr1 := heap_new (w.alloc (.cells (stepV c0 c1 c2 mp tb i0 i1 i2 i3) 124)) act0
  rw [show (w.alloc (.cells (stepV c0 c1 c2 mp tb i0 i1 i2 i3) 124)).heap.size = w.heap.size + 1 from by simp] at hr1
  obtain ⟨W, hW⟩ : ∃ W, W = (w.alloc (.cells (stepV c0 c1 c2 mp tb i0 i1 i2 i3) 124)).alloc act0 := ⟨_, rfl⟩
  rw [← hW] at hb1 hr0 hr1
  have s4 : W.cell? ⟨w.heap.size, 4, none⟩ = some (.pointer (some ⟨tb, 0, none⟩)) := (row_cell hr0 4).1
  have hT := h.below hb1
  have hl : T.parts.length = P.length + 1 := by rw [hP]; simp
  have pc := fun wr (hw : Below w.heap.size w wr) => pc_some wr F tb p T X (h.below hw) hn P.length hl
  have gt := fun wr (hw : Below w.heap.size w wr) => goto_any wr F tb p T X (h.below hw) hn P q hP (q.pc + 1)
  have e0 : (T.parts[P.length]'(by omega)).pc = q.pc := by simp only [hP]; simp
  rw [e0] at pc
  have hflt := h.flt
  have i1' : IntKind.i64.wrap (q.pc + 1) = q.pc + 1 := IntWalk.i64_in _ (by omega)
  unfold stepV at hW
  unfold act0 at hW hr1
  have HR0 := Lib.hid hb1.drew
  have HSG := Lib.hid (fun k => below_cell (below_drewN (Below.refl W.heap.size W) k) s4)
  have HRG := Lib.hid (fun k => (Fr.of_below (below_drewN (Below.refl W.heap.size W) k) (fun _ => False)).heap hr1 (fun h => h))
  have HBD := Lib.hid (fun k => below_drewN hb1 k)
  have HOUT := Lib.hid (fun k (hk : X.D k) => (h.out k hk).2)
  have HW := Lib.hid hW
  have hSd : W.drew.cell? ⟨w.heap.size, 4, none⟩ = some (.pointer (some ⟨tb, 0, none⟩)) := s4
  clear hb0 hW hP hl e0 hT h hn hr0
  generalize q.pc = pc0 at *
  have PC := Lib.hid pc; clear pc
  have GT := Lib.hid gt; clear gt
  have HB1 := Lib.hid hb1; clear hb1
  have HR1 := Lib.hid hr1; clear hr1
  have HFLT := Lib.hid hflt; clear hflt
  unfold stepV
  go_enter Tryz.func71, Tryz.ntmps71
  go_upto_region 1 with fail
  rw [← HW.out]
  go_region_held3 (fun w' => w'.cell? ⟨w.heap.size, 4, none⟩ = some (.pointer (some ⟨tb, 0, none⟩))) (first | with_reducible exact HSG.out _ | with_reducible exact hSd | with_reducible exact hS4 | go_keep) (first
    | (go_at_call 31
       refine (PC.out _ HR0.out).mono ?_
       rintro e w3 ⟨rfl, m, rfl⟩)
    | (go_at_call 16
       refine (GT.out _ (HBD.out _)).mono ?_
       rintro e w4 ⟨rfl, hT4, hf4⟩
       have hS4 := hf4.cell (HSG.out _) (fun e => Nat.lt_irrefl _ (HFLT.out w.heap.size e))
       have hr4 := hf4.heap (HRG.out _) (fun e => by have := HFLT.out (w.heap.size + 1) e; omega)
       have HF4 := Lib.hid ((Fr.of_below (HBD.out _) F).trans hf4 (fun _ _ h => h))
       have HT4 := Lib.hid hT4
       clear hT4 hf4))
  all_goals
    obtain ⟨⟨z0, z1, z2, z3, z4, z5, z6⟩, y0, y1, y2, y3, y4, y5, y6⟩ := seven_cells hr4
    have hfs := seven_fr w4 (.int .i64 0) (.int .i64 0) (.int .i64 0) (.int .i64 0) (.int .i64 0) (.bool false) (.slice none 0 0) (w.heap.size + 1)
    have hrs := seven_row hr4 (.int .i64 0) (.int .i64 0) (.int .i64 0) (.int .i64 0) (.int .i64 0) (.bool false) (.slice none 0 0)
    have hT5 := HT4.out.fr hfs (fun k hk e => by have := HFLT.out k hk; have e : k = w.heap.size + 1 := e; omega) (fun k hk e => by have := HOUT.out k hk; have e : k = w.heap.size + 1 := e; omega)
    have hf5 := HF4.out.trans hfs (fun k hk e => by have e : k = w.heap.size + 1 := e; omega)
    clear hfs hr4 hS4
    have HRS := Lib.hid hrs; clear hrs
    have HT5 := Lib.hid hT5; clear hT5
    have HF5 := Lib.hid hf5; clear hf5
    go_wp2_with (with_reducible refine bodyPost_ret ?_ rfl ⟨rfl, HT5.out, HF5.out⟩; have k0 := (row_cell HRS.out 0).1; have k1 := (row_cell HRS.out 1).1; have k2 := (row_cell HRS.out 2).1; have k3 := (row_cell HRS.out 3).1; have k4 := (row_cell HRS.out 4).1; have k5 := (row_cell HRS.out 5).1; have k6 := (row_cell HRS.out 6).1; simp at k0 k1 k2 k3 k4 k5 k6; simp [results, Tryz.results71, go_sem, k0, k1, k2, k3, k4, k5, k6, actV])
set_option maxRecDepth 100000 in
set_option maxHeartbeats 1600000 in
theorem stSet_any (w : World) (F : Nat → Prop) (tb : Nat) (p : TPrg) (T : Tk) (X : TB) (h : TaskAt w F tb p T X) (ht : TkOk T) (P : List Part) (q : Part) (hP : T.parts = P ++ [q]) (hq : 0 ≤ q.pc ∧ q.pc ≤ 100000) (j : Nat) (hj : j < p.funcs.length) (hfj : q.fn = j) (bn : Nat) (hbn : q.base = bn) (s : Nat) (hs : (s : Int) < p.funcs[j].slots) (hs2 : s ≤ 3000) (hin : bn + (2 + s) < T.words.length) (v : Int) (c0 c1 c2 mp : Value) (i0 i1 i2 i3 : Int) :
    Calls Tryz.prog 70 #[.agg (stepV c0 c1 c2 mp tb i0 i1 i2 i3), .int .i64 s, .int .i64 v] w fun e w' => e = .returned (actV 0 0 0 0 0 false (.slice none 0 0)) ∧ TaskAt w' F tb p ⟨T.base, T.words.set (bn + (2 + s)) v, P ++ [⟨q.fn, q.pc + 1, q.base, q.ret, q.ta, q.tn, q.tc⟩], T.marks⟩ X ∧ Fr F w w' := by
  have hb0 := ((Below.refl w.heap.size w).alloc (Nat.le_refl _) (.cells (stepV c0 c1 c2 mp tb i0 i1 i2 i3) 124))
  have hb1 := hb0.alloc hb0.size act0
  have hr0 := row_alloc (heap_new w (.cells (stepV c0 c1 c2 mp tb i0 i1 i2 i3) 124)) act0
  have hr1 := heap_new (w.alloc (.cells (stepV c0 c1 c2 mp tb i0 i1 i2 i3) 124)) act0
  rw [show (w.alloc (.cells (stepV c0 c1 c2 mp tb i0 i1 i2 i3) 124)).heap.size = w.heap.size + 1 from by simp] at hr1
  obtain ⟨W, hW⟩ : ∃ W, W = (w.alloc (.cells (stepV c0 c1 c2 mp tb i0 i1 i2 i3) 124)).alloc act0 := ⟨_, rfl⟩
  rw [← hW] at hb1 hr0 hr1
  have s4 : W.cell? ⟨w.heap.size, 4, none⟩ = some (.pointer (some ⟨tb, 0, none⟩)) := (row_cell hr0 4).1
  have hl : T.parts.length = P.length + 1 := by rw [hP]; simp
  have e0 : (T.parts[P.length]'(by omega)) = q := by simp only [hP]; simp
  have st := set_in W F tb p T X (h.below hb1) ht P.length hl j hj (by rw [e0]; exact hfj) bn (by rw [e0]; exact hbn) s hs hs2 hin v
  have on := fun wr (hT : TaskAt wr F tb p ⟨T.base, T.words.set (bn + (2 + s)) v, T.parts, T.marks⟩ X) => on_any wr F tb p ⟨T.base, T.words.set (bn + (2 + s)) v, T.parts, T.marks⟩ X hT ht.1 P q hP hq c0 c1 c2 mp i0 i1 i2 i3
  have HFLT := Lib.hid h.flt
  have HOUT := Lib.hid (fun k (hk : X.D k) => (h.out k hk).2)
  unfold act0 at hW hr1
  unfold stepV at hW hr0
  have HW := Lib.hid hW
  clear hb0 hW hP hl e0 h ht hfj hbn hs hin hq
  have ON := Lib.hid on; clear on
  have ST := Lib.hid st; clear st
  have HB1 := Lib.hid hb1; clear hb1
  have HR1 := Lib.hid hr1; clear hr1
  have HR0 := Lib.hid hr0; clear hr0
  unfold stepV
  go_enter Tryz.func70, Tryz.ntmps70
  go_upto_region 1 with fail
  rw [← HW.out]
  go_wp2_with fail
  refine ST.out.mono ?_
  rintro e w3 ⟨rfl, hT3, hf3⟩
  have hr3 := hf3.heap HR0.out (fun e => Nat.lt_irrefl _ (HFLT.out w.heap.size e))
  have hr4 := hf3.heap HR1.out (fun e => by have := HFLT.out (w.heap.size + 1) e; omega)
  have on := ON.out w3 hT3
  have HFW := Lib.hid ((Fr.of_below HB1.out F).trans hf3 (fun _ _ h => h))
  have k0 : w3.cell? ⟨w.heap.size, 0, none⟩ = some c0 := (row_cell hr3 0).1
  have k1 : w3.cell? ⟨w.heap.size, 1, none⟩ = some c1 := (row_cell hr3 1).1
  have k2 : w3.cell? ⟨w.heap.size, 2, none⟩ = some c2 := (row_cell hr3 2).1
  have k3 : w3.cell? ⟨w.heap.size, 3, none⟩ = some mp := (row_cell hr3 3).1
  have k4 : w3.cell? ⟨w.heap.size, 4, none⟩ = some (.pointer (some ⟨tb, 0, none⟩)) := (row_cell hr3 4).1
  have k5 : w3.cell? ⟨w.heap.size, 5, none⟩ = some (.int .i64 i0) := (row_cell hr3 5).1
  have k6 : w3.cell? ⟨w.heap.size, 6, none⟩ = some (.int .i64 i1) := (row_cell hr3 6).1
  have k7 : w3.cell? ⟨w.heap.size, 7, none⟩ = some (.int .i64 i2) := (row_cell hr3 7).1
  have k8 : w3.cell? ⟨w.heap.size, 8, none⟩ = some (.int .i64 i3) := (row_cell hr3 8).1
  clear s4 ST
  unfold stepV at on
  have ON := Lib.hid on; clear on
  have HT3 := Lib.hid hT3; clear hT3
  have HF3 := Lib.hid hf3; clear hf3
  have HR4 := Lib.hid hr4
  clear hr3 hr4
  go_wp2_with fail
  refine ON.out.mono ?_
  rintro e w4 ⟨rfl, hT4, hf4⟩
  have hr5 := hf4.heap HR4.out (fun e => by have := HFLT.out (w.heap.size + 1) e; omega)
  obtain ⟨⟨z0, z1, z2, z3, z4, z5, z6⟩, y0, y1, y2, y3, y4, y5, y6⟩ := seven_cells hr5
  have hfs := seven_fr w4 (.int .i64 0) (.int .i64 0) (.int .i64 0) (.int .i64 0) (.int .i64 0) (.bool false) (.slice none 0 0) (w.heap.size + 1)
  have hrs := seven_row hr5 (.int .i64 0) (.int .i64 0) (.int .i64 0) (.int .i64 0) (.int .i64 0) (.bool false) (.slice none 0 0)
  have hT5 := hT4.fr hfs (fun k hk e => by have := HFLT.out k hk; have e : k = w.heap.size + 1 := e; omega) (fun k hk e => by have := HOUT.out k hk; have e : k = w.heap.size + 1 := e; omega)
  have hf5 := (HFW.out.trans hf4 (fun _ _ h => h)).trans hfs (fun k hk e => by have e : k = w.heap.size + 1 := e; omega)
  clear hfs hr5 hT4 hf4 k0 k1 k2 k3 k4 k5 k6 k7 k8
  unfold actV
  have HRS := Lib.hid hrs; clear hrs
  have HT5 := Lib.hid hT5; clear hT5
  have HF5 := Lib.hid hf5; clear hf5
  go_wp2_with fail
  refine bodyPost_ret ?_ rfl ⟨rfl, HT5.out, HF5.out⟩
  have k0 := (row_cell HRS.out 0).1; have k1 := (row_cell HRS.out 1).1; have k2 := (row_cell HRS.out 2).1; have k3 := (row_cell HRS.out 3).1; have k4 := (row_cell HRS.out 4).1; have k5 := (row_cell HRS.out 5).1; have k6 := (row_cell HRS.out 6).1; simp at k0 k1 k2 k3 k4 k5 k6; simp [results, Tryz.results70, go_sem, k0, k1, k2, k3, k4, k5, k6, actV]
end Go.Proofs.YthkhgihjigmkoaaGreat.Tk
