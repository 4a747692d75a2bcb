/- Rows that lose or change their last element; the readers of a state without alarms. Walk: Task.Pop. Walks: Task.Leave, Task.Next; numbers copied; a frame's deferred calls. Walks: where the top stands (Pc, Goto); the place of a stack object; its words (within, Word, Put). Walks: the place of a stack object; whether an address is in one of them; its word, read and written. Walks: whether an address is in a stack object; its word, read and written. -/
import Derived.Test.YthkhgihjigmkoaaGreatQAk
import Derived.WalkSmall
import Derived.Test.YthkhgihjigmkoaaGreatQAl
import Derived.Test.YthkhgihjigmkoaaGreatQAm
import Derived.Test.YthkhgihjigmkoaaGreatQAn
import Derived.Test.YthkhgihjigmkoaaGreatQAj
set_option linter.unusedVariables false
set_option linter.unusedSimpArgs false
namespace Go.Proofs.YthkhgihjigmkoaaGreat.Tk
open Go.ChangeShapes Go.WideShapes Go.ChangeAt Go.RowKit Go.Maps
theorem own_pop {P : Program} {α : Type} {E : Elem P α} {w : World} {B : Nat} {v : Value} {l : List α} {x : α} (h : Own E w B v (l ++ [x])) : ∃ g cap, v = .slice (some ⟨g, 0, none⟩) (l.length + 1) cap ∧ l.length + 1 ≤ cap ∧ Own E w B (.slice (some ⟨g, 0, none⟩) l.length cap) l := by
  have h0 : w.ownsRow B E.e E.size v (l ++ [x]).length ((l ++ [x]).flatMap E.enc) := h
  rw [List.length_append, List.flatMap_append] at h0
  have h1 : w.ownsRow B E.e E.size v (l.length + 1) (l.flatMap E.enc ++ [x].flatMap E.enc) := h0
  rcases id h1.2 with ⟨_, hz⟩ | ⟨g, cap, cur, hv, _, _, hc, _⟩
  · exact absurd hz (by omega)
  subst hv
  exact ⟨g, cap, rfl, hc, ownsRow_pop (E.len l) h1⟩
theorem own_put {P : Program} {α : Type} {E : Elem P α} {w : World} {B : Nat} {l : List α} {x : α} {g n cap : Nat} (h : Own E w B (.slice (some ⟨g, 0, none⟩) n cap) (l ++ [x])) (r : Nat) (u : Value) (y : α) (hy : E.enc y = (E.enc x).set r u) : Own E (w.setCell ⟨g, l.length * E.size + r, none⟩ u) B (.slice (some ⟨g, 0, none⟩) n cap) (l ++ [y]) := by
  obtain ⟨g', cap', he, _, _⟩ := own_pop h
  injection he with e1 e2 e3
  injection e1 with e1
  injection e1 with e1
  subst e1 e2 e3
  have h0 : w.ownsRow B E.e E.size (.slice (some ⟨g, 0, none⟩) (l.length + 1) cap) (l ++ [x]).length ((l ++ [x]).flatMap E.enc) := h
  rw [List.length_append, List.flatMap_append] at h0
  have h1 : w.ownsRow B E.e E.size (.slice (some ⟨g, 0, none⟩) (l.length + 1) cap) (l.length + 1) (l.flatMap E.enc ++ [x].flatMap E.enc) := h0
  have h2 := (World.ownsRow.stored h1 (l.length * E.size + r) u).1
  unfold Own
  rw [List.length_append, List.flatMap_append]
  have h3 : (l.flatMap E.enc ++ [x].flatMap E.enc).set (l.length * E.size + r) u = l.flatMap E.enc ++ [y].flatMap E.enc := by
    rw [← E.len l, List.set_append_right _ _ (Nat.le_add_right _ _), Nat.add_sub_cancel_left]
    simp [hy]
  rw [h3] at h2
  exact h2
theorem own_lastc {P : Program} {α : Type} {E : Elem P α} {w : World} {B : Nat} {l : List α} {x : α} {g n cap : Nat} (h : Own E w B (.slice (some ⟨g, 0, none⟩) n cap) (l ++ [x])) (r : Nat) (u : Value) (hu : (E.enc x)[r]? = some u) : w.cell? ⟨g, l.length * E.size + r, none⟩ = some u ∧ w.frozen? ⟨g, l.length * E.size + r, none⟩ = false := by
  obtain ⟨a, c, h1, h2⟩ := own_elems h
  injection h1 with e1 e2 e3
  obtain ⟨b, h3, h4, h5⟩ := h2 l.length (by simp)
  rw [← e1] at h3
  injection h3 with h3
  injection h3 with h3
  subst h3
  refine ⟨h5 r u (by simpa using hu), ?_⟩
  obtain ⟨g', cap', he, _, _⟩ := own_pop h
  injection he with e4 e5 e6
  subst e5
  have h0 : w.ownsRow B E.e E.size (.slice (some ⟨g, 0, none⟩) (l.length + 1) cap) (l.length + 1) ((l ++ [x]).flatMap E.enc) := by
    have h0 : w.ownsRow B E.e E.size (.slice (some ⟨g, 0, none⟩) (l.length + 1) cap) (l ++ [x]).length ((l ++ [x]).flatMap E.enc) := h
    rw [List.length_append] at h0
    exact h0
  exact World.ownsRow.frozenAt h0 _
end Go.Proofs.YthkhgihjigmkoaaGreat.Tk
namespace Go.Proofs.YthkhgihjigmkoaaGreat.Tk
open Go.ChangeShapes Go.WideShapes Go.ChangeAt Go.RowKit Go.Maps
theorem TaskAt.turned {w w' : World} {F : Nat → Prop} {tb : Nat} {p : TPrg} {T : Tk} {X : TB} (h : TaskAt w F tb p T X) {n : Nat} {f : { x : Int × Int // i64B x.1 ∧ i64B x.2 } → Option Int} (hm : MapIs spK (Value.int .i64) w' X.kb n f) (hf : ∀ a, f a = none) (ht : w.mapTurned w' X.kb) : TaskAt w' F tb p T X ∧ Fr F w w' := by
  have hr := turned_fr ht
  obtain ⟨_, hk⟩ := h.kept
  refine ⟨?_, hr.mono fun k e => e ▸ h.fk⟩
  constructor
  · exact hr.heap h.row (fun e => map_ne hk h.row e.symm)
  · exact h.prg.fr hr fun k hk e => (h.out k hk).1 (e ▸ h.fk)
  · exact fun k hk => ⟨(h.out k hk).1, Nat.lt_of_lt_of_le (h.out k hk).2 hr.size⟩
  · exact hr.heap h.srow (fun e => map_ne hk h.srow e.symm)
  · exact hr.heap h.wrow (fun e => map_ne hk h.wrow e.symm)
  · exact h.parts.fr hr fun k hk2 e => by obtain ⟨cur, f, hc⟩ := own_row h.parts hk2; exact map_ne hk hc e.symm
  · exact h.marks.fr hr fun k hk2 e => by obtain ⟨cur, f, hc⟩ := own_row h.marks hk2; exact map_ne hk hc e.symm
  · exact Nat.lt_of_lt_of_le h.kb hr.size
  · exact ⟨n, hm.congr fun a _ => hf a⟩
  · exact h.ft
  · exact h.fs
  · exact h.fw
  · exact h.fk
  · exact h.fp
  · exact h.fm
  · exact fun k hk => Nat.lt_of_lt_of_le (h.flt k hk) hr.size
end Go.Proofs.YthkhgihjigmkoaaGreat.Tk
namespace Go.Proofs.YthkhgihjigmkoaaGreat.Tk
open Go.ChangeShapes Go.WideShapes Go.ChangeAt Go.RowKit Go.Maps
set_option maxRecDepth 100000 in
set_option maxHeartbeats 1600000 in
theorem cloneInts_any (w : World) (g : Nat) (l : List Int) (c : Nat) (hc : ∀ j (hj : j < l.length), w.cell? ⟨g, j, none⟩ = some (.int .i64 l[j])) (hn : l.length ≤ 100000) :
    Calls Tryz.prog 64 #[.slice (some ⟨g, 0, none⟩) l.length c] w fun e w' => ∃ v', e = .returned v' ∧ Own intE w' w.heap.size v' l ∧ Below w.heap.size w w' := by
  have ho := own_new intE w [] #[] rfl (by decide)
  have hb0 := (Below.refl w.heap.size w).alloc (Nat.le_refl _) (.cells #[] intE.e)
  have hc1 : ∀ j u, (l.flatMap intE.enc)[j]? = some u → w.cell? ((⟨g, 0, none⟩ : Addr).add j) = some u := fun j u hj => by
    have hlt : j < l.length := by
      have h1 := (List.getElem?_eq_some_iff.1 hj).1
      have h2 := intE.len l
      rw [h2] at h1
      have h3 : intE.size = 1 := rfl
      rw [h3] at h1
      omega
    have h4 := intE.get l j 0 hlt (by decide)
    have h5 : (l.flatMap intE.enc)[j]? = some (.int .i64 l[j]) := by
      have h6 : j * intE.size + 0 = j := by show j * 1 + 0 = j; omega
      rw [h6] at h4
      rw [h4]; rfl
    rw [h5] at hj
    injection hj with hj
    subst hj
    have := hc j hlt
    by_cases hj0 : j = 0
    · subst hj0; simpa [Addr.add] using this
    · simpa [Addr.add, hj0] using this
  have hc2 := fun j u hj => alloc_cellA (o := .cells #[] intE.e) (hc1 j u hj)
  have hnil := fun w => eq_nil_run intE (some ⟨g, 0, none⟩) l.length c w
  have hnil : ∀ w, (binOp .eql 23 (.slice (some ⟨g, 0, none⟩) l.length c) (.slice none 0 0)).run Tryz.prog w = .ok (.bool false) w := hnil
  clear hc hc1
  have HC2 := Lib.hid hc2; clear hc2
  have HO := Lib.hid ho; clear ho
  have HB0 := Lib.hid hb0; clear hb0
  go_enter Tryz.func64, Tryz.ntmps64
  go_wp2_with (at_builtin; refine append_own_addr intE rfl (.tmp 5) (.tmp 6) rfl w.heap.size [] l _ rfl HO.out ⟨g, 0, none⟩ c rfl HC2.out ?c1 ?c2 ?_)
  case c1 => simp; omega
  case c2 => simp
  intro v2 w2 hown2 hg2
  have hB2 := below_grown HB0.out HO.out hg2 (by simp) (Nat.le_refl _)
  clear hg2
  have HB2 := Lib.hid hB2; clear hB2
  have HOWN2 := Lib.hid hown2; clear hown2
  go_wp2_with fail
  go_ret
  exact ⟨_, rfl, HOWN2.out, HB2.out⟩
theorem TaskAt.putPart {w : World} {F : Nat → Prop} {tb : Nat} {p : TPrg} {T : Tk} {X : TB} {P : List Part} {q y : Part} {g n c : Nat} (h : TaskAt w F tb p T X) (hP : T.parts = P ++ [q]) (hv : X.pv = .slice (some ⟨g, 0, none⟩) n c) (r : Nat) (u : Value) (hy : partE.enc y = (partE.enc q).set r u) :
    TaskAt (w.setCell ⟨g, P.length * 5 + r, none⟩ u) F tb p ⟨T.base, T.words, P ++ [y], T.marks⟩ X ∧ Fr F w (w.setCell ⟨g, P.length * 5 + r, none⟩ u) := by
  have hgo : X.pv.ownBlock = some g := by rw [hv]; rfl
  have hfs : Fr (fun k => k = g) w (w.setCell ⟨g, P.length * 5 + r, none⟩ u) := (Fr.refl (fun k => k = g) w).setCell (p := ⟨g, P.length * 5 + r, none⟩) (fun _ => rfl) _
  obtain ⟨d1, d2, d3, d4, d5, d6⟩ := h.distinct
  obtain ⟨e1, e2, e3⟩ := d4 g hgo
  have ho := h.parts
  rw [hP, hv] at ho
  have ho2 := own_put ho r u y hy
  have hF : ∀ k, k = g → F k := fun k e => e ▸ h.fp g hgo
  refine ⟨?_, hfs.mono hF⟩
  constructor
  · exact hfs.heap h.row (fun e => e1 e.symm)
  · exact h.prg.fr hfs fun k hk e => (h.out k hk).1 (hF k e)
  · exact fun k hk => ⟨(h.out k hk).1, Nat.lt_of_lt_of_le (h.out k hk).2 hfs.size⟩
  · exact hfs.heap h.srow (fun e => e2 e.symm)
  · exact hfs.heap h.wrow (fun e => e3 e.symm)
  · rw [hv]; exact ho2
  · exact h.marks.fr hfs (fun k hk e => d6 k (e ▸ hgo) hk)
  · exact Nat.lt_of_lt_of_le h.kb hfs.size
  · exact h.kept.imp fun n hm => hm.fr hfs (fun e => by obtain ⟨cur, f, hc⟩ := own_row h.parts hgo; exact map_ne hm hc e)
  · exact h.ft
  · exact h.fs
  · exact h.fw
  · exact h.fk
  · exact h.fp
  · exact h.fm
  · exact fun k hk => Nat.lt_of_lt_of_le (h.flt k hk) hfs.size
end Go.Proofs.YthkhgihjigmkoaaGreat.Tk
namespace Go.Proofs.YthkhgihjigmkoaaGreat.Tk
open Go.ChangeShapes Go.WideShapes Go.ChangeAt Go.RowKit Go.Maps
set_option maxRecDepth 100000 in
theorem goto_any (w : World) (F : Nat → Prop) (tb : Nat) (p : TPrg) (T : Tk) (X : TB) (h : TaskAt w F tb p T X) (hn : T.parts.length ≤ 1000) (P : List Part) (q : Part) (hP : T.parts = P ++ [q]) (v : Int) :
    Calls Tryz.prog 16 #[.pointer (some ⟨tb, 0, none⟩), .int .i64 v] w fun e w' => e = .returned (.tuple #[]) ∧ TaskAt w' F tb p ⟨T.base, T.words, P ++ [⟨q.fn, v, q.base, q.ret, q.ta, q.tn, q.tc⟩], T.marks⟩ X ∧ Fr F w w' := by
  have h0 : T.parts.length = P.length + 1 := by rw [hP]; simp
  obtain ⟨a, c, hpv, hel⟩ := h.pv
  obtain ⟨g, rfl, hgo, k0, k1, k2, k3, k4⟩ := hel P.length (by omega)
  have tp := top_some w F tb p T X h hn P.length h0 g hgo
  have fin := fun m => (h.below (below_drewN (Below.refl w.heap.size w) m)).putPart hP (by rw [hpv]) 1 (.int .i64 v) (y := ⟨q.fn, v, q.base, q.ret, q.ta, q.tn, q.tc⟩) rfl
  have hfz : ∀ m, (w.drewN m).frozen? ⟨g, P.length * 5 + 1, none⟩ = false := fun m => by
    have ho := (h.below (below_drewN (Below.refl w.heap.size w) m)).parts
    rw [hpv, hP] at ho
    exact (own_lastc ho 1 _ rfl).2
  have hfr := fun m => Fr.of_below (below_drewN (Below.refl w.heap.size w) m) F
  generalize (T.parts[P.length]'(by omega)).pc = x at k1
  clear h0 h hel k0 k2 k3 k4 hpv hgo hn hP
  have TP := Lib.hid tp; clear tp
  have FIN := Lib.hid fin; clear fin
  have HFR := Lib.hid hfr; clear hfr
  go_enter Tryz.func16, Tryz.ntmps16
  go_wp2_with fail
  refine TP.out.mono ?_
  rintro e w' ⟨rfl, m, rfl⟩
  have k1 := below_cell (below_drewN (Below.refl w.heap.size w) m) k1
  have hfz := hfz m
  have FINM := Lib.hid (FIN.out m)
  have HFRM := Lib.hid (HFR.out m)
  generalize w.drewN m = wd at *
  go_wp2_with fail
  go_end0
  first | exact ⟨rfl, FINM.out.1, HFRM.out.trans FINM.out.2 (fun _ _ h => h)⟩
end Go.Proofs.YthkhgihjigmkoaaGreat.Tk
namespace Go.Proofs.YthkhgihjigmkoaaGreat.Tk
open Go.ChangeShapes Go.WideShapes Go.ChangeAt Go.RowKit Go.Maps
theorem objO_b {p : TPrg} (hp : PSmall p) (f : TFun) (hf : f ∈ p.funcs) (k : Int) : 0 ≤ (objO p f k).1 ∧ (objO p f k).1 ≤ 9100000 ∧ 0 ≤ (objO p f k).2 := by
  unfold objO
  split
  · next h =>
    have := atN_le hp f hf k.toNat (by omega)
    refine ⟨?_, ?_, ?_⟩ <;> dsimp only <;> omega
  · exact ⟨by decide, by decide, by decide⟩
def placeN (p : TPrg) (T : Tk) (b : Int) (f : TFun) (k : Int) : Int := if (objO p f k).2 = 0 then 0 else if 0 ≤ b + (objO p f k).1 ∧ b + (objO p f k).1 < T.words.length then T.base + (b + (objO p f k).1) else 0
set_option maxRecDepth 100000 in
set_option maxHeartbeats 1600000 in
theorem tkPlace_any (w : World) (F : Nat → Prop) (tb : Nat) (p : TPrg) (T : Tk) (X : TB) (h : TaskAt w F tb p T X) (hp : PSmall p) (ht : TkOk T) (hB : baseOk T.base) (n : Nat) (h0 : T.parts.length = n + 1) (j : Nat) (hj : j < p.funcs.length) (hfj : (T.parts[n]'(by omega)).fn = j) (k : Int) (hk : i64B k) :
    Calls Tryz.prog 17 #[.pointer (some ⟨tb, 0, none⟩), .int .i64 k] w fun e w' => e = .returned (.int .i64 (placeN p T (T.parts[n]'(by omega)).base p.funcs[j] k)) ∧ Below w.heap.size w w' := by
  obtain ⟨a, c, hpv, hel⟩ := h.pv
  obtain ⟨g, rfl, hgo, k0, k1, k2, k3, k4⟩ := hel n (by omega)
  have tp := top_some w F tb p T X h ht.1 n h0 g hgo
  have ob := fun wr (hw : Below w.heap.size w wr) => object_any wr X.D (fun k hk => Nat.lt_of_lt_of_le (h.out k hk).2 hw.size) p X.c0 X.c1 X.c2 j hj (h.prg.below hw) hp k hk
  have ad := fun wr (hw : Below w.heap.size w wr) => stAddr_any wr X.sb X.wb T.base T.words (h.below hw).st hB ht.2.2.1
  have hob := objO_b hp p.funcs[j] (List.getElem_mem hj) k
  have hq := ht.2.2.2 (T.parts[n]'(by omega)) (List.getElem_mem _)
  obtain ⟨⟨a0, n0, m0, e0⟩, ⟨a1, m1, e1, _⟩, a2, m2, e2, _⟩ := h.prg
  obtain ⟨q0, q1, q2, q3, _⟩ := h.cells
  rw [e0, e1, e2] at ob
  rw [e0] at q0
  rw [e1] at q1
  rw [e2] at q2
  rw [hfj] at k0
  unfold placeN
  generalize (T.parts[n]'(by omega)).base = bq at *
  generalize objO p p.funcs[j] k = O at *
  obtain ⟨x, y⟩ := O
  dsimp only at *
  obtain ⟨z, hz⟩ : ∃ z, z = bq + x := ⟨_, rfl⟩
  have i1 : IntKind.i64.wrap (bq + x) = z := by rw [hz]; exact IntWalk.i64_in _ (by omega)
  rw [← hz]
  have ad := fun wr hw => ad wr hw z
  generalize (if 0 ≤ z ∧ z < (T.words.length : Int) then T.base + z else 0) = r at *
  obtain ⟨R, hR⟩ : ∃ R, R = if y = 0 then 0 else r := ⟨_, rfl⟩
  rw [← hR]
  have hbd := fun m => below_drewN (Below.refl w.heap.size w) m
  clear hz hq hob k1 k3 k4 hgo hel hpv h0 h e0 e1 e2 hB ht hp hfj
  have TP := Lib.hid tp; clear tp
  have OB := Lib.hid ob; clear ob
  have AD := Lib.hid ad; clear ad
  have HBD := Lib.hid hbd; clear hbd
  go_enter Tryz.func17, Tryz.ntmps17
  go_wp2_with fail
  refine TP.out.mono ?_
  rintro e w' ⟨rfl, m, rfl⟩
  have hb1 := HBD.out m
  go_upto_region 4 with fail
  have q0 := below_cell hb1 q0
  have q1 := below_cell hb1 q1
  have q2 := below_cell hb1 q2
  have q3 := below_cell hb1 q3
  have k0 := below_cell hb1 k0
  have k2 := below_cell hb1 k2
  generalize w.drewN m = wd at *
  have HR0 := Lib.hid hb1.drew
  clear hb1
  go_region_held3 (fun w' => w'.cell? ⟨tb, 0, none⟩ = some (.slice a0 n0 m0) ∧ w'.cell? ⟨tb, 1, none⟩ = some (.slice a1 p.shapes.length m1) ∧ w'.cell? ⟨tb, 2, none⟩ = some (.slice a2 p.funcs.length m2) ∧ w'.cell? ⟨g, n * 5, none⟩ = some (.int .i64 j) ∧ w'.cell? ⟨tb, 3, none⟩ = some (.pointer (some ⟨X.sb, 0, none⟩)) ∧ w'.cell? ⟨g, n * 5 + 2, none⟩ = some (.int .i64 bq)) (first | with_reducible exact ⟨q0, q1, q2, k0, q3, k2⟩ | with_reducible exact hS3 | go_keep) (first
    | (go_at_call 55
       refine (OB.out _ HR0.out).mono ?_
       rintro e w3 ⟨rfl, hb3⟩
       have hS3 := And.intro (below_cell hb3 q0) (And.intro (below_cell hb3 q1) (And.intro (below_cell hb3 q2) (And.intro (below_cell hb3 k0) (And.intro (below_cell hb3 q3) (below_cell hb3 k2)))))
       have HB3 := Lib.hid (HR0.out.trans (hb3.mono HR0.out.size))
       clear hb3))
  all_goals
    obtain ⟨_, _, _, _, q3, k2⟩ := hS3
    by_cases hy : y = 0
    · subst hy
      rw [if_pos rfl] at hR
      subst hR
      go_wp2_with fail
      go_ret
      exact ⟨rfl, HB3.out⟩
    · have hy2 : (y == 0) = false := by rw [beq_eq_false_iff_ne]; exact hy
      rw [if_neg hy] at hR
      subst hR
      go_upto_region 7 with fail
      go_still_tail 10, (by kernel_rfl)
      change wpList _ _ _ _ _ w3.drew
      have hb4 := HB3.out.trans (((Below.refl w3.heap.size w3).drew).mono HB3.out.size)
      generalize w3.drew = w4 at *
      have HB4 := Lib.hid hb4; clear hb4
      go_wp2_with fail
      refine (AD.out _ HB4.out).mono ?_
      rintro e w5 ⟨rfl, rfl⟩
      go_wp2_with fail
      go_ret
      exact ⟨rfl, HB4.out⟩
end Go.Proofs.YthkhgihjigmkoaaGreat.Tk
namespace Go.Proofs.YthkhgihjigmkoaaGreat.Tk
open Go.ChangeShapes Go.WideShapes Go.ChangeAt Go.RowKit Go.Maps
/-- a word of a frame is in one of its stack objects -/
def inObj (p : TPrg) (q : Part) (off : Int) : Prop := ∃ (j : Nat) (hj : j < p.funcs.length), q.fn = j ∧ ∃ k : Nat, k < p.funcs[j].objects.length ∧ (atN p p.funcs[j] k : Int) ≤ off - q.base ∧ off - q.base < atN p p.funcs[j] (k + 1)
/-- an address is in a stack object of a frame -/
def withinR (p : TPrg) (T : Tk) (v : Int) : Prop := T.base ≤ v ∧ v < T.base + T.words.length ∧ ∃ q ∈ T.parts, inObj p q (v - T.base)
set_option maxRecDepth 100000 in
set_option maxHeartbeats 3200000 in
theorem within_any (w : World) (F : Nat → Prop) (tb : Nat) (p : TPrg) (T : Tk) (X : TB) (h : TaskAt w F tb p T X) (hp : PSmall p) (ht : TkOk T) (hi : ∀ q ∈ T.parts, ∃ j : Nat, j < p.funcs.length ∧ q.fn = j) (hB : baseOk T.base) (v : Int) :
    Calls Tryz.prog 57 #[.pointer (some ⟨tb, 0, none⟩), .int .i64 v] w fun e w' => ∃ x r, e = .returned (.tuple #[.int .i64 x, .bool r]) ∧ ((r = true ∧ x = v - T.base ∧ withinR p T v) ∨ (r = false ∧ x = 0 ∧ ¬ withinR p T v)) ∧ Below w.heap.size w w' := by
  have of := stOff_any w X.sb X.wb T.base T.words h.st hB ht.2.2.1 v
  obtain ⟨q0, q1, q2, q3, q4, _⟩ := h.cells
  by_cases hin : T.base ≤ v ∧ v < T.base + T.words.length
  case neg =>
    rw [if_neg hin, decide_eq_false hin] at of
    have hno : ¬ withinR p T v := fun hh => hin ⟨hh.1, hh.2.1⟩
    clear hin h hB hi ht hp
    have HNO := Lib.hid hno; clear hno
    have OF := Lib.hid of; clear of
    go_enter Tryz.func57, Tryz.ntmps57
    go_wp2_with fail
    refine OF.out.mono ?_
    rintro e w1 ⟨rfl, hb1⟩
    have HB1 := Lib.hid hb1; clear hb1
    go_wp2_with fail
    go_ret2
    exact ⟨_, _, rfl, .inr ⟨rfl, rfl, HNO.out⟩, HB1.out⟩
  rw [if_pos hin, decide_eq_true hin] at of
  have at' := fun wr (hw : Below w.heap.size w wr) (j : Nat) (hj : j < p.funcs.length) (off : Int) => at_any wr X.D (fun k hk => Nat.lt_of_lt_of_le (h.out k hk).2 hw.size) p X.c0 X.c1 X.c2 j hj (h.prg.below hw) hp off
  obtain ⟨⟨a0, n0, m0, e0⟩, ⟨a1, m1, e1, _⟩, a2, m2, e2, _⟩ := h.prg
  rw [e0, e1, e2] at at'
  rw [e0] at q0
  rw [e1] at q1
  rw [e2] at q2
  obtain ⟨a, c, hpv, hel⟩ := h.pv
  rw [hpv] at q4
  have hel : ∀ d (hd : d < T.parts.length), ∃ b, a = some ⟨b, 0, none⟩ ∧ ∀ wr, Below w.heap.size w wr → wr.cell? ⟨b, d * 5, none⟩ = some (.int .i64 T.parts[d].fn) ∧ wr.cell? ⟨b, d * 5 + 1, none⟩ = some (.int .i64 T.parts[d].pc) ∧ wr.cell? ⟨b, d * 5 + 2, none⟩ = some (.int .i64 T.parts[d].base) ∧ wr.cell? ⟨b, d * 5 + 3, none⟩ = some (.int .i64 T.parts[d].ret) ∧ wr.cell? ⟨b, d * 5 + 4, none⟩ = some (.slice T.parts[d].ta T.parts[d].tn T.parts[d].tc) := fun d hd => by
    obtain ⟨b, h1, _, h3, h4, h5, h6, h7⟩ := hel d hd
    exact ⟨b, h1, fun wr hw => ⟨below_cell hw h3, below_cell hw h4, below_cell hw h5, below_cell hw h6, below_cell hw h7⟩⟩
  have hlt0 : tb < w.heap.size := h.lt
  have hpl := ht.1
  have hbs := ht.2.2.2
  have hwl := ht.2.2.1
  have hw1 : ∀ q ∈ T.parts, inObj p q (v - T.base) → withinR p T v := fun q hq hh => ⟨hin.1, hin.2, q, hq, hh⟩
  have hw2 : (∀ d (hd : d < T.parts.length), ¬ inObj p T.parts[d] (v - T.base)) → ¬ withinR p T v := fun hh ⟨_, _, q, hq, h3⟩ => by
    obtain ⟨d, hd, rfl⟩ := List.getElem_of_mem hq
    exact hh d hd h3
  obtain ⟨off, hoff⟩ : ∃ off, off = v - T.base := ⟨_, rfl⟩
  have hofb : 0 ≤ off ∧ off ≤ 100000 := by omega
  rw [← hoff] at hw1 hw2 of
  clear hin h hB ht hp e0 e1 e2 hpv hwl
  have OF := Lib.hid of; clear of
  have AT := Lib.hid at'; clear at'
  have HEL := Lib.hid hel; clear hel
  have HW1 := Lib.hid hw1; clear hw1
  have HW2 := Lib.hid hw2; clear hw2
  have HBS := Lib.hid hbs; clear hbs
  have HI := Lib.hid hi; clear hi
  go_enter Tryz.func57, Tryz.ntmps57
  go_wp2_with fail
  refine OF.out.mono ?_
  rintro e w1 ⟨rfl, hb1⟩
  have q0 := below_cell hb1 q0
  have q1 := below_cell hb1 q1
  have q2 := below_cell hb1 q2
  have q4 := below_cell hb1 q4
  have hbw := Below.refl w1.heap.size w1
  clear hlt0
  have HB1 := Lib.hid hb1; clear hb1
  have HBW := Lib.hid hbw; clear hbw
  have HOFF := Lib.hid hoff; clear hoff
  go_upto_region 6 with fail
  go_wp2_with fail
  go_loopw [31] (fun i wr => ∃ k : Nat, k ≤ T.parts.length ∧ i = .int .i64 k ∧ Below w1.heap.size w1 wr ∧ ∀ d (hd : d < T.parts.length), d < k → ¬ inObj p T.parts[d] off) (fun i _ => T.parts.length - (intOf i).toNat)
  case atStart => exact ⟨0, Nat.zero_le _, rfl, HBW.out, fun d _ hd => absurd hd (Nat.not_lt_zero _)⟩
  case round =>
    obtain ⟨k, hk, rfl, hbr, hno⟩ := hrel
    have hbr2 := HB1.out.trans (hbr.mono HB1.out.size)
    by_cases hlt : k < T.parts.length
    · obtain ⟨j, hj, hfj⟩ := HI.out T.parts[k] (List.getElem_mem hlt)
      obtain ⟨b, rfl, hcs⟩ := HEL.out k hlt
      obtain ⟨y0, y1, y2, y3, y4⟩ := hcs wr hbr2
      have hbq := HBS.out T.parts[k] (List.getElem_mem hlt)
      have hyes := HW1.out T.parts[k] (List.getElem_mem hlt)
      have hino : ∀ z, (inObj p T.parts[k] z ↔ ∃ i : Nat, i < p.funcs[j].objects.length ∧ (atN p p.funcs[j] i : Int) ≤ z - T.parts[k].base ∧ z - T.parts[k].base < atN p p.funcs[j] (i + 1)) := fun z => ⟨fun ⟨j', hj', e, h⟩ => by
        have : j' = j := by omega
        subst this
        exact h, fun h => ⟨j, hj, hfj, h⟩⟩
      have q0 := below_cell hbr q0
      have q1 := below_cell hbr q1
      have q2 := below_cell hbr q2
      have hk0 : (k : Int) < (T.parts.length : Int) := by omega
      have hk1 : (0 : Int) ≤ (k : Int) := by omega
      have i1 : IntKind.i64.wrap ((k : Int) + 1) = ((k + 1 : Nat) : Int) := IntWalk.i64_in _ (by omega)
      have hnx : ¬ inObj p T.parts[k] off → ∀ d (hd : d < T.parts.length), d < k + 1 → ¬ inObj p T.parts[d] off := fun hn d hd hd2 => by
        rcases Nat.lt_succ_iff_lt_or_eq.1 hd2 with h3 | h3
        · exact hno d hd h3
        · subst h3; exact hn
      rw [hfj] at y0
      have i2 : IntKind.i64.wrap (off - T.parts[k].base) = off - T.parts[k].base := IntWalk.i64_in _ (by omega)
      have AJ := Lib.hid (fun wr hw => AT.out wr hw j hj (off - T.parts[k].base))
      have ho := hino off
      generalize hIN : inObj p T.parts[k] off = IN at *
      generalize T.parts[k].base = bq at *
      generalize T.parts[k].pc = pq at *
      generalize T.parts[k].ret = rq at *
      generalize T.parts[k].ta = taq at *
      generalize T.parts[k].tn = tnq at *
      generalize T.parts[k].tc = tcq at *
      obtain ⟨z, hz⟩ : ∃ z, z = off - bq := ⟨_, rfl⟩
      rw [← hz] at ho AJ
      have i3 : IntKind.i64.wrap (off - bq) = z := by rw [i2, hz]
      clear i2
      obtain ⟨xw, hxw⟩ : ∃ xw, xw = wr.alloc (.cells #[.int .i64 j, .int .i64 pq, .int .i64 bq, .int .i64 rq, .slice taq tnq tcq] 100) := ⟨_, rfl⟩
      have hbx : Below wr.heap.size wr xw := by rw [hxw]; exact (Below.refl _ _).alloc (Nat.le_refl _) _
      have hrx : xw.heap[wr.heap.size]? = some (.cells #[.int .i64 j, .int .i64 pq, .int .i64 bq, .int .i64 rq, .slice taq tnq tcq] 100) := by rw [hxw]; exact heap_new _ _
      have p0 := (row_cell hrx 0).1
      have p2 := (row_cell hrx 2).1
      have p0 : xw.cell? ⟨wr.heap.size, 0, none⟩ = some (.int .i64 j) := p0
      have p2 : xw.cell? ⟨wr.heap.size, 2, none⟩ = some (.int .i64 bq) := p2
      have x0 := below_cell hbx q0
      have x1 := below_cell hbx q1
      have x2 := below_cell hbx q2
      have HXW := Lib.hid hxw
      have HBX := Lib.hid (hbr2.trans (hbx.mono hbr2.size))
      have HR0 := Lib.hid (hbr2.trans (hbx.mono hbr2.size)).drew
      have HRR := Lib.hid (hbr.trans (hbx.mono hbr.size)).drew
      have HNX := Lib.hid hnx
      have HO := Lib.hid ho
      have HY := Lib.hid hyes
      clear hxw hbx hrx hnx ho hyes hno hcs hz hino hIN
      go_upto_region 9 with fail
      rw [← HXW.out]
      clear y0 y1 y2 y3 y4 q0 q1 q2 q3 q4
      have hxd := (Below.refl xw.heap.size xw).drew
      have hSd := And.intro (below_cell hxd x0) (And.intro (below_cell hxd x1) (And.intro (below_cell hxd x2) (And.intro (below_cell hxd p0) (below_cell hxd p2))))
      clear hxd
      go_region_held3 (fun w' => w'.cell? ⟨tb, 0, none⟩ = some (.slice a0 n0 m0) ∧ w'.cell? ⟨tb, 1, none⟩ = some (.slice a1 p.shapes.length m1) ∧ w'.cell? ⟨tb, 2, none⟩ = some (.slice a2 p.funcs.length m2) ∧ w'.cell? ⟨wr.heap.size, 0, none⟩ = some (.int .i64 j) ∧ w'.cell? ⟨wr.heap.size, 2, none⟩ = some (.int .i64 bq)) (first | with_reducible exact hSd | with_reducible exact hS3 | go_keep) (first
        | (go_at_call 85
           refine (AJ.out _ HR0.out).mono ?_
           rintro e w3 ⟨xa, xb, xr, rfl, hres, hb3⟩
           have hS3 := And.intro (below_cell hb3 x0) (And.intro (below_cell hb3 x1) (And.intro (below_cell hb3 x2) (And.intro (below_cell hb3 p0) (below_cell hb3 p2))))
           have HB3 := Lib.hid (HR0.out.trans (hb3.mono HR0.out.size))
           have HBR3 := Lib.hid (HRR.out.trans (hb3.mono HRR.out.size))
           have HRES := Lib.hid hres
           clear hb3 hres))
      all_goals
        rcases HRES.out with ⟨rfl, i, hi1, rfl, hi2, hi3, rfl⟩ | ⟨rfl, rfl, rfl, hno2⟩
        · have hIN2 : IN := HO.out.2 ⟨i, hi1, hi2, hi3⟩
          clear HRES hS3 x0 x1 x2 p0 p2 hi2 hi3
          go_wp2_with fail
          go_ret2
          exact ⟨_, _, rfl, .inl ⟨rfl, HOFF.out, HY.out hIN2⟩, HB3.out⟩
        · have hIN2 : ¬ IN := fun hh => by
            obtain ⟨i, h1, h2, h3⟩ := HO.out.1 hh
            exact hno2 i h1 ⟨h2, h3⟩
          have HN3 := Lib.hid (HNX.out hIN2)
          clear HRES hS3 x0 x1 x2 p0 p2 hno2
          go_wp2_with fail
          go_roundw
          case rel => exact ⟨k + 1, hlt, by go_num, HBR3.out, HN3.out⟩
          case measure => simp [intOf]; omega
    · have hk' : k = T.parts.length := by omega
      subst hk'
      have HNO := Lib.hid (HW2.out (fun d hd => hno d hd hd))
      have HB2 := Lib.hid hbr2
      clear hno hbr hbr2
      go_wp2_with fail
      go_ret2
      exact ⟨_, _, rfl, .inr ⟨rfl, rfl, HNO.out⟩, HB2.out⟩
set_option maxRecDepth 100000 in
set_option maxHeartbeats 1600000 in
theorem word_in (w : World) (F : Nat → Prop) (tb : Nat) (p : TPrg) (T : Tk) (X : TB) (h : TaskAt w F tb p T X) (hp : PSmall p) (ht : TkOk T) (hi : ∀ q ∈ T.parts, ∃ j : Nat, j < p.funcs.length ∧ q.fn = j) (hB : baseOk T.base) (v : Int) (hv : withinR p T v) (k : Nat) (hk : k < T.words.length) (hvk : v - T.base = k) :
    Calls Tryz.prog 24 #[.pointer (some ⟨tb, 0, none⟩), .int .i64 v] w fun e w' => e = .returned (.tuple #[.int .i64 (T.words[k]'hk), .bool true]) ∧ Below w.heap.size w w' := by
  have wi := within_any w F tb p T X h hp ht hi hB v
  have ld := fun wr (hw : Below w.heap.size w wr) => stLoad_in wr X.sb X.wb T.base T.words (h.below hw).st k hk
  have q3 : ∀ wr, Below w.heap.size w wr → wr.cell? ⟨tb, 3, none⟩ = some (.pointer (some ⟨X.sb, 0, none⟩)) := fun wr hw => (h.below hw).cells.2.2.2.1
  generalize T.words[k] = x at *
  rw [hvk] at wi
  clear hi hB hp ht h
  have HV := Lib.hid hv; clear hv
  have WI := Lib.hid wi; clear wi
  have LD := Lib.hid ld; clear ld
  have Q3 := Lib.hid q3; clear q3
  go_enter Tryz.func24, Tryz.ntmps24
  go_wp2_with fail
  refine WI.out.mono ?_
  rintro e w1 ⟨y, r, rfl, hres, hb1⟩
  have hres2 : r = true ∧ y = k := by
    rcases hres with ⟨h1, h2, _⟩ | ⟨_, _, h3⟩
    · exact ⟨h1, h2⟩
    · exact absurd HV.out h3
  obtain ⟨rfl, rfl⟩ := hres2
  clear hres
  have q3 := Q3.out _ hb1
  have HB1 := Lib.hid hb1; clear hb1
  go_wp2_with fail
  refine (LD.out _ HB1.out).mono ?_
  rintro e w2 ⟨rfl, rfl⟩
  go_wp2_with fail
  go_ret2
  exact ⟨rfl, HB1.out⟩
set_option maxRecDepth 100000 in
set_option maxHeartbeats 1600000 in
theorem put_in (w : World) (F : Nat → Prop) (tb : Nat) (p : TPrg) (T : Tk) (X : TB) (h : TaskAt w F tb p T X) (hp : PSmall p) (ht : TkOk T) (hi : ∀ q ∈ T.parts, ∃ j : Nat, j < p.funcs.length ∧ q.fn = j) (hB : baseOk T.base) (v : Int) (hv : withinR p T v) (k : Nat) (hk : k < T.words.length) (hvk : v - T.base = k) (x : Int) :
    Calls Tryz.prog 19 #[.pointer (some ⟨tb, 0, none⟩), .int .i64 v, .int .i64 x] w fun e w' => e = .returned (.bool true) ∧ TaskAt w' F tb p ⟨T.base, T.words.set k x, T.parts, T.marks⟩ X ∧ Fr F w w' := by
  have wi := within_any w F tb p T X h hp ht hi hB v
  have ld := fun wr (hw : Below w.heap.size w wr) => stStore_in wr X.sb X.wb T.base T.words (h.below hw).st k hk x
  have q3 : ∀ wr, Below w.heap.size w wr → wr.cell? ⟨tb, 3, none⟩ = some (.pointer (some ⟨X.sb, 0, none⟩)) := fun wr hw => (h.below hw).cells.2.2.2.1
  have hfin : ∀ wr, Below w.heap.size w wr → TaskAt (wr.setCell ⟨X.wb, k, none⟩ (.int .i64 x)) F tb p ⟨T.base, T.words.set k x, T.parts, T.marks⟩ X ∧ Fr F w (wr.setCell ⟨X.wb, k, none⟩ (.int .i64 x)) := fun wr hw => ⟨(h.below hw).store _ _, (Fr.of_below hw F).setCell (p := ⟨X.wb, k, none⟩) (fun _ => h.fw) _⟩
  rw [hvk] at wi
  clear hi hB hp ht h
  have HV := Lib.hid hv; clear hv
  have WI := Lib.hid wi; clear wi
  have LD := Lib.hid ld; clear ld
  have Q3 := Lib.hid q3; clear q3
  have HFIN := Lib.hid hfin; clear hfin
  go_enter Tryz.func19, Tryz.ntmps19
  go_wp2_with fail
  refine WI.out.mono ?_
  rintro e w1 ⟨y, r, rfl, hres, hb1⟩
  have hres2 : r = true ∧ y = k := by
    rcases hres with ⟨h1, h2, _⟩ | ⟨_, _, h3⟩
    · exact ⟨h1, h2⟩
    · exact absurd HV.out h3
  obtain ⟨rfl, rfl⟩ := hres2
  clear hres
  have q3 := Q3.out _ hb1
  have HB1 := Lib.hid hb1; clear hb1
  go_wp2_with fail
  refine (LD.out _ HB1.out).mono ?_
  rintro e w2 ⟨rfl, rfl⟩
  have HF := Lib.hid (HFIN.out _ HB1.out)
  go_wp2_with fail
  go_ret
  exact ⟨rfl, HF.out⟩
end Go.Proofs.YthkhgihjigmkoaaGreat.Tk
