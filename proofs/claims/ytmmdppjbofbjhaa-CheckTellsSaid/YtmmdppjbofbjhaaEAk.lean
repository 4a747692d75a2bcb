/- Walks: the book's lists are marked, and grown. Walks: the book's lists are marked where they lie. A list that is grown, and the slice that it was grown from. Nothing of the program's text stands here. Walks: the book's lists are grown. -/
import Derived.Test.YtmmdppjbofbjhaaEAj
import Derived.Deep.RegionHeld3
import Derived.BigRegion
import Derived.Test.YtmmdppjbofbjhaaEAg
namespace Go.Proofs.Ytmmdppjbofbjhaa
open Go.ChangeShapes Go.WideShapes Go.ChangeAt Go.RowKit

/-- heads of lists that are read, as they lie: each is marked -/
def Marked {α : Type} (S : World → (Nat → Prop) → Option Addr → List α → Prop) (mk : Nat → Nat → α) (w : World) (D : Nat → Prop) (v : Value) (ns : List Nat) : Prop :=
  ∃ a c, v = .slice a ns.length c ∧ ∀ j (hj : j < ns.length), ∃ b o, a = some ⟨b, o, none⟩ ∧ D b ∧ ∃ x y, w.cell? ⟨b, o + j, none⟩ = some (.slice x ns[j] y) ∧ S w D x (marks mk j 0 ns[j])
set_option maxRecDepth 100000 in
set_option maxHeartbeats 3200000 in
theorem markedInts_any (w : World) (D : Nat → Prop) (v : Value) (ns : List Nat) (hM : Marked IntSl mkInts w D v ns) (hn : ns.length ≤ 1000) (hl : ∀ n ∈ ns, n ≤ 200000) :
    Calls Try.prog 105 #[v] w fun e w' => e = .returned (.bool true) ∧ Below w.heap.size w w' := by
  obtain ⟨a, c, rfl, hM⟩ := hM
  have HM := Lib.hid hM; clear hM
  have HL := Lib.hid hl; clear hl
  go_enter Try.func105, Try.ntmps105
  go_wp2_with fail
  go_loopw [3] (fun i wr => ∃ k : Nat, k ≤ ns.length ∧ i = .int .i64 k ∧ Below w.heap.size w wr) (fun i _ => ns.length - (intOf i).toNat)
  case atStart => exact ⟨0, Nat.zero_le _, rfl, Below.refl _ _⟩
  case round =>
    obtain ⟨k, hk, rfl, hB⟩ := hrel
    by_cases hlt : k < ns.length
    · obtain ⟨b, o, rfl, _, x, y, hc, hsl⟩ := HM.out k hlt
      have hc := below_cell hB hc
      have hlk := HL.out _ (List.getElem_mem hlt)
      generalize ns[k] = n at *
      have mk : ∀ W, Calls Try.prog 154 #[.int .i64 k, .int .i64 0, .int .i64 n] W fun e w' => ∃ x2 y2 D2, e = .returned (.slice x2 n y2) ∧ IntSl w' D2 x2 (marks mkInts k 0 n) ∧ Below W.heap.size W w' := fun W =>
        (markInts_any k 0 n W (by omega) (by omega) (by omega)).mono (by
          rintro e w' ⟨v, rfl, ho, hb⟩
          obtain ⟨x2, y2, rfl, hs⟩ := own_int ho
          exact ⟨x2, y2, _, by rw [marks_len], hs, hb⟩)
      have sm := fun (W : World) (hb : Below wr.heap.size wr W) (D' : Nat → Prop) x' y' (hs' : IntSl W D' x' (marks mkInts k 0 n)) => sameInts_any W D D' x x' (marks mkInts k 0 n) (marks mkInts k 0 n) y y' (hsl.fr ((Fr.of_below hB (fun _ => False)).trans (Fr.of_below hb (fun _ => False)) (fun _ _ h => h)) (fun _ _ h => h)) hs' (by rw [marks_len]; omega) (by rw [marks_len]; omega)
      have hml := marks_len mkInts k 0 n
      have hdd : decide (marks mkInts k 0 n = marks mkInts k 0 n) = true := by simp
      rw [hdd, hml] at sm
      clear hsl hdd
      generalize marks mkInts k 0 n = l at *
      have MK := Lib.hid mk; clear mk
      have SM := Lib.hid sm; clear sm
      have HB := Lib.hid hB; clear hB
      have HML := Lib.hid hml; clear hml
      go_wp2_with fail
      go_region_held3 (fun w' => w'.cell? ⟨b, o + k, none⟩ = some (.slice x n y)) (first | go_keep | exact kk) (first | (go_at_call 154; refine (MK.out _).mono ?_; rintro e W ⟨x2, y2, D2, rfl, hs2, hb⟩; have kk := below_cell hb (show wr.drew.cell? ⟨b, o + k, none⟩ = some (.slice x n y) from hc); have hbW := ((Below.refl wr.heap.size wr).drew).trans hb) | (go_at_call 54; refine (SM.out W hbW _ x2 y2 hs2).mono ?_; rintro e W2 ⟨rfl, n2, rfl⟩))
      have HBW := Lib.hid hbW; clear hbW
      clear hs2
      go_wp2_with fail
      go_roundw
      case rel => exact ⟨k + 1, by omega, by go_num, HB.out.trans ((below_drewN HBW.out _).mono HB.out.size)⟩
      case measure => simp [intOf]; omega
    · skip
      have HB := Lib.hid hB; clear hB
      go_wp2_with fail
      go_ret
      exact ⟨rfl, HB.out⟩
set_option maxRecDepth 100000 in
set_option maxHeartbeats 3200000 in
theorem markedInstrs_any (w : World) (D : Nat → Prop) (v : Value) (ns : List Nat) (hM : Marked InsSlD mkInstrs w D v ns) (hn : ns.length ≤ 1000) (hl : ∀ n ∈ ns, n ≤ 200000) :
    Calls Try.prog 106 #[v] w fun e w' => e = .returned (.bool true) ∧ Below w.heap.size w w' := by
  obtain ⟨a, c, rfl, hM⟩ := hM
  have HM := Lib.hid hM; clear hM
  have HL := Lib.hid hl; clear hl
  go_enter Try.func106, Try.ntmps106
  go_wp2_with fail
  go_loopw [3] (fun i wr => ∃ k : Nat, k ≤ ns.length ∧ i = .int .i64 k ∧ Below w.heap.size w wr) (fun i _ => ns.length - (intOf i).toNat)
  case atStart => exact ⟨0, Nat.zero_le _, rfl, Below.refl _ _⟩
  case round =>
    obtain ⟨k, hk, rfl, hB⟩ := hrel
    by_cases hlt : k < ns.length
    · obtain ⟨b, o, rfl, _, x, y, hc, hsl⟩ := HM.out k hlt
      have hc := below_cell hB hc
      have hlk := HL.out _ (List.getElem_mem hlt)
      generalize ns[k] = n at *
      have mk : ∀ W, Calls Try.prog 155 #[.int .i64 k, .int .i64 0, .int .i64 n] W fun e w' => ∃ x2 y2 D2, e = .returned (.slice x2 n y2) ∧ InsSlD w' D2 x2 (marks mkInstrs k 0 n) ∧ Below W.heap.size W w' := fun W =>
        (markInstrs_any k 0 n W (by omega) (by omega) (by omega)).mono (by
          rintro e w' ⟨v, rfl, ho, hb⟩
          obtain ⟨x2, y2, rfl, hs⟩ := own_insD ho
          exact ⟨x2, y2, _, by rw [marks_len], hs, hb⟩)
      have sm := fun (W : World) (hb : Below wr.heap.size wr W) (D' : Nat → Prop) x' y' (hs' : InsSlD W D' x' (marks mkInstrs k 0 n)) => sameInstrs_any W D D' x x' (marks mkInstrs k 0 n) (marks mkInstrs k 0 n) y y' (hsl.fr ((Fr.of_below hB (fun _ => False)).trans (Fr.of_below hb (fun _ => False)) (fun _ _ h => h)) (fun _ _ h => h)) hs' (by rw [marks_len]; omega) (by rw [marks_len]; omega)
      have hml := marks_len mkInstrs k 0 n
      have hdd : decide (marks mkInstrs k 0 n = marks mkInstrs k 0 n) = true := by simp
      rw [hdd, hml] at sm
      clear hsl hdd
      generalize marks mkInstrs k 0 n = l at *
      have MK := Lib.hid mk; clear mk
      have SM := Lib.hid sm; clear sm
      have HB := Lib.hid hB; clear hB
      have HML := Lib.hid hml; clear hml
      go_wp2_with fail
      go_region_held3 (fun w' => w'.cell? ⟨b, o + k, none⟩ = some (.slice x n y)) (first | go_keep | exact kk) (first | (go_at_call 155; refine (MK.out _).mono ?_; rintro e W ⟨x2, y2, D2, rfl, hs2, hb⟩; have kk := below_cell hb (show wr.drew.cell? ⟨b, o + k, none⟩ = some (.slice x n y) from hc); have hbW := ((Below.refl wr.heap.size wr).drew).trans hb) | (go_at_call 41; refine (SM.out W hbW _ x2 y2 hs2).mono ?_; rintro e W2 ⟨rfl, n2, rfl⟩))
      have HBW := Lib.hid hbW; clear hbW
      clear hs2
      go_wp2_with fail
      go_roundw
      case rel => exact ⟨k + 1, by omega, by go_num, HB.out.trans ((below_drewN HBW.out _).mono HB.out.size)⟩
      case measure => simp [intOf]; omega
    · skip
      have HB := Lib.hid hB; clear hB
      go_wp2_with fail
      go_ret
      exact ⟨rfl, HB.out⟩

/-- list j of the first i ones is marked -/
def mkd {α : Type} (mk : Nat → Nat → α) (i : Nat) (ls : List (List α)) : List (List α) := ls.mapIdx fun j l => if j < i then marks mk j 0 l.length else l
theorem mkd_len {α : Type} (mk : Nat → Nat → α) (i : Nat) (ls : List (List α)) : (mkd mk i ls).length = ls.length := by simp [mkd]
theorem mkd_get {α : Type} (mk : Nat → Nat → α) (i : Nat) (ls : List (List α)) (j : Nat) (h : j < (mkd mk i ls).length) (h' : j < ls.length) : (mkd mk i ls)[j] = if j < i then marks mk j 0 ls[j].length else ls[j] := by simp [mkd]
theorem mkd_zero {α : Type} (mk : Nat → Nat → α) (ls : List (List α)) : mkd mk 0 ls = ls := by
  apply List.ext_getElem (mkd_len _ _ _)
  intro j h1 h2
  rw [mkd_get mk 0 ls j h1 h2]; simp
theorem mkd_succ {α : Type} (mk : Nat → Nat → α) (i : Nat) (ls : List (List α)) (hi : i < ls.length) : (mkd mk i ls).set i (marks mk i 0 ls[i].length) = mkd mk (i + 1) ls := by
  apply List.ext_getElem (by simp [mkd_len])
  intro j h1 h2
  have h3 : j < ls.length := by simpa [mkd_len] using h2
  rw [mkd_get mk (i + 1) ls j h2 h3, List.getElem_set]
  by_cases hij : i = j
  · subst hij; simp
  · rw [if_neg hij, mkd_get mk i ls j (by simpa [mkd_len] using h3) h3]
    by_cases hlt : j < i
    · rw [if_pos hlt, if_pos (by omega)]
    · rw [if_neg hlt, if_neg (by omega)]
/-- a list, of which the first k are marked -/
def part {α : Type} (mk : Nat → Nat → α) (i k : Nat) (l : List α) : List α := marks mk i 0 k ++ l.drop k
theorem part_len {α : Type} (mk : Nat → Nat → α) (i k : Nat) (l : List α) (h : k ≤ l.length) : (part mk i k l).length = l.length := by simp [part, marks_len]; omega
theorem part_zero {α : Type} (mk : Nat → Nat → α) (i : Nat) (l : List α) : part mk i 0 l = l := by simp [part, marks]
theorem part_all {α : Type} (mk : Nat → Nat → α) (i : Nat) (l : List α) : part mk i l.length l = marks mk i 0 l.length := by simp [part]
theorem part_succ {α : Type} (mk : Nat → Nat → α) (i k : Nat) (l : List α) (h : k < l.length) : (part mk i k l).set k (mk i k) = part mk i (k + 1) l := by
  unfold part
  rw [marks_succ, List.set_append_right _ _ (by rw [marks_len]; exact Nat.le_refl _), marks_len, Nat.sub_self, List.append_assoc, Nat.zero_add]
  congr 1
  rw [List.drop_eq_getElem_cons h]
  rfl
/-- an element of one's own is set: a number -/
theorem set_int {w : World} {B g c : Nat} {l : List Int} (h : Own intE w B (.slice (some ⟨g, 0, none⟩) l.length c) l) (k : Nat) (hk : k < l.length) (x : Int) : Own intE (w.setCell ⟨g, k, none⟩ (.int .i64 x)) B (.slice (some ⟨g, 0, none⟩) l.length c) (l.set k x) := by
  have h1 := ownsRow_set (show w.ownsRow B intE.e intE.size _ l.length (l.flatMap intE.enc) from h) k (.int .i64 x)
  unfold Own
  rw [List.length_set]
  have e : ∀ l : List Int, l.flatMap intE.enc = l.map (Value.int .i64) := fun l => by
    induction l with
    | nil => rfl
    | cons x l ih => rw [List.flatMap_cons, ih]; rfl
  rw [e] at h1 ⊢
  rw [List.map_set]
  exact h1
theorem flat_set (l : List Ins) (k : Nat) (hk : k < l.length) (x : Ins) : ((((l.flatMap Ins.cells).set (k * 4) (.int .i64 x.op)).set (k * 4 + 1) (.int .i64 x.a)).set (k * 4 + 2) (.int .i64 x.b)).set (k * 4 + 3) (.int .i64 x.c) = (l.set k x).flatMap Ins.cells := by
  induction l generalizing k with
  | nil => cases hk
  | cons y l ih =>
    cases k with
    | zero => simp [Ins.cells]
    | succ k =>
      have h := ih k (by simpa using hk)
      simp only [List.flatMap_cons, List.set_cons_succ]
      have e : ∀ r, (k + 1) * 4 + r = (Ins.cells y).length + (k * 4 + r) := fun r => by simp [Ins.cells]; omega
      have e0 : (k + 1) * 4 = (Ins.cells y).length + k * 4 := by simp [Ins.cells]; omega
      rw [e 1, e 2, e 3, e0]
      simp only [List.set_append_right _ _ (Nat.le_add_right _ _), Nat.add_sub_cancel_left]
      rw [h]
theorem set_ins {w : World} {B g c : Nat} {l : List Ins} (h : Own insE w B (.slice (some ⟨g, 0, none⟩) l.length c) l) (k : Nat) (hk : k < l.length) (x : Ins) : Own insE ((((w.setCell ⟨g, k * 4, none⟩ (.int .i64 x.op)).setCell ⟨g, k * 4 + 1, none⟩ (.int .i64 x.a)).setCell ⟨g, k * 4 + 2, none⟩ (.int .i64 x.b)).setCell ⟨g, k * 4 + 3, none⟩ (.int .i64 x.c)) B (.slice (some ⟨g, 0, none⟩) l.length c) (l.set k x) := by
  have h1 := ownsRow_set (ownsRow_set (ownsRow_set (ownsRow_set (show w.ownsRow B insE.e insE.size _ l.length (l.flatMap insE.enc) from h) (k * 4) (.int .i64 x.op)) (k * 4 + 1) (.int .i64 x.a)) (k * 4 + 2) (.int .i64 x.b)) (k * 4 + 3) (.int .i64 x.c)
  unfold Own
  rw [List.length_set]
  have e := flat_set l k hk x
  have e2 : (l.set k x).flatMap insE.enc = (l.set k x).flatMap Ins.cells := rfl
  rw [e2, ← e]
  exact h1
end Go.Proofs.Ytmmdppjbofbjhaa
namespace Go.Proofs.Ytmmdppjbofbjhaa
open Go.ChangeShapes Go.WideShapes Go.ChangeAt Go.RowKit

theorem Own.slot {P : Program} {α : Type} {E : Elem P α} {w : World} {B g n c : Nat} {l : List α} (h : Own E w B (.slice (some ⟨g, 0, none⟩) n c) l) (m : Nat) (hm : m < l.length * E.size) : (∃ u, w.cell? ⟨g, m, none⟩ = some u) ∧ w.frozen? ⟨g, m, none⟩ = false := by
  obtain ⟨h1, h2⟩ := h
  rcases h2 with ⟨hc, _⟩ | ⟨g', cap, cur, hv, hbg, hg, hnc, hcm, hcs, htake⟩
  · cases hc
  · injection hv with q1 q2 q3
    injection q1 with q1
    injection q1 with q1
    subst q1
    have h3 := row_cell hg m
    refine ⟨?_, h3.2⟩
    have hlt : m < cur.size := by
      rw [hcs]
      exact Nat.lt_of_lt_of_le hm (Nat.mul_le_mul_right _ hnc)
    exact ⟨cur[m], by rw [h3.1, Array.getElem?_eq_getElem hlt]⟩
set_option maxRecDepth 100000 in
set_option maxHeartbeats 3200000 in
theorem putInts_any (w : World) (p B : Nat) (X : Nat → Prop) (v : Value) (hs : List Hd) (ls : List (List Int)) (q0 : w.cell? ⟨p, 0, none⟩ = some v) (hp : ¬ X p) (hX : ∀ k, X k → k < w.heap.size) (hF : Fam intE intsE w B X v hs ls)
    (hn : ls.length ≤ 1000) (hl : ∀ l ∈ ls, l.length ≤ 100000) :
    Calls Try.prog 96 #[.pointer (some ⟨p, 0, none⟩)] w fun e w' => e = .returned (.tuple #[]) ∧ Fam intE intsE w' B X v hs (mkd mkInts ls.length ls) ∧ Fr X w w' := by
  obtain ⟨a, c, rfl⟩ := hF.slice
  have HF := Lib.hid hF; clear hF
  have HL := Lib.hid hl; clear hl
  have HX := Lib.hid hX; clear hX
  have HP := Lib.hid hp; clear hp
  go_enter Try.func96, Try.ntmps96
  go_wp2_with fail
  go_loopw [2] (fun s2 wr => ∃ i : Nat, i ≤ ls.length ∧ s2 = .int .i64 i ∧ Fam intE intsE wr B X (.slice a ls.length c) hs (mkd mkInts i ls) ∧ Fr X w wr) (fun s2 _ => ls.length - (intOf s2).toNat)
  case atStart => exact ⟨0, Nat.zero_le _, rfl, by rw [mkd_zero]; exact HF.out, Fr.refl _ _⟩
  case round =>
    obtain ⟨i, hi, rfl, hf, hfr⟩ := hrel
    have r0 := hfr.cell q0 HP.out
    by_cases hlt : i < ls.length
    · obtain ⟨g, c2, he, hXg, hj, hc, ho⟩ := hf.head rfl (fun _ => rfl) i (by rw [mkd_len]; exact hlt)
      injection he with e1 e2 e3
      subst e1 e3
      rw [mkd_get mkInts i ls i _ hlt, if_neg (Nat.lt_irrefl i)] at ho
      have hlk := HL.out _ (List.getElem_mem hlt)
      have hms := mkd_succ mkInts i ls hlt
      have hsl := ho.slice
      obtain ⟨x, y, hxv⟩ : ∃ x y, hs[i].val = .slice x ls[i].length y := by
        obtain ⟨x, y, hx, _⟩ := own_elems ho
        exact ⟨x, y, hx⟩
      have mk : ∀ W, Calls Try.prog 154 #[.int .i64 i, .int .i64 0, .int .i64 ls[i].length] W fun e w' => ∃ x2 y2, e = .returned (.slice x2 ls[i].length y2) ∧ (∃ D2, IntSl w' D2 x2 (marks mkInts i 0 ls[i].length) ∧ ∀ k, D2 k → W.heap.size ≤ k) ∧ Below W.heap.size W w' := fun W =>
        (markInts_any i 0 ls[i].length W (by omega) (by omega) (by omega)).mono (by
          rintro e w' ⟨v, rfl, ho, hb⟩
          obtain ⟨x2, y2, rfl, hs⟩ := own_int ho
          exact ⟨x2, y2, by rw [marks_len], ⟨_, hs, fun k hk => (ho.lt hk).1⟩, hb⟩)
      have hpl := fun k => part_len mkInts i k ls[i]
      have hpz := part_zero mkInts i ls[i]
      have hpa := part_all mkInts i ls[i]
      have hpp := fun k => part_succ mkInts i k ls[i]
      obtain ⟨hd, hhd⟩ : ∃ hd, hd = hs[i] := ⟨_, rfl⟩
      rw [← hhd] at hc ho hxv
      rw [hxv] at hc
      generalize hli : ls[i] = l at *
      have hset0 : (mkd mkInts i ls).set i l = mkd mkInts i ls := by
        apply List.ext_getElem (by simp)
        intro j h1 h2
        rw [List.getElem_set]
        split
        · subst j; rw [mkd_get mkInts i ls i _ hlt, if_neg (Nat.lt_irrefl i), hli]
        · rfl
      generalize hn0 : l.length = n at *
      have hg1 := hf
      have hr1 := hfr
      clear hf hfr hsl
      have MK := Lib.hid mk; clear mk
      have HG1 := Lib.hid hg1; clear hg1
      have HR1 := Lib.hid hr1; clear hr1
      have HMS := Lib.hid hms; clear hms
      have HPL := Lib.hid hpl; clear hpl
      have HPZ := Lib.hid hpz; clear hpz
      have HPA := Lib.hid hpa; clear hpa
      have HPP := Lib.hid hpp; clear hpp
      have HO := Lib.hid ho; clear ho
      have HHD := Lib.hid hhd; clear hhd
      have HSET0 := Lib.hid hset0; clear hset0
      have HLI := Lib.hid hli; clear hli
      have HN0 := Lib.hid hn0; clear hn0
      have HXV := Lib.hid hxv; clear hxv
      go_wp2_with fail
      refine (MK.out _).mono ?_
      rintro e W ⟨x2, y2, rfl, ⟨D2, hs2, hd2⟩, hb⟩
      have u0 := below_cell hb r0
      have fw := HG1.out.fr (Fr.of_below hb (fun _ => False)) (fun _ _ h => h)
      have rw1 : Fr X w W := HR1.out.trans (Fr.of_below hb (fun _ => False)) (fun _ _ h => h.elim)
      have hd2 : ∀ k, D2 k → w.heap.size ≤ k := fun k hk => by have := hd2 k hk; have := HR1.out.size; omega
      clear hb hc r0
      have FW := Lib.hid fw; clear fw
      have RW1 := Lib.hid rw1; clear rw1
      have HS2 := Lib.hid hs2; clear hs2
      have HD2 := Lib.hid hd2; clear hd2
      go_wp2_with fail
      go_loopw [4] (fun s4 wk => ∃ k : Nat, k ≤ n ∧ s4 = .int .i64 k ∧ Fam intE intsE wk B X (.slice (some ⟨g, 0, none⟩) ls.length c) hs ((mkd mkInts i ls).set i (part mkInts i k l)) ∧ Fr X W wk) (fun s4 _ => n - (intOf s4).toNat)
      case atStart => exact ⟨0, Nat.zero_le _, rfl, by rw [HPZ.out, HSET0.out]; exact FW.out, Fr.refl _ _⟩
      case round =>
        obtain ⟨k, hk, rfl, hfk0, hfk⟩ := hrel
        have u1 := hfk.cell u0 HP.out
        by_cases hlk : k < n
        · obtain ⟨g', c', he', _, hj', hc', hob⟩ := hfk0.head rfl (fun _ => rfl) i (by rw [List.length_set, mkd_len]; exact hlt)
          injection he' with e1 e2 e3
          injection e1 with e1
          injection e1 with e1
          subst e1 e3
          rw [List.getElem_set_self, ← HHD.out] at hob
          rw [← HHD.out] at hc'
          have hpl := HPL.out k hk
          have hpp := HPP.out k hlk
          obtain ⟨gi, ci, hvi, _, _, _⟩ := hob.cells (by rw [hpl]; omega)
          obtain ⟨pt, hpt⟩ : ∃ pt, pt = part mkInts i k l := ⟨_, rfl⟩
          rw [← hpt] at hob hpl hpp hvi
          rw [hvi] at hob hc'
          rw [hpl] at hc'
          have HFK := Lib.hid hfk
          obtain ⟨b2, o2, rfl, hd2, s0⟩ := HS2.out k (by rw [marks_len]; exact hlk)
          have s0 := HFK.out.cell s0 (fun h => by have : b2 < w.heap.size := HX.out _ h; have := HD2.out _ hd2; omega)
          rw [marks_get, Nat.zero_add] at s0
          obtain ⟨⟨d0, t0⟩, z0⟩ := hob.slot k (by rw [hpl]; show k < n * 1; omega)
          have hset := set_int hob k (by rw [hpl]; exact hlk) (mkInts i k)
          generalize mkInts i k = mv at *
          have HF0 := Lib.hid hfk0
          have HOB := Lib.hid hob
          have HVI := Lib.hid hvi
          have key : ∀ wz, Fr (fun q => q = gi) wr wz → Own intE wz B (.slice (some ⟨gi, 0, none⟩) pt.length ci) (part mkInts i (k + 1) l) → Fam intE intsE wz B X (.slice (some ⟨g, 0, none⟩) ls.length c) hs ((mkd mkInts i ls).set i (part mkInts i (k + 1) l)) := fun wz hfz hoz => by
            have h1 := hfk0.upd i hj' (part mkInts i (k + 1) l) (w' := wz) (by rw [← HHD.out, hvi]; exact hfz.mono (fun q h => by rw [h]; rfl)) (by rw [← HHD.out, hvi]; exact hoz)
            rw [List.set_set] at h1
            exact h1
          have KEY := Lib.hid key
          clear hfk hfk0 hob hvi hpt key
          have HSET := Lib.hid hset; clear hset
          have HPL := Lib.hid hpl; clear hpl
          have HPP := Lib.hid hpp; clear hpp
          go_wp2_with fail
          go_region
          go_wp2_with fail
          go_roundw
          case rel =>
            have hXg : X gi := (HF0.out.mem i hj' gi (by rw [← HHD.out, HVI.out]; rfl)).1
            refine ⟨k + 1, by omega, by go_num, ?_, ?_⟩
            · refine KEY.out _ ((Fr.refl (fun q => q=gi) _).setCell (p := ⟨gi,k,none⟩) (fun _ => rfl) _).drew ?_
              rw [← HPP.out]; exact HSET.out
            · exact HFK.out.trans (G := fun q => q = gi) ((Fr.refl (fun q => q=gi) _).setCell (p := ⟨gi,k,none⟩) (fun _ => rfl) _).drew (fun q _ h => by rw [h]; exact hXg)
          case measure => simp [intOf]; omega
        · have hk' : k = n := by omega
          subst hk'
          rw [HPA.out, HMS.out] at hfk0
          have HFK0 := Lib.hid hfk0; clear hfk0
          have HFK := Lib.hid hfk; clear hfk
          go_wp2_with fail
          go_roundw
          case rel => exact ⟨i + 1, by omega, by go_num, HFK0.out, RW1.out.trans HFK.out (fun _ _ h => h)⟩
          case measure => simp [intOf]; omega
    · have hk' : i = ls.length := by omega
      subst hk'
      have HG := Lib.hid hf
      have HR := Lib.hid hfr
      clear hf hfr
      go_wp2_with fail
      go_end0
      exact ⟨rfl, HG.out, HR.out⟩
set_option maxRecDepth 100000 in
set_option maxHeartbeats 3200000 in
theorem putInstrs_any (w : World) (p B : Nat) (X : Nat → Prop) (v : Value) (hs : List Hd) (ls : List (List Ins)) (q0 : w.cell? ⟨p, 2, none⟩ = some v) (hp : ¬ X p) (hX : ∀ k, X k → k < w.heap.size) (hF : Fam insE inssE w B X v hs ls)
    (hn : ls.length ≤ 1000) (hl : ∀ l ∈ ls, l.length ≤ 100000) :
    Calls Try.prog 97 #[.pointer (some ⟨p, 0, none⟩)] w fun e w' => e = .returned (.tuple #[]) ∧ Fam insE inssE w' B X v hs (mkd mkInstrs ls.length ls) ∧ Fr X w w' := by
  obtain ⟨a, c, rfl⟩ := hF.slice
  have HF := Lib.hid hF; clear hF
  have HL := Lib.hid hl; clear hl
  have HX := Lib.hid hX; clear hX
  have HP := Lib.hid hp; clear hp
  go_enter Try.func97, Try.ntmps97
  go_wp2_with fail
  go_loopw [2] (fun s2 wr => ∃ i : Nat, i ≤ ls.length ∧ s2 = .int .i64 i ∧ Fam insE inssE wr B X (.slice a ls.length c) hs (mkd mkInstrs i ls) ∧ Fr X w wr) (fun s2 _ => ls.length - (intOf s2).toNat)
  case atStart => exact ⟨0, Nat.zero_le _, rfl, by rw [mkd_zero]; exact HF.out, Fr.refl _ _⟩
  case round =>
    obtain ⟨i, hi, rfl, hf, hfr⟩ := hrel
    have r0 := hfr.cell q0 HP.out
    by_cases hlt : i < ls.length
    · obtain ⟨g, c2, he, hXg, hj, hc, ho⟩ := hf.head rfl (fun _ => rfl) i (by rw [mkd_len]; exact hlt)
      injection he with e1 e2 e3
      subst e1 e3
      rw [mkd_get mkInstrs i ls i _ hlt, if_neg (Nat.lt_irrefl i)] at ho
      have hlk := HL.out _ (List.getElem_mem hlt)
      have hms := mkd_succ mkInstrs i ls hlt
      have hsl := ho.slice
      obtain ⟨x, y, hxv⟩ : ∃ x y, hs[i].val = .slice x ls[i].length y := by
        obtain ⟨x, y, hx, _⟩ := own_elems ho
        exact ⟨x, y, hx⟩
      have mk : ∀ W, Calls Try.prog 155 #[.int .i64 i, .int .i64 0, .int .i64 ls[i].length] W fun e w' => ∃ x2 y2, e = .returned (.slice x2 ls[i].length y2) ∧ (∃ D2, InsSlD w' D2 x2 (marks mkInstrs i 0 ls[i].length) ∧ ∀ k, D2 k → W.heap.size ≤ k) ∧ Below W.heap.size W w' := fun W =>
        (markInstrs_any i 0 ls[i].length W (by omega) (by omega) (by omega)).mono (by
          rintro e w' ⟨v, rfl, ho, hb⟩
          obtain ⟨x2, y2, rfl, hs⟩ := own_insD ho
          exact ⟨x2, y2, by rw [marks_len], ⟨_, hs, fun k hk => (ho.lt hk).1⟩, hb⟩)
      have hpl := fun k => part_len mkInstrs i k ls[i]
      have hpz := part_zero mkInstrs i ls[i]
      have hpa := part_all mkInstrs i ls[i]
      have hpp := fun k => part_succ mkInstrs i k ls[i]
      obtain ⟨hd, hhd⟩ : ∃ hd, hd = hs[i] := ⟨_, rfl⟩
      rw [← hhd] at hc ho hxv
      rw [hxv] at hc
      generalize hli : ls[i] = l at *
      have hset0 : (mkd mkInstrs i ls).set i l = mkd mkInstrs i ls := by
        apply List.ext_getElem (by simp)
        intro j h1 h2
        rw [List.getElem_set]
        split
        · subst j; rw [mkd_get mkInstrs i ls i _ hlt, if_neg (Nat.lt_irrefl i), hli]
        · rfl
      generalize hn0 : l.length = n at *
      have hg1 := hf
      have hr1 := hfr
      clear hf hfr hsl
      have MK := Lib.hid mk; clear mk
      have HG1 := Lib.hid hg1; clear hg1
      have HR1 := Lib.hid hr1; clear hr1
      have HMS := Lib.hid hms; clear hms
      have HPL := Lib.hid hpl; clear hpl
      have HPZ := Lib.hid hpz; clear hpz
      have HPA := Lib.hid hpa; clear hpa
      have HPP := Lib.hid hpp; clear hpp
      have HO := Lib.hid ho; clear ho
      have HHD := Lib.hid hhd; clear hhd
      have HSET0 := Lib.hid hset0; clear hset0
      have HLI := Lib.hid hli; clear hli
      have HN0 := Lib.hid hn0; clear hn0
      have HXV := Lib.hid hxv; clear hxv
      go_wp2_with fail
      refine (MK.out _).mono ?_
      rintro e W ⟨x2, y2, rfl, ⟨D2, hs2, hd2⟩, hb⟩
      have u0 := below_cell hb r0
      have fw := HG1.out.fr (Fr.of_below hb (fun _ => False)) (fun _ _ h => h)
      have rw1 : Fr X w W := HR1.out.trans (Fr.of_below hb (fun _ => False)) (fun _ _ h => h.elim)
      have hd2 : ∀ k, D2 k → w.heap.size ≤ k := fun k hk => by have := hd2 k hk; have := HR1.out.size; omega
      clear hb hc r0
      have FW := Lib.hid fw; clear fw
      have RW1 := Lib.hid rw1; clear rw1
      have HS2 := Lib.hid hs2; clear hs2
      have HD2 := Lib.hid hd2; clear hd2
      go_wp2_with fail
      go_loopw [4] (fun s4 wk => ∃ k : Nat, k ≤ n ∧ s4 = .int .i64 k ∧ Fam insE inssE wk B X (.slice (some ⟨g, 0, none⟩) ls.length c) hs ((mkd mkInstrs i ls).set i (part mkInstrs i k l)) ∧ Fr X W wk) (fun s4 _ => n - (intOf s4).toNat)
      case atStart => exact ⟨0, Nat.zero_le _, rfl, by rw [HPZ.out, HSET0.out]; exact FW.out, Fr.refl _ _⟩
      case round =>
        obtain ⟨k, hk, rfl, hfk0, hfk⟩ := hrel
        have u1 := hfk.cell u0 HP.out
        by_cases hlk : k < n
        · obtain ⟨g', c', he', _, hj', hc', hob⟩ := hfk0.head rfl (fun _ => rfl) i (by rw [List.length_set, mkd_len]; exact hlt)
          injection he' with e1 e2 e3
          injection e1 with e1
          injection e1 with e1
          subst e1 e3
          rw [List.getElem_set_self, ← HHD.out] at hob
          rw [← HHD.out] at hc'
          have hpl := HPL.out k hk
          have hpp := HPP.out k hlk
          obtain ⟨gi, ci, hvi, _, _, _⟩ := hob.cells (by rw [hpl]; omega)
          obtain ⟨pt, hpt⟩ : ∃ pt, pt = part mkInstrs i k l := ⟨_, rfl⟩
          rw [← hpt] at hob hpl hpp hvi
          rw [hvi] at hob hc'
          rw [hpl] at hc'
          have HFK := Lib.hid hfk
          obtain ⟨b2, o2, rfl, hd2, s0, s1, s2, s3⟩ := HS2.out k (by rw [marks_len]; exact hlk)
          have hd3 : ¬ X b2 := fun h => by have : b2 < w.heap.size := HX.out _ h; have := HD2.out _ hd2; omega
          have s0 := HFK.out.cell s0 hd3
          have s1 := HFK.out.cell s1 hd3
          have s2 := HFK.out.cell s2 hd3
          have s3 := HFK.out.cell s3 hd3
          rw [marks_get, Nat.zero_add] at s0 s1 s2 s3
          have h4 : k * 4 + 3 < n * 4 := by omega
          obtain ⟨⟨d0, t0⟩, z0⟩ := hob.slot (k * 4) (by rw [hpl]; show k * 4 < n * 4; omega)
          obtain ⟨⟨d1, t1⟩, z1⟩ := hob.slot (k * 4 + 1) (by rw [hpl]; show k * 4 + 1 < n * 4; omega)
          obtain ⟨⟨d2, t2⟩, z2⟩ := hob.slot (k * 4 + 2) (by rw [hpl]; show k * 4 + 2 < n * 4; omega)
          obtain ⟨⟨d3, t3⟩, z3⟩ := hob.slot (k * 4 + 3) (by rw [hpl]; exact h4)
          have hset := set_ins hob k (by rw [hpl]; exact hlk) (mkInstrs i k)
          generalize mkInstrs i k = mv at *
          obtain ⟨m0, m1, m2, m3⟩ := mv
          dsimp only at s0 s1 s2 s3 hset
          clear h4 hd3
          have HF0 := Lib.hid hfk0
          have HOB := Lib.hid hob
          have HVI := Lib.hid hvi
          have key : ∀ wz, Fr (fun q => q = gi) wr wz → Own insE wz B (.slice (some ⟨gi, 0, none⟩) pt.length ci) (part mkInstrs i (k + 1) l) → Fam insE inssE wz B X (.slice (some ⟨g, 0, none⟩) ls.length c) hs ((mkd mkInstrs i ls).set i (part mkInstrs i (k + 1) l)) := fun wz hfz hoz => by
            have h1 := hfk0.upd i hj' (part mkInstrs i (k + 1) l) (w' := wz) (by rw [← HHD.out, hvi]; exact hfz.mono (fun q h => by rw [h]; rfl)) (by rw [← HHD.out, hvi]; exact hoz)
            rw [List.set_set] at h1
            exact h1
          have KEY := Lib.hid key
          clear hfk hfk0 hob hvi hpt key
          have HSET := Lib.hid hset; clear hset
          have HPL := Lib.hid hpl; clear hpl
          have HPP := Lib.hid hpp; clear hpp
          go_wp2_with fail
          go_region
          go_wp2_with fail
          go_roundw
          case rel =>
            have hXg : X gi := (HF0.out.mem i hj' gi (by rw [← HHD.out, HVI.out]; rfl)).1
            refine ⟨k + 1, by omega, by go_num, ?_, ?_⟩
            · refine KEY.out _ (((((Fr.refl (fun q => q=gi) _).setCell (p := ⟨gi,k*4,none⟩) (fun _ => rfl) _).setCell (p := ⟨gi,k*4+1,none⟩) (fun _ => rfl) _).setCell (p := ⟨gi,k*4+2,none⟩) (fun _ => rfl) _).setCell (p := ⟨gi,k*4+3,none⟩) (fun _ => rfl) _).drew ?_
              rw [← HPP.out]; exact HSET.out
            · exact HFK.out.trans (G := fun q => q = gi) (((((Fr.refl (fun q => q=gi) _).setCell (p := ⟨gi,k*4,none⟩) (fun _ => rfl) _).setCell (p := ⟨gi,k*4+1,none⟩) (fun _ => rfl) _).setCell (p := ⟨gi,k*4+2,none⟩) (fun _ => rfl) _).setCell (p := ⟨gi,k*4+3,none⟩) (fun _ => rfl) _).drew (fun q _ h => by rw [h]; exact hXg)
          case measure => simp [intOf]; omega
        · have hk' : k = n := by omega
          subst hk'
          rw [HPA.out, HMS.out] at hfk0
          have HFK0 := Lib.hid hfk0; clear hfk0
          have HFK := Lib.hid hfk; clear hfk
          go_wp2_with fail
          go_roundw
          case rel => exact ⟨i + 1, by omega, by go_num, HFK0.out, RW1.out.trans HFK.out (fun _ _ h => h)⟩
          case measure => simp [intOf]; omega
    · have hk' : i = ls.length := by omega
      subst hk'
      have HG := Lib.hid hf
      have HR := Lib.hid hfr
      clear hf hfr
      go_wp2_with fail
      go_end0
      exact ⟨rfl, HG.out, HR.out⟩
end Go.Proofs.Ytmmdppjbofbjhaa
namespace Go.Proofs.Ytmmdppjbofbjhaa
open Go.RowKit

variable {P : Program} {α : Type}
/-- vl was grown from h0: h0 still has l0 -/
structure GS (E : Elem P α) (w : World) (B : Nat) (h0 : Value) (l0 : List α) (vl : Value) (l : List α) : Prop where
  old : Own E w B h0 l0
  cur : Own E w B vl l
  rel : (∃ g c r, h0 = .slice (some ⟨g, 0, none⟩) l0.length c ∧ vl = .slice (some ⟨g, 0, none⟩) l.length c ∧ l = l0 ++ r) ∨ ∀ k, h0.ownBlock = some k → vl.ownBlock ≠ some k
variable {E : Elem P α} {w w' : World} {B : Nat} {h0 vl v' : Value} {l0 l m : List α}
theorem GS.init (h : Own E w B h0 l0) : GS E w B h0 l0 h0 l0 := by
  refine ⟨h, h, ?_⟩
  rcases h.2 with ⟨rfl, h1⟩ | ⟨g, cap, cur, rfl, _⟩
  · exact .inr fun k hk => by simp [Value.ownBlock] at hk
  · exact .inl ⟨g, cap, [], rfl, rfl, by simp⟩
theorem GS.fr {F : Nat → Prop} (h : GS E w B h0 l0 vl l) (hf : Fr F w w') (h1 : ∀ k, h0.ownBlock = some k → ¬ F k) (h2 : ∀ k, vl.ownBlock = some k → ¬ F k) : GS E w' B h0 l0 vl l :=
  ⟨h.old.fr hf h1, h.cur.fr hf h2, h.rel⟩
theorem GS.below (h : GS E w B h0 l0 vl l) (hb : Below w.heap.size w w') : GS E w' B h0 l0 vl l := h.fr (Fr.of_below hb (fun _ => False)) (fun _ _ h => h) (fun _ _ h => h)
theorem own_prefix {g n c : Nat} {r : List α} (h : Own E w B (.slice (some ⟨g, 0, none⟩) n c) (l0 ++ r)) (hc : l0.length ≤ c) : Own E w B (.slice (some ⟨g, 0, none⟩) l0.length c) l0 := by
  obtain ⟨h1, h2⟩ := h
  refine ⟨E.len l0, ?_⟩
  rcases h2 with ⟨hc, _⟩ | ⟨g', cap, cur, hv, hbg, hg, hnc, hcm, hcs, htake⟩
  · cases hc
  · injection hv with q1 q2 q3
    injection q1 with q1
    injection q1 with q1
    subst q1 q3
    refine .inr ⟨g, c, cur, rfl, hbg, hg, hc, hcm, hcs, ?_⟩
    have h3 : (cur.toList.take ((l0 ++ r).length * E.size)).take (l0.length * E.size) = l0.flatMap E.enc := by
      rw [htake, List.flatMap_append, List.take_append_of_le_length (by rw [E.len l0]; exact Nat.le_refl _), List.take_of_length_le (by rw [E.len l0]; exact Nat.le_refl _)]
    rw [List.take_take] at h3
    rw [← h3]
    congr 1
    rw [Nat.min_eq_left]
    exact Nat.mul_le_mul_right _ (by simp)
theorem own_cap {g n c : Nat} (h : Own E w B (.slice (some ⟨g, 0, none⟩) n c) l) : ∃ cur : Array Value, w.heap[g]? = some (.cells cur E.e (0, 0)) ∧ cur.size = c * E.size ∧ n = l.length ∧ l.length ≤ c := by
  obtain ⟨h1, h2⟩ := h
  rcases h2 with ⟨hc, _⟩ | ⟨g', cap, cur, hv, hbg, hg, hnc, hcm, hcs, htake⟩
  · cases hc
  · injection hv with q1 q2 q3
    injection q1 with q1
    injection q1 with q1
    subst q1 q3
    exact ⟨cur, hg, hcs, q2, hnc⟩
theorem GS.step (h : GS E w B h0 l0 vl l) (ho : Own E w' B v' (l ++ m)) (hg : w.grownBy w' vl.ownBlock) (hf : Fresh w vl v') (hk : Own E w' B vl l) : GS E w' B h0 l0 v' (l ++ m) := by
  have hlt0 := fun k hk => h.old.lt (k := k) hk
  obtain ⟨h1, h2, h3⟩ := h
  rcases h3 with ⟨g, c, r, rfl, rfl, rfl⟩ | h3
  · obtain ⟨cur, hc1, hc2, _, hc3⟩ := own_cap hk
    refine ⟨own_prefix hk (by simp at hc3; omega), ho, ?_⟩
    rcases ho.2 with ⟨rfl, h4⟩ | ⟨g', cap', cur', rfl, _, hg', _, _, hcs', _⟩
    · exact .inr fun k hk h => by simp [Value.ownBlock] at h
    · rcases hf g' rfl with h5 | h5
      · have h5 : g = g' := by simpa [Value.ownBlock] using h5
        subst h5
        rw [hc1] at hg'
        injection hg' with hg'
        injection hg' with hg' _ _
        subst hg'
        have : c = cap' := by
          have h6 : c * E.size = cap' * E.size := by rw [← hc2, hcs']
          exact Nat.eq_of_mul_eq_mul_right E.hsz h6
        subst this
        exact .inl ⟨g, c, r ++ m, rfl, rfl, by rw [List.append_assoc]⟩
      · exact .inr fun k hk h => by
          have h6 : g = k := by simpa [Value.ownBlock] using hk
          have h7 : g' = k := by simpa [Value.ownBlock] using h
          have := (hlt0 g rfl).2
          omega
  · have hf1 : Fr (fun k => vl.ownBlock = some k) w w' := (Fr.refl _ _).grown hg (fun k hk _ => hk)
    refine ⟨h1.fr hf1 h3, ho, .inr fun k hk h => ?_⟩
    rcases hf k h with h5 | h5
    · exact h3 k hk h5
    · have := (hlt0 k hk).2; omega
end Go.Proofs.Ytmmdppjbofbjhaa
namespace Go.Proofs.Ytmmdppjbofbjhaa
open Go.ChangeShapes Go.WideShapes Go.ChangeAt Go.RowKit

/-- the first i lists have been grown: heads of them lie in vo -/
def OutOk {α : Type} (E : Elem Try.prog α) (HE : Elem Try.prog Hd) (mk : Nat → Nat → α) (w wr : World) (B : Nat) (hs : List Hd) (ls : List (List α)) (vo : Value) (i : Nat) : Prop :=
  ∃ hs2 : List Hd, Own HE wr w.heap.size vo hs2 ∧ hs2.length = i ∧ ∀ j (h : j < hs2.length) (h1 : j < hs.length) (h2 : j < ls.length), hs2[j].n = ls[j].length + 72 ∧ Own E wr B hs2[j].val (marks mk j 0 (ls[j].length + 72)) ∧
    ∀ k, hs2[j].val.ownBlock = some k → (hs[j].val.ownBlock = some k ∨ w.heap.size ≤ k) ∧ vo.ownBlock ≠ some k
theorem OutOk.fr {α : Type} {E : Elem Try.prog α} {HE : Elem Try.prog Hd} {mk : Nat → Nat → α} {w wr wr' : World} {B : Nat} {hs : List Hd} {ls : List (List α)} {vo : Value} {i : Nat} {F : Nat → Prop} (h : OutOk E HE mk w wr B hs ls vo i) (hi : i ≤ hs.length) (hl : hs.length = ls.length) (hf : Fr F wr wr')
    (h1 : ∀ k, w.heap.size ≤ k → k < wr.heap.size → ¬ F k) (h2 : ∀ j (hj : j < hs.length), j < i → ∀ k, hs[j].val.ownBlock = some k → ¬ F k) : OutOk E HE mk w wr' B hs ls vo i := by
  obtain ⟨hs2, g1, g2, g3⟩ := h
  refine ⟨hs2, g1.fr hf (fun k hk => h1 k (g1.lt hk).1 (g1.lt hk).2), g2, fun j hj hj1 hj2 => ?_⟩
  obtain ⟨e1, e2, e3⟩ := g3 j hj hj1 hj2
  refine ⟨e1, e2.fr hf (fun k hk => ?_), e3⟩
  rcases (e3 k hk).1 with h | h
  · exact h2 j hj1 (by omega) k h
  · exact h1 k h (e2.lt hk).2
theorem OutOk.snoc {α : Type} {E : Elem Try.prog α} {HE : Elem Try.prog Hd} {mk : Nat → Nat → α} {w wr wr' : World} {B : Nat} {hs : List Hd} {ls : List (List α)} {vo vo' : Value} {i : Nat} {hs2 : List Hd} {x : Hd} (hB : B ≤ w.heap.size)
    (g1 : Own HE wr w.heap.size vo hs2) (g2 : hs2.length = i) (g3 : ∀ j (h : j < hs2.length) (h1 : j < hs.length) (h2 : j < ls.length), hs2[j].n = ls[j].length + 72 ∧ Own E wr B hs2[j].val (marks mk j 0 (ls[j].length + 72)) ∧ ∀ k, hs2[j].val.ownBlock = some k → (hs[j].val.ownBlock = some k ∨ w.heap.size ≤ k) ∧ vo.ownBlock ≠ some k)
    (hi : i < ls.length) (hi1 : i < hs.length) (hn : x.n = ls[i].length + 72) (hx : Own E wr B x.val (marks mk i 0 (ls[i].length + 72))) (hxb : ∀ k, x.val.ownBlock = some k → (hs[i].val.ownBlock = some k ∨ w.heap.size ≤ k) ∧ vo.ownBlock ≠ some k)
    (ho : Own HE wr' w.heap.size vo' (hs2 ++ [x])) (hg : wr.grownBy wr' vo.ownBlock) (hf : Fresh wr vo vo') : OutOk E HE mk w wr' B hs ls vo' (i + 1) := by
  have hfr : Fr (fun k => vo.ownBlock = some k) wr wr' := (Fr.refl _ _).grown hg (fun k hk _ => hk)
  have hne : ∀ (y : Value) l, Own E wr B y l → (∀ k, y.ownBlock = some k → vo.ownBlock ≠ some k) → ∀ k, y.ownBlock = some k → vo'.ownBlock ≠ some k := fun y l hy h k hk e => by
    rcases hf k e with h5 | h5
    · exact h k hk h5
    · have := (hy.lt hk).2; omega
  refine ⟨hs2 ++ [x], ho, by simp [g2], fun j hj hj1 hj2 => ?_⟩
  rcases snoc_get hs2 x j hj with ⟨h5, h6⟩ | ⟨h5, h6⟩
  · rw [h6]
    obtain ⟨e1, e2, e3⟩ := g3 j h5 hj1 hj2
    exact ⟨e1, e2.fr hfr (fun k hk => (e3 k hk).2), fun k hk => ⟨(e3 k hk).1, hne _ _ e2 (fun k hk => (e3 k hk).2) k hk⟩⟩
  · rw [h6]
    have : j = i := by omega
    subst this
    exact ⟨hn, hx.fr hfr (fun k hk => (hxb k hk).2), fun k hk => ⟨(hxb k hk).1, hne _ _ hx (fun k hk => (hxb k hk).2) k hk⟩⟩
set_option maxRecDepth 100000 in
set_option maxHeartbeats 3200000 in
theorem growInts_any (w : World) (p B : Nat) (X : Nat → Prop) (v : Value) (hs : List Hd) (ls : List (List Int)) (q0 : w.cell? ⟨p, 0, none⟩ = some v) (hp : ¬ X p) (hX : ∀ k, X k → k < w.heap.size) (hB : B ≤ w.heap.size) (hF : Fam intE intsE w B X v hs ls)
    (hn : ls.length ≤ 1000) (hl : ∀ l ∈ ls, l.length ≤ 100000) (hM : ∀ i (h : i < ls.length), ls[i] = marks mkInts i 0 ls[i].length) :
    Calls Try.prog 100 #[.pointer (some ⟨p, 0, none⟩)] w fun e w' => ∃ vo, e = .returned vo ∧ OutOk intE intsE mkInts w w' B hs ls vo ls.length ∧ Fam intE intsE w' B X v hs ls ∧ Fr X w w' := by
  obtain ⟨a, c, rfl⟩ := hF.slice
  have HF := Lib.hid hF; clear hF
  have HL := Lib.hid hl; clear hl
  have HX := Lib.hid hX; clear hX
  have HP := Lib.hid hp; clear hp
  have HM := Lib.hid hM; clear hM
  go_enter Try.func100, Try.ntmps100
  go_wp2_with fail
  go_loopw [3, 4] (fun vo s4 wr => ∃ i : Nat, i ≤ ls.length ∧ s4 = .int .i64 i ∧ OutOk intE intsE mkInts w wr B hs ls vo i ∧ Fam intE intsE wr B X (.slice a ls.length c) hs ls ∧ Fr X w wr) (fun _ s4 _ => ls.length - (intOf s4).toNat)
  case atStart => exact ⟨0, Nat.zero_le _, rfl, ⟨[], Own.nil _ _ _, rfl, fun j hj _ _ => (by cases hj)⟩, HF.out, Fr.refl _ _⟩
  case round =>
    obtain ⟨i, hi, rfl, hout, hf, hfr⟩ := hrel
    have r0 := hfr.cell q0 HP.out
    by_cases hlt : i < ls.length
    · obtain ⟨g, c2, he, hXg, hj, hc, ho⟩ := hf.head rfl (fun _ => rfl) i hlt
      injection he with e1 e2 e3
      subst e1 e3
      have hlk := HL.out _ (List.getElem_mem hlt)
      have hm := HM.out i hlt
      have hmem := hf.mem i hj
      have hgs : GS intE wr B hs[i].val ls[i] hs[i].val (marks mkInts i 0 (ls[i].length + 0)) := by
        rw [Nat.add_zero, ← hm]; exact GS.init ho
      obtain ⟨x, y, hxv⟩ : ∃ x y, hs[i].val = .slice x ls[i].length y := by
        obtain ⟨x, y, hx, _⟩ := own_elems ho
        exact ⟨x, y, hx⟩
      have mk : ∀ W f d, 1 ≤ d → d ≤ 60 → f ≤ 200000 → Calls Try.prog 154 #[.int .i64 i, .int .i64 (f : Nat), .int .i64 (d : Nat)] W fun e w' => ∃ g c, e = .returned (.slice (some ⟨g, 0, none⟩) (marks mkInts i f d).length c) ∧ CellsAt w' g 0 ((marks mkInts i f d).flatMap (intE).enc) ∧ Below W.heap.size W w' := fun W f d h1 h2 h3 =>
        (markInts_any i f d W (by omega) (by omega) (by omega)).mono (by
          rintro e w' ⟨v, rfl, ho, hb⟩
          obtain ⟨g, c, rfl, _, _, hcs⟩ := ho.cells (by rw [marks_len]; exact h1)
          exact ⟨g, c, rfl, hcs, hb⟩)
      have hub := fun (n : Nat) (h : n = ls[i].length) => hlk
      obtain ⟨hd, hhd⟩ : ∃ hd, hd = hs[i].val := ⟨_, rfl⟩
      rw [← hhd] at hc hgs hxv hmem
      rw [hxv] at hc
      have hsz0 := hfr.size
      obtain ⟨N1, hn1⟩ : ∃ N1, N1 = wr.heap.size := ⟨_, rfl⟩
      have hvo := fun k hk => (hout.choose_spec.1.lt (k := k) hk).2
      rw [← hn1] at hvo hsz0
      have hg1 := hf
      have hr1 := hfr
      generalize hl0 : ls[i] = l0 at *
      generalize hn0 : l0.length = n0 at *
      have hmk1 := mk
      clear hf hfr hm hub ho mk
      have HMK1 := Lib.hid hmk1; clear hmk1
      have HG1 := Lib.hid hg1; clear hg1
      have HR1 := Lib.hid hr1; clear hr1
      have HGS := Lib.hid hgs; clear hgs
      have HHD := Lib.hid hhd; clear hhd
      have HXV := Lib.hid hxv; clear hxv
      have HOUT := Lib.hid hout; clear hout
      have HMEM := Lib.hid hmem; clear hmem
      have HL0 := Lib.hid hl0; clear hl0
      have HN0 := Lib.hid hn0; clear hn0
      have HN1 := Lib.hid hn1; clear hn1
      have HVO := Lib.hid hvo; clear hvo
      go_wp2_with fail
      rw [← HXV.out]
      go_loopw [5, 6] (fun vl s6 wk => ∃ t : Nat, t ≤ 12 ∧ s6 = .int .i64 t ∧ GS intE wk B hd l0 vl (marks mkInts i 0 (n0 + t)) ∧ (∀ k, vl.ownBlock = some k → hd.ownBlock = some k ∨ N1 ≤ k) ∧ Fr (fun k => hd.ownBlock = some k) wr wk) (fun _ s6 _ => 12 - (intOf s6).toNat)
      case atStart => exact ⟨0, by omega, rfl, HGS.out, fun k hk => .inl hk, Fr.refl _ _⟩
      case round =>
        obtain ⟨t, ht, rfl, hgs2, hvb, hfk⟩ := hrel
        obtain ⟨L, hL⟩ : ∃ L, L = marks mkInts i 0 (n0 + t) := ⟨_, rfl⟩
        have hq : L.length = n0 + t := by rw [hL, marks_len]
        have hLb : L.length ≤ 200000 := by omega
        rw [← hL] at hgs2
        obtain ⟨x1, y1, hv1⟩ : ∃ x1 y1, _ = Value.slice x1 L.length y1 := by
          obtain ⟨x, y, hx, _⟩ := own_elems hgs2.cur
          exact ⟨x, y, hx⟩
        subst hv1
        by_cases hlt12 : t < 12
        · have hmk := fun W => HMK1.out W L.length 1 (by omega) (by omega) (by omega)
          rw [show ((1 : Nat) : Int) = 1 from rfl] at hmk
          obtain ⟨M, hMe⟩ : ∃ M, M = marks mkInts i L.length 1 := ⟨_, rfl⟩
          have hMl : M.length = 1 := by rw [hMe, marks_len]
          rw [← hMe] at hmk
          have hLM : L ++ M = marks mkInts i 0 (n0 + (t + 1)) := by rw [hMe, hL, marks_len, ← Nat.add_assoc, marks_add mkInts i (n0 + t) 1]
          have HMK := Lib.hid hmk; clear hmk
          have HGS2 := Lib.hid hgs2; clear hgs2
          have HVB := Lib.hid hvb; clear hvb
          have HFK := Lib.hid hfk; clear hfk
          have HME := Lib.hid hMe; clear hMe
          have HL := Lib.hid hL; clear hL
          have HLM := Lib.hid hLM; clear hLM
          have HML := Lib.hid hMl; clear hMl
          have HQ := Lib.hid hq; clear hq
          go_wp2_with fail
          refine (HMK.out _).mono ?_
          rintro e W ⟨g1, c1, rfl, hcs, hb⟩
          have hgs3 := HGS2.out.below hb
          have HB' := Lib.hid hb; clear hb
          have HGS3 := Lib.hid hgs3; clear hgs3
          have HCS := Lib.hid hcs; clear hcs
          go_wp2_with (at_builtin; refine append_keep intE rfl (.tmp 27) (.tmp 31) rfl B L M _ rfl HGS3.out.cur g1 0 c1 rfl HCS.out ?c1 ?c2 ?_)
          case c1 => rw [HML.out]; omega
          case c2 => have := HN1.out; have := HFK.out.size; have := HB'.out.size; omega
          intro v4 w4 h1 h2 h3 h4
          have hgs4 := HGS3.out.step h1 h2 h3 h4
          have hfr4 : Fr (fun k => hd.ownBlock = some k) _ w4 := (HFK.out.trans (Fr.of_below HB'.out (fun _ => False)) (fun _ _ h => h.elim)).grown h2 (fun k hk hlt => by
            rcases HVB.out k hk with h | h
            · exact h
            · have := HN1.out; omega)
          have hvb4 : ∀ k, v4.ownBlock = some k → hd.ownBlock = some k ∨ N1 ≤ k := fun k hk => by
            rcases h3 k hk with h | h
            · exact HVB.out k h
            · exact .inr (by have := HN1.out; have := HFK.out.size; have := HB'.out.size; omega)
          rw [HLM.out] at hgs4
          clear h1 h2 h3 h4
          have HGS4 := Lib.hid hgs4; clear hgs4
          have HFR4 := Lib.hid hfr4; clear hfr4
          have HVB4 := Lib.hid hvb4; clear hvb4
          go_wp2_with fail
          go_roundw
          case rel => exact ⟨t + 1, by omega, by go_num, HGS4.out, HVB4.out, HFR4.out⟩
          case measure => simp [intOf]; omega
        · have ht2 : t = 12 := by omega
          subst ht2
          have hmk := fun W => HMK1.out W L.length 60 (by omega) (by omega) (by omega)
          rw [show ((60 : Nat) : Int) = 60 from rfl] at hmk
          obtain ⟨M, hMe⟩ : ∃ M, M = marks mkInts i L.length 60 := ⟨_, rfl⟩
          have hMl : M.length = 60 := by rw [hMe, marks_len]
          rw [← hMe] at hmk
          have hLM : L ++ M = marks mkInts i 0 (n0 + 72) := by rw [hMe, hL, marks_len, show n0 + 72 = (n0 + 12) + 60 from rfl, marks_add mkInts i (n0 + 12) 60]
          have hll : (L ++ M).length = n0 + 72 := by rw [List.length_append]; omega
          have HMK := Lib.hid hmk; clear hmk
          have HGS2 := Lib.hid hgs2; clear hgs2
          have HVB := Lib.hid hvb; clear hvb
          have HFK := Lib.hid hfk; clear hfk
          have HME := Lib.hid hMe; clear hMe
          have HL := Lib.hid hL; clear hL
          have HLM := Lib.hid hLM; clear hLM
          have HML := Lib.hid hMl; clear hMl
          have HLL := Lib.hid hll; clear hll
          have HQ := Lib.hid hq; clear hq
          go_wp2_with fail
          refine (HMK.out _).mono ?_
          rintro e W ⟨g1, c1, rfl, hcs, hb⟩
          have hgs3 := HGS2.out.below hb
          have HB' := Lib.hid hb; clear hb
          have HGS3 := Lib.hid hgs3; clear hgs3
          have HCS := Lib.hid hcs; clear hcs
          go_wp2_with (at_builtin; refine append_keep intE rfl (.tmp 34) (.tmp 38) rfl B L M _ rfl HGS3.out.cur g1 0 c1 rfl HCS.out ?c1 ?c2 ?_)
          case c1 => rw [HML.out]; omega
          case c2 => have := HN1.out; have := HFK.out.size; have := HB'.out.size; omega
          intro v4 w4 h1 h2 h3 h4
          have hgs4 := HGS3.out.step h1 h2 h3 h4
          have hfr4 : Fr (fun k => hd.ownBlock = some k) _ w4 := (HFK.out.trans (Fr.of_below HB'.out (fun _ => False)) (fun _ _ h => h.elim)).grown h2 (fun k hk hlt => by
            rcases HVB.out k hk with h | h
            · exact h
            · have := HN1.out; omega)
          have hvb4 : ∀ k, v4.ownBlock = some k → hd.ownBlock = some k ∨ N1 ≤ k := fun k hk => by
            rcases h3 k hk with h | h
            · exact HVB.out k h
            · exact .inr (by have := HN1.out; have := HFK.out.size; have := HB'.out.size; omega)
          obtain ⟨x4, y4, hv4⟩ : ∃ x4 y4, v4 = Value.slice x4 (L ++ M).length y4 := by
            obtain ⟨x, y, hx, _⟩ := own_elems hgs4.cur
            exact ⟨x, y, hx⟩
          subst hv4
          rw [HLL.out] at hgs4 hvb4 ⊢
          rw [HLM.out] at hgs4
          clear h1 h2 h3 h4
          have hdb : ∀ k, hd.ownBlock = some k → k < w.heap.size := fun k hk => HX.out k (HMEM.out k hk).1
          have hout4 := HOUT.out.fr (by omega) HG1.out.len hfr4 (fun k hk _ h => by have := hdb k h; omega) (fun j hj1 hj2 k hk h => by
            have := HG1.out.apart j i hj1 hj (by omega) k hk
            rw [← HHD.out] at this
            exact this h)
          have hout5 := hout4.fr (by omega) HG1.out.len ((Fr.refl (fun _ => False) _).alloc (.cells #[.slice x4 (n0 + 72) y4] 63)) (fun _ _ _ h => h) (fun _ _ _ _ _ h => h)
          have hf4 : Fam intE intsE w4 B X (.slice (some ⟨g, 0, none⟩) ls.length c) hs ls := by
            have h := HG1.out.upd i hj l0 (by rw [← HHD.out]; exact hfr4) (by rw [← HHD.out]; exact hgs4.old)
            rw [← HL0.out, List.set_getElem_self] at h
            exact h
          have hall : Fr X w w4 := HR1.out.trans hfr4 (fun k _ h => (HMEM.out k h).1)
          obtain ⟨hs2, o1, o2, o3⟩ := hout5
          have O1 := Lib.hid o1; clear o1
          have O2 := Lib.hid o2; clear o2
          have O3 := Lib.hid o3; clear o3
          have HGS4 := Lib.hid hgs4; clear hgs4
          have HF4 := Lib.hid hf4; clear hf4
          have HALL := Lib.hid hall; clear hall
          have HDB := Lib.hid hdb; clear hdb
          have HVB4 := Lib.hid hvb4; clear hvb4
          have HFR4 := Lib.hid hfr4; clear hfr4
          clear hout4
          go_wp2_with (at_builtin; refine append_fresh intsE rfl (.tmp 33) (.tmp 40) rfl w.heap.size hs2 [⟨x4, n0 + 72, y4⟩] _ rfl O1.out w4.heap.size 0 1 rfl (CellsAt.new _ _ _ _) ?d1 ?d2 ?_)
          case d1 => rw [O2.out]; show i + 1 ≤ 100000000; omega
          case d2 => have := HALL.out.size; simp; omega
          intro v6 w6 g1 g2 g3
          have hfr6 : Fr (fun k => w.heap.size ≤ k) w4 w6 := ((Fr.refl _ _).alloc _).grown g2 (fun k hk _ => (O1.out.lt hk).1)
          have hnew := OutOk.snoc (B := B) (E := intE) (mk := mkInts) (hs := hs) (ls := ls) hB O1.out O2.out O3.out hlt hj (x := ⟨x4, n0 + 72, y4⟩) (by rw [HL0.out, HN0.out]) (by rw [HL0.out, HN0.out]; exact Own.alloc HGS4.out.cur _) (fun k hk => ⟨by
            rcases HVB4.out k hk with h | h
            · rw [← HHD.out]; exact .inl h
            · exact .inr (by omega), fun e => by
            have h1 := O1.out.lt e
            have h2 := HVO.out k e
            rcases HVB4.out k hk with h | h
            · have := HDB.out k h; omega
            · omega⟩) g1 g2 g3
          have HNEW := Lib.hid hnew; clear hnew
          have HFR6 := Lib.hid hfr6; clear hfr6
          clear g1 g2 g3
          go_wp2_with fail
          go_roundw
          case rel => exact ⟨i + 1, by omega, by go_num, HNEW.out, HF4.out.fr HFR6.out (fun k hk h => by have := HX.out k hk; omega), HALL.out.trans HFR6.out (fun k hk h => by omega)⟩
          case measure => simp [intOf]; omega
    · have hi2 : i = ls.length := by omega
      subst hi2
      have hP : ∀ v', OutOk intE intsE mkInts w wr B hs ls v' ls.length → ∃ vo, Ending.returned v' = .returned vo ∧ OutOk intE intsE mkInts w wr B hs ls vo ls.length ∧ Fam intE intsE wr B X (.slice a ls.length c) hs ls ∧ Fr X w wr := fun v' h => ⟨v', rfl, h, hf, hfr⟩
      have HP2 := Lib.hid (hP _ hout)
      clear hP hout hf hfr
      go_wp2_with fail
      go_ret
      exact HP2.out
set_option maxRecDepth 100000 in
set_option maxHeartbeats 3200000 in
theorem growInstrs_any (w : World) (p B : Nat) (X : Nat → Prop) (v : Value) (hs : List Hd) (ls : List (List Ins)) (q0 : w.cell? ⟨p, 2, none⟩ = some v) (hp : ¬ X p) (hX : ∀ k, X k → k < w.heap.size) (hB : B ≤ w.heap.size) (hF : Fam insE inssE w B X v hs ls)
    (hn : ls.length ≤ 1000) (hl : ∀ l ∈ ls, l.length ≤ 100000) (hM : ∀ i (h : i < ls.length), ls[i] = marks mkInstrs i 0 ls[i].length) :
    Calls Try.prog 101 #[.pointer (some ⟨p, 0, none⟩)] w fun e w' => ∃ vo, e = .returned vo ∧ OutOk insE inssE mkInstrs w w' B hs ls vo ls.length ∧ Fam insE inssE w' B X v hs ls ∧ Fr X w w' := by
  obtain ⟨a, c, rfl⟩ := hF.slice
  have HF := Lib.hid hF; clear hF
  have HL := Lib.hid hl; clear hl
  have HX := Lib.hid hX; clear hX
  have HP := Lib.hid hp; clear hp
  have HM := Lib.hid hM; clear hM
  go_enter Try.func101, Try.ntmps101
  go_wp2_with fail
  go_loopw [3, 4] (fun vo s4 wr => ∃ i : Nat, i ≤ ls.length ∧ s4 = .int .i64 i ∧ OutOk insE inssE mkInstrs w wr B hs ls vo i ∧ Fam insE inssE wr B X (.slice a ls.length c) hs ls ∧ Fr X w wr) (fun _ s4 _ => ls.length - (intOf s4).toNat)
  case atStart => exact ⟨0, Nat.zero_le _, rfl, ⟨[], Own.nil _ _ _, rfl, fun j hj _ _ => (by cases hj)⟩, HF.out, Fr.refl _ _⟩
  case round =>
    obtain ⟨i, hi, rfl, hout, hf, hfr⟩ := hrel
    have r0 := hfr.cell q0 HP.out
    by_cases hlt : i < ls.length
    · obtain ⟨g, c2, he, hXg, hj, hc, ho⟩ := hf.head rfl (fun _ => rfl) i hlt
      injection he with e1 e2 e3
      subst e1 e3
      have hlk := HL.out _ (List.getElem_mem hlt)
      have hm := HM.out i hlt
      have hmem := hf.mem i hj
      have hgs : GS insE wr B hs[i].val ls[i] hs[i].val (marks mkInstrs i 0 (ls[i].length + 0)) := by
        rw [Nat.add_zero, ← hm]; exact GS.init ho
      obtain ⟨x, y, hxv⟩ : ∃ x y, hs[i].val = .slice x ls[i].length y := by
        obtain ⟨x, y, hx, _⟩ := own_elems ho
        exact ⟨x, y, hx⟩
      have mk : ∀ W f d, 1 ≤ d → d ≤ 60 → f ≤ 200000 → Calls Try.prog 155 #[.int .i64 i, .int .i64 (f : Nat), .int .i64 (d : Nat)] W fun e w' => ∃ g c, e = .returned (.slice (some ⟨g, 0, none⟩) (marks mkInstrs i f d).length c) ∧ CellsAt w' g 0 ((marks mkInstrs i f d).flatMap (insE).enc) ∧ Below W.heap.size W w' := fun W f d h1 h2 h3 =>
        (markInstrs_any i f d W (by omega) (by omega) (by omega)).mono (by
          rintro e w' ⟨v, rfl, ho, hb⟩
          obtain ⟨g, c, rfl, _, _, hcs⟩ := ho.cells (by rw [marks_len]; exact h1)
          exact ⟨g, c, rfl, hcs, hb⟩)
      have hub := fun (n : Nat) (h : n = ls[i].length) => hlk
      obtain ⟨hd, hhd⟩ : ∃ hd, hd = hs[i].val := ⟨_, rfl⟩
      rw [← hhd] at hc hgs hxv hmem
      rw [hxv] at hc
      have hsz0 := hfr.size
      obtain ⟨N1, hn1⟩ : ∃ N1, N1 = wr.heap.size := ⟨_, rfl⟩
      have hvo := fun k hk => (hout.choose_spec.1.lt (k := k) hk).2
      rw [← hn1] at hvo hsz0
      have hg1 := hf
      have hr1 := hfr
      generalize hl0 : ls[i] = l0 at *
      generalize hn0 : l0.length = n0 at *
      have hmk1 := mk
      clear hf hfr hm hub ho mk
      have HMK1 := Lib.hid hmk1; clear hmk1
      have HG1 := Lib.hid hg1; clear hg1
      have HR1 := Lib.hid hr1; clear hr1
      have HGS := Lib.hid hgs; clear hgs
      have HHD := Lib.hid hhd; clear hhd
      have HXV := Lib.hid hxv; clear hxv
      have HOUT := Lib.hid hout; clear hout
      have HMEM := Lib.hid hmem; clear hmem
      have HL0 := Lib.hid hl0; clear hl0
      have HN0 := Lib.hid hn0; clear hn0
      have HN1 := Lib.hid hn1; clear hn1
      have HVO := Lib.hid hvo; clear hvo
      go_wp2_with fail
      rw [← HXV.out]
      go_loopw [5, 6] (fun vl s6 wk => ∃ t : Nat, t ≤ 12 ∧ s6 = .int .i64 t ∧ GS insE wk B hd l0 vl (marks mkInstrs i 0 (n0 + t)) ∧ (∀ k, vl.ownBlock = some k → hd.ownBlock = some k ∨ N1 ≤ k) ∧ Fr (fun k => hd.ownBlock = some k) wr wk) (fun _ s6 _ => 12 - (intOf s6).toNat)
      case atStart => exact ⟨0, by omega, rfl, HGS.out, fun k hk => .inl hk, Fr.refl _ _⟩
      case round =>
        obtain ⟨t, ht, rfl, hgs2, hvb, hfk⟩ := hrel
        obtain ⟨L, hL⟩ : ∃ L, L = marks mkInstrs i 0 (n0 + t) := ⟨_, rfl⟩
        have hq : L.length = n0 + t := by rw [hL, marks_len]
        have hLb : L.length ≤ 200000 := by omega
        rw [← hL] at hgs2
        obtain ⟨x1, y1, hv1⟩ : ∃ x1 y1, _ = Value.slice x1 L.length y1 := by
          obtain ⟨x, y, hx, _⟩ := own_elems hgs2.cur
          exact ⟨x, y, hx⟩
        subst hv1
        by_cases hlt12 : t < 12
        · have hmk := fun W => HMK1.out W L.length 1 (by omega) (by omega) (by omega)
          rw [show ((1 : Nat) : Int) = 1 from rfl] at hmk
          obtain ⟨M, hMe⟩ : ∃ M, M = marks mkInstrs i L.length 1 := ⟨_, rfl⟩
          have hMl : M.length = 1 := by rw [hMe, marks_len]
          rw [← hMe] at hmk
          have hLM : L ++ M = marks mkInstrs i 0 (n0 + (t + 1)) := by rw [hMe, hL, marks_len, ← Nat.add_assoc, marks_add mkInstrs i (n0 + t) 1]
          have HMK := Lib.hid hmk; clear hmk
          have HGS2 := Lib.hid hgs2; clear hgs2
          have HVB := Lib.hid hvb; clear hvb
          have HFK := Lib.hid hfk; clear hfk
          have HME := Lib.hid hMe; clear hMe
          have HL := Lib.hid hL; clear hL
          have HLM := Lib.hid hLM; clear hLM
          have HML := Lib.hid hMl; clear hMl
          have HQ := Lib.hid hq; clear hq
          go_wp2_with fail
          refine (HMK.out _).mono ?_
          rintro e W ⟨g1, c1, rfl, hcs, hb⟩
          have hgs3 := HGS2.out.below hb
          have HB' := Lib.hid hb; clear hb
          have HGS3 := Lib.hid hgs3; clear hgs3
          have HCS := Lib.hid hcs; clear hcs
          go_wp2_with (at_builtin; refine append_keep insE rfl (.tmp 27) (.tmp 31) rfl B L M _ rfl HGS3.out.cur g1 0 c1 rfl HCS.out ?c1 ?c2 ?_)
          case c1 => rw [HML.out]; omega
          case c2 => have := HN1.out; have := HFK.out.size; have := HB'.out.size; omega
          intro v4 w4 h1 h2 h3 h4
          have hgs4 := HGS3.out.step h1 h2 h3 h4
          have hfr4 : Fr (fun k => hd.ownBlock = some k) _ w4 := (HFK.out.trans (Fr.of_below HB'.out (fun _ => False)) (fun _ _ h => h.elim)).grown h2 (fun k hk hlt => by
            rcases HVB.out k hk with h | h
            · exact h
            · have := HN1.out; omega)
          have hvb4 : ∀ k, v4.ownBlock = some k → hd.ownBlock = some k ∨ N1 ≤ k := fun k hk => by
            rcases h3 k hk with h | h
            · exact HVB.out k h
            · exact .inr (by have := HN1.out; have := HFK.out.size; have := HB'.out.size; omega)
          rw [HLM.out] at hgs4
          clear h1 h2 h3 h4
          have HGS4 := Lib.hid hgs4; clear hgs4
          have HFR4 := Lib.hid hfr4; clear hfr4
          have HVB4 := Lib.hid hvb4; clear hvb4
          go_wp2_with fail
          go_roundw
          case rel => exact ⟨t + 1, by omega, by go_num, HGS4.out, HVB4.out, HFR4.out⟩
          case measure => simp [intOf]; omega
        · have ht2 : t = 12 := by omega
          subst ht2
          have hmk := fun W => HMK1.out W L.length 60 (by omega) (by omega) (by omega)
          rw [show ((60 : Nat) : Int) = 60 from rfl] at hmk
          obtain ⟨M, hMe⟩ : ∃ M, M = marks mkInstrs i L.length 60 := ⟨_, rfl⟩
          have hMl : M.length = 60 := by rw [hMe, marks_len]
          rw [← hMe] at hmk
          have hLM : L ++ M = marks mkInstrs i 0 (n0 + 72) := by rw [hMe, hL, marks_len, show n0 + 72 = (n0 + 12) + 60 from rfl, marks_add mkInstrs i (n0 + 12) 60]
          have hll : (L ++ M).length = n0 + 72 := by rw [List.length_append]; omega
          have HMK := Lib.hid hmk; clear hmk
          have HGS2 := Lib.hid hgs2; clear hgs2
          have HVB := Lib.hid hvb; clear hvb
          have HFK := Lib.hid hfk; clear hfk
          have HME := Lib.hid hMe; clear hMe
          have HL := Lib.hid hL; clear hL
          have HLM := Lib.hid hLM; clear hLM
          have HML := Lib.hid hMl; clear hMl
          have HLL := Lib.hid hll; clear hll
          have HQ := Lib.hid hq; clear hq
          go_wp2_with fail
          refine (HMK.out _).mono ?_
          rintro e W ⟨g1, c1, rfl, hcs, hb⟩
          have hgs3 := HGS2.out.below hb
          have HB' := Lib.hid hb; clear hb
          have HGS3 := Lib.hid hgs3; clear hgs3
          have HCS := Lib.hid hcs; clear hcs
          go_wp2_with (at_builtin; refine append_keep insE rfl (.tmp 34) (.tmp 38) rfl B L M _ rfl HGS3.out.cur g1 0 c1 rfl HCS.out ?c1 ?c2 ?_)
          case c1 => rw [HML.out]; omega
          case c2 => have := HN1.out; have := HFK.out.size; have := HB'.out.size; omega
          intro v4 w4 h1 h2 h3 h4
          have hgs4 := HGS3.out.step h1 h2 h3 h4
          have hfr4 : Fr (fun k => hd.ownBlock = some k) _ w4 := (HFK.out.trans (Fr.of_below HB'.out (fun _ => False)) (fun _ _ h => h.elim)).grown h2 (fun k hk hlt => by
            rcases HVB.out k hk with h | h
            · exact h
            · have := HN1.out; omega)
          have hvb4 : ∀ k, v4.ownBlock = some k → hd.ownBlock = some k ∨ N1 ≤ k := fun k hk => by
            rcases h3 k hk with h | h
            · exact HVB.out k h
            · exact .inr (by have := HN1.out; have := HFK.out.size; have := HB'.out.size; omega)
          obtain ⟨x4, y4, hv4⟩ : ∃ x4 y4, v4 = Value.slice x4 (L ++ M).length y4 := by
            obtain ⟨x, y, hx, _⟩ := own_elems hgs4.cur
            exact ⟨x, y, hx⟩
          subst hv4
          rw [HLL.out] at hgs4 hvb4 ⊢
          rw [HLM.out] at hgs4
          clear h1 h2 h3 h4
          have hdb : ∀ k, hd.ownBlock = some k → k < w.heap.size := fun k hk => HX.out k (HMEM.out k hk).1
          have hout4 := HOUT.out.fr (by omega) HG1.out.len hfr4 (fun k hk _ h => by have := hdb k h; omega) (fun j hj1 hj2 k hk h => by
            have := HG1.out.apart j i hj1 hj (by omega) k hk
            rw [← HHD.out] at this
            exact this h)
          have hout5 := hout4.fr (by omega) HG1.out.len ((Fr.refl (fun _ => False) _).alloc (.cells #[.slice x4 (n0 + 72) y4] 35)) (fun _ _ _ h => h) (fun _ _ _ _ _ h => h)
          have hf4 : Fam insE inssE w4 B X (.slice (some ⟨g, 0, none⟩) ls.length c) hs ls := by
            have h := HG1.out.upd i hj l0 (by rw [← HHD.out]; exact hfr4) (by rw [← HHD.out]; exact hgs4.old)
            rw [← HL0.out, List.set_getElem_self] at h
            exact h
          have hall : Fr X w w4 := HR1.out.trans hfr4 (fun k _ h => (HMEM.out k h).1)
          obtain ⟨hs2, o1, o2, o3⟩ := hout5
          have O1 := Lib.hid o1; clear o1
          have O2 := Lib.hid o2; clear o2
          have O3 := Lib.hid o3; clear o3
          have HGS4 := Lib.hid hgs4; clear hgs4
          have HF4 := Lib.hid hf4; clear hf4
          have HALL := Lib.hid hall; clear hall
          have HDB := Lib.hid hdb; clear hdb
          have HVB4 := Lib.hid hvb4; clear hvb4
          have HFR4 := Lib.hid hfr4; clear hfr4
          clear hout4
          go_wp2_with (at_builtin; refine append_fresh inssE rfl (.tmp 33) (.tmp 40) rfl w.heap.size hs2 [⟨x4, n0 + 72, y4⟩] _ rfl O1.out w4.heap.size 0 1 rfl (CellsAt.new _ _ _ _) ?d1 ?d2 ?_)
          case d1 => rw [O2.out]; show i + 1 ≤ 100000000; omega
          case d2 => have := HALL.out.size; simp; omega
          intro v6 w6 g1 g2 g3
          have hfr6 : Fr (fun k => w.heap.size ≤ k) w4 w6 := ((Fr.refl _ _).alloc _).grown g2 (fun k hk _ => (O1.out.lt hk).1)
          have hnew := OutOk.snoc (B := B) (E := insE) (mk := mkInstrs) (hs := hs) (ls := ls) hB O1.out O2.out O3.out hlt hj (x := ⟨x4, n0 + 72, y4⟩) (by rw [HL0.out, HN0.out]) (by rw [HL0.out, HN0.out]; exact Own.alloc HGS4.out.cur _) (fun k hk => ⟨by
            rcases HVB4.out k hk with h | h
            · rw [← HHD.out]; exact .inl h
            · exact .inr (by omega), fun e => by
            have h1 := O1.out.lt e
            have h2 := HVO.out k e
            rcases HVB4.out k hk with h | h
            · have := HDB.out k h; omega
            · omega⟩) g1 g2 g3
          have HNEW := Lib.hid hnew; clear hnew
          have HFR6 := Lib.hid hfr6; clear hfr6
          clear g1 g2 g3
          go_wp2_with fail
          go_roundw
          case rel => exact ⟨i + 1, by omega, by go_num, HNEW.out, HF4.out.fr HFR6.out (fun k hk h => by have := HX.out k hk; omega), HALL.out.trans HFR6.out (fun k hk h => by omega)⟩
          case measure => simp [intOf]; omega
    · have hi2 : i = ls.length := by omega
      subst hi2
      have hP : ∀ v', OutOk insE inssE mkInstrs w wr B hs ls v' ls.length → ∃ vo, Ending.returned v' = .returned vo ∧ OutOk insE inssE mkInstrs w wr B hs ls vo ls.length ∧ Fam insE inssE wr B X (.slice a ls.length c) hs ls ∧ Fr X w wr := fun v' h => ⟨v', rfl, h, hf, hfr⟩
      have HP2 := Lib.hid (hP _ hout)
      clear hP hout hf hfr
      go_wp2_with fail
      go_ret
      exact HP2.out
end Go.Proofs.Ytmmdppjbofbjhaa
