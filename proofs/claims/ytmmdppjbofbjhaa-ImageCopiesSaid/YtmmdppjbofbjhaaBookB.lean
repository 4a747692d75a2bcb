/- Walks: the book's lists are marked, and grown. -/
import Derived.Test.YtmmdppjbofbjhaaBookA
import Derived.Deep.RegionHeld3
namespace Go.Proofs.Ytmmdppjbofbjhaa
open Go.ChangeShapes Go.WideShapes Go.ChangeAt Go.RowKit

/-- heads of lists that are read, as they lie: each is marked -/
def Marked {α : Type} (S : World → (Nat → Prop) → Option Addr → List α → Prop) (mk : Nat → Nat → α) (w : World) (D : Nat → Prop) (v : Value) (ns : List Nat) : Prop :=
  ∃ a c, v = .slice a ns.length c ∧ ∀ j (hj : j < ns.length), ∃ b o, a = some ⟨b, o, none⟩ ∧ D b ∧ ∃ x y, w.cell? ⟨b, o + j, none⟩ = some (.slice x ns[j] y) ∧ S w D x (marks mk j 0 ns[j])
set_option maxRecDepth 100000 in
set_option maxHeartbeats 3200000 in
theorem markedInts_any (w : World) (D : Nat → Prop) (v : Value) (ns : List Nat) (hM : Marked IntSl mkInts w D v ns) (hn : ns.length ≤ 1000) (hl : ∀ n ∈ ns, n ≤ 200000) :
    Calls Try.prog 105 #[v] w fun e w' => e = .returned (.bool true) ∧ Below w.heap.size w w' := by
  obtain ⟨a, c, rfl, hM⟩ := hM
  have HM := Lib.hid hM; clear hM
  have HL := Lib.hid hl; clear hl
  go_enter Try.func105, Try.ntmps105
  go_wp2_with fail
  go_loopw [3] (fun i wr => ∃ k : Nat, k ≤ ns.length ∧ i = .int .i64 k ∧ Below w.heap.size w wr) (fun i _ => ns.length - (intOf i).toNat)
  case atStart => exact ⟨0, Nat.zero_le _, rfl, Below.refl _ _⟩
  case round =>
    obtain ⟨k, hk, rfl, hB⟩ := hrel
    by_cases hlt : k < ns.length
    · obtain ⟨b, o, rfl, _, x, y, hc, hsl⟩ := HM.out k hlt
      have hc := below_cell hB hc
      have hlk := HL.out _ (List.getElem_mem hlt)
      generalize ns[k] = n at *
      have mk : ∀ W, Calls Try.prog 154 #[.int .i64 k, .int .i64 0, .int .i64 n] W fun e w' => ∃ x2 y2 D2, e = .returned (.slice x2 n y2) ∧ IntSl w' D2 x2 (marks mkInts k 0 n) ∧ Below W.heap.size W w' := fun W =>
        (markInts_any k 0 n W (by omega) (by omega) (by omega)).mono (by
          rintro e w' ⟨v, rfl, ho, hb⟩
          obtain ⟨x2, y2, rfl, hs⟩ := own_int ho
          exact ⟨x2, y2, _, by rw [marks_len], hs, hb⟩)
      have sm := fun (W : World) (hb : Below wr.heap.size wr W) (D' : Nat → Prop) x' y' (hs' : IntSl W D' x' (marks mkInts k 0 n)) => sameInts_any W D D' x x' (marks mkInts k 0 n) (marks mkInts k 0 n) y y' (hsl.fr ((Fr.of_below hB (fun _ => False)).trans (Fr.of_below hb (fun _ => False)) (fun _ _ h => h)) (fun _ _ h => h)) hs' (by rw [marks_len]; omega) (by rw [marks_len]; omega)
      have hml := marks_len mkInts k 0 n
      have hdd : decide (marks mkInts k 0 n = marks mkInts k 0 n) = true := by simp
      rw [hdd, hml] at sm
      clear hsl hdd
      generalize marks mkInts k 0 n = l at *
      have MK := Lib.hid mk; clear mk
      have SM := Lib.hid sm; clear sm
      have HB := Lib.hid hB; clear hB
      have HML := Lib.hid hml; clear hml
      go_wp2_with fail
      go_region_held3 (fun w' => w'.cell? ⟨b, o + k, none⟩ = some (.slice x n y)) (first | go_keep | exact kk) (first | (go_at_call 154; refine (MK.out _).mono ?_; rintro e W ⟨x2, y2, D2, rfl, hs2, hb⟩; have kk := below_cell hb (show wr.drew.cell? ⟨b, o + k, none⟩ = some (.slice x n y) from hc); have hbW := ((Below.refl wr.heap.size wr).drew).trans hb) | (go_at_call 54; refine (SM.out W hbW _ x2 y2 hs2).mono ?_; rintro e W2 ⟨rfl, n2, rfl⟩))
      have HBW := Lib.hid hbW; clear hbW
      clear hs2
      go_wp2_with fail
      go_roundw
      case rel => exact ⟨k + 1, by omega, by go_num, HB.out.trans ((below_drewN HBW.out _).mono HB.out.size)⟩
      case measure => simp [intOf]; omega
    · skip
      have HB := Lib.hid hB; clear hB
      go_wp2_with fail
      go_ret
      exact ⟨rfl, HB.out⟩
set_option maxRecDepth 100000 in
set_option maxHeartbeats 3200000 in
theorem markedInstrs_any (w : World) (D : Nat → Prop) (v : Value) (ns : List Nat) (hM : Marked InsSlD mkInstrs w D v ns) (hn : ns.length ≤ 1000) (hl : ∀ n ∈ ns, n ≤ 200000) :
    Calls Try.prog 106 #[v] w fun e w' => e = .returned (.bool true) ∧ Below w.heap.size w w' := by
  obtain ⟨a, c, rfl, hM⟩ := hM
  have HM := Lib.hid hM; clear hM
  have HL := Lib.hid hl; clear hl
  go_enter Try.func106, Try.ntmps106
  go_wp2_with fail
  go_loopw [3] (fun i wr => ∃ k : Nat, k ≤ ns.length ∧ i = .int .i64 k ∧ Below w.heap.size w wr) (fun i _ => ns.length - (intOf i).toNat)
  case atStart => exact ⟨0, Nat.zero_le _, rfl, Below.refl _ _⟩
  case round =>
    obtain ⟨k, hk, rfl, hB⟩ := hrel
    by_cases hlt : k < ns.length
    · obtain ⟨b, o, rfl, _, x, y, hc, hsl⟩ := HM.out k hlt
      have hc := below_cell hB hc
      have hlk := HL.out _ (List.getElem_mem hlt)
      generalize ns[k] = n at *
      have mk : ∀ W, Calls Try.prog 155 #[.int .i64 k, .int .i64 0, .int .i64 n] W fun e w' => ∃ x2 y2 D2, e = .returned (.slice x2 n y2) ∧ InsSlD w' D2 x2 (marks mkInstrs k 0 n) ∧ Below W.heap.size W w' := fun W =>
        (markInstrs_any k 0 n W (by omega) (by omega) (by omega)).mono (by
          rintro e w' ⟨v, rfl, ho, hb⟩
          obtain ⟨x2, y2, rfl, hs⟩ := own_insD ho
          exact ⟨x2, y2, _, by rw [marks_len], hs, hb⟩)
      have sm := fun (W : World) (hb : Below wr.heap.size wr W) (D' : Nat → Prop) x' y' (hs' : InsSlD W D' x' (marks mkInstrs k 0 n)) => sameInstrs_any W D D' x x' (marks mkInstrs k 0 n) (marks mkInstrs k 0 n) y y' (hsl.fr ((Fr.of_below hB (fun _ => False)).trans (Fr.of_below hb (fun _ => False)) (fun _ _ h => h)) (fun _ _ h => h)) hs' (by rw [marks_len]; omega) (by rw [marks_len]; omega)
      have hml := marks_len mkInstrs k 0 n
      have hdd : decide (marks mkInstrs k 0 n = marks mkInstrs k 0 n) = true := by simp
      rw [hdd, hml] at sm
      clear hsl hdd
      generalize marks mkInstrs k 0 n = l at *
      have MK := Lib.hid mk; clear mk
      have SM := Lib.hid sm; clear sm
      have HB := Lib.hid hB; clear hB
      have HML := Lib.hid hml; clear hml
      go_wp2_with fail
      go_region_held3 (fun w' => w'.cell? ⟨b, o + k, none⟩ = some (.slice x n y)) (first | go_keep | exact kk) (first | (go_at_call 155; refine (MK.out _).mono ?_; rintro e W ⟨x2, y2, D2, rfl, hs2, hb⟩; have kk := below_cell hb (show wr.drew.cell? ⟨b, o + k, none⟩ = some (.slice x n y) from hc); have hbW := ((Below.refl wr.heap.size wr).drew).trans hb) | (go_at_call 41; refine (SM.out W hbW _ x2 y2 hs2).mono ?_; rintro e W2 ⟨rfl, n2, rfl⟩))
      have HBW := Lib.hid hbW; clear hbW
      clear hs2
      go_wp2_with fail
      go_roundw
      case rel => exact ⟨k + 1, by omega, by go_num, HB.out.trans ((below_drewN HBW.out _).mono HB.out.size)⟩
      case measure => simp [intOf]; omega
    · skip
      have HB := Lib.hid hB; clear hB
      go_wp2_with fail
      go_ret
      exact ⟨rfl, HB.out⟩

/-- list j of the first i ones is marked -/
def mkd {α : Type} (mk : Nat → Nat → α) (i : Nat) (ls : List (List α)) : List (List α) := ls.mapIdx fun j l => if j < i then marks mk j 0 l.length else l
theorem mkd_len {α : Type} (mk : Nat → Nat → α) (i : Nat) (ls : List (List α)) : (mkd mk i ls).length = ls.length := by simp [mkd]
theorem mkd_get {α : Type} (mk : Nat → Nat → α) (i : Nat) (ls : List (List α)) (j : Nat) (h : j < (mkd mk i ls).length) (h' : j < ls.length) : (mkd mk i ls)[j] = if j < i then marks mk j 0 ls[j].length else ls[j] := by simp [mkd]
theorem mkd_zero {α : Type} (mk : Nat → Nat → α) (ls : List (List α)) : mkd mk 0 ls = ls := by
  apply List.ext_getElem (mkd_len _ _ _)
  intro j h1 h2
  rw [mkd_get mk 0 ls j h1 h2]; simp
theorem mkd_succ {α : Type} (mk : Nat → Nat → α) (i : Nat) (ls : List (List α)) (hi : i < ls.length) : (mkd mk i ls).set i (marks mk i 0 ls[i].length) = mkd mk (i + 1) ls := by
  apply List.ext_getElem (by simp [mkd_len])
  intro j h1 h2
  have h3 : j < ls.length := by simpa [mkd_len] using h2
  rw [mkd_get mk (i + 1) ls j h2 h3, List.getElem_set]
  by_cases hij : i = j
  · subst hij; simp
  · rw [if_neg hij, mkd_get mk i ls j (by simpa [mkd_len] using h3) h3]
    by_cases hlt : j < i
    · rw [if_pos hlt, if_pos (by omega)]
    · rw [if_neg hlt, if_neg (by omega)]
/-- a list, of which the first k are marked -/
def part {α : Type} (mk : Nat → Nat → α) (i k : Nat) (l : List α) : List α := marks mk i 0 k ++ l.drop k
theorem part_len {α : Type} (mk : Nat → Nat → α) (i k : Nat) (l : List α) (h : k ≤ l.length) : (part mk i k l).length = l.length := by simp [part, marks_len]; omega
theorem part_zero {α : Type} (mk : Nat → Nat → α) (i : Nat) (l : List α) : part mk i 0 l = l := by simp [part, marks]
theorem part_all {α : Type} (mk : Nat → Nat → α) (i : Nat) (l : List α) : part mk i l.length l = marks mk i 0 l.length := by simp [part]
theorem part_succ {α : Type} (mk : Nat → Nat → α) (i k : Nat) (l : List α) (h : k < l.length) : (part mk i k l).set k (mk i k) = part mk i (k + 1) l := by
  unfold part
  rw [marks_succ, List.set_append_right _ _ (by rw [marks_len]; exact Nat.le_refl _), marks_len, Nat.sub_self, List.append_assoc, Nat.zero_add]
  congr 1
  rw [List.drop_eq_getElem_cons h]
  rfl
/-- an element of one's own is set: a number -/
theorem set_int {w : World} {B g c : Nat} {l : List Int} (h : Own intE w B (.slice (some ⟨g, 0, none⟩) l.length c) l) (k : Nat) (hk : k < l.length) (x : Int) : Own intE (w.setCell ⟨g, k, none⟩ (.int .i64 x)) B (.slice (some ⟨g, 0, none⟩) l.length c) (l.set k x) := by
  have h1 := ownsRow_set (show w.ownsRow B intE.e intE.size _ l.length (l.flatMap intE.enc) from h) k (.int .i64 x)
  unfold Own
  rw [List.length_set]
  have e : ∀ l : List Int, l.flatMap intE.enc = l.map (Value.int .i64) := fun l => by
    induction l with
    | nil => rfl
    | cons x l ih => rw [List.flatMap_cons, ih]; rfl
  rw [e] at h1 ⊢
  rw [List.map_set]
  exact h1
theorem flat_set (l : List Ins) (k : Nat) (hk : k < l.length) (x : Ins) : ((((l.flatMap Ins.cells).set (k * 4) (.int .i64 x.op)).set (k * 4 + 1) (.int .i64 x.a)).set (k * 4 + 2) (.int .i64 x.b)).set (k * 4 + 3) (.int .i64 x.c) = (l.set k x).flatMap Ins.cells := by
  induction l generalizing k with
  | nil => cases hk
  | cons y l ih =>
    cases k with
    | zero => simp [Ins.cells]
    | succ k =>
      have h := ih k (by simpa using hk)
      simp only [List.flatMap_cons, List.set_cons_succ]
      have e : ∀ r, (k + 1) * 4 + r = (Ins.cells y).length + (k * 4 + r) := fun r => by simp [Ins.cells]; omega
      have e0 : (k + 1) * 4 = (Ins.cells y).length + k * 4 := by simp [Ins.cells]; omega
      rw [e 1, e 2, e 3, e0]
      simp only [List.set_append_right _ _ (Nat.le_add_right _ _), Nat.add_sub_cancel_left]
      rw [h]
theorem set_ins {w : World} {B g c : Nat} {l : List Ins} (h : Own insE w B (.slice (some ⟨g, 0, none⟩) l.length c) l) (k : Nat) (hk : k < l.length) (x : Ins) : Own insE ((((w.setCell ⟨g, k * 4, none⟩ (.int .i64 x.op)).setCell ⟨g, k * 4 + 1, none⟩ (.int .i64 x.a)).setCell ⟨g, k * 4 + 2, none⟩ (.int .i64 x.b)).setCell ⟨g, k * 4 + 3, none⟩ (.int .i64 x.c)) B (.slice (some ⟨g, 0, none⟩) l.length c) (l.set k x) := by
  have h1 := ownsRow_set (ownsRow_set (ownsRow_set (ownsRow_set (show w.ownsRow B insE.e insE.size _ l.length (l.flatMap insE.enc) from h) (k * 4) (.int .i64 x.op)) (k * 4 + 1) (.int .i64 x.a)) (k * 4 + 2) (.int .i64 x.b)) (k * 4 + 3) (.int .i64 x.c)
  unfold Own
  rw [List.length_set]
  have e := flat_set l k hk x
  have e2 : (l.set k x).flatMap insE.enc = (l.set k x).flatMap Ins.cells := rfl
  rw [e2, ← e]
  exact h1
end Go.Proofs.Ytmmdppjbofbjhaa
