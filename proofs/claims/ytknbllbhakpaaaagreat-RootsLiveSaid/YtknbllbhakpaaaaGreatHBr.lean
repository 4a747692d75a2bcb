/- Blocks made one behind the other. RootsRecords: the law's program and task, plainly. RootsLive: the law's program and task, plainly. Walks: the reference's Words, FrameWords, ObjectAt. -/
import Derived.Test.YtknbllbhakpaaaaGreatHAc
import Derived.Test.YtknbllbhakpaaaaGreatHAa
import Derived.Test.YtknbllbhakpaaaaGreatHAb
import Derived.Test.YtknbllbhakpaaaaGreatHBq
import Derived.Test.YtknbllbhakpaaaaGreatHBh
import Derived.Test.YtknbllbhakpaaaaGreatHAi
set_option linter.unusedVariables false
set_option linter.unusedSimpArgs false
namespace Go.Proofs.YtknbllbhakpaaaaGreat
open Go.ChangeShapes Go.WideShapes Go.ChangeAt Go.RowKit
/-- blocks made one behind the other -/
def allocs : World → List Obj → World
  | w, [] => w
  | w, o :: os => allocs (w.alloc o) os
theorem allocs_size (w : World) (os : List Obj) : (allocs w os).heap.size = w.heap.size + os.length := by
  induction os generalizing w with
  | nil => rfl
  | cons o os ih =>
    show (allocs (w.alloc o) os).heap.size = _
    rw [ih]
    simp
    omega
theorem allocs_below (w : World) (os : List Obj) : Below w.heap.size w (allocs w os) := by
  induction os generalizing w with
  | nil => exact Below.refl _ _
  | cons o os ih => exact ((Below.refl w.heap.size w).alloc (Nat.le_refl _) o).trans ((ih (w.alloc o)).mono (by simp))
theorem allocs_row (w : World) (os : List Obj) (j : Nat) {o : Obj} (h : os[j]? = some o) (g : Nat) (hg : g = w.heap.size + j) : (allocs w os).heap[g]? = some o := by
  induction os generalizing w j with
  | nil => simp at h
  | cons x os ih =>
    cases j with
    | zero =>
      simp at h
      subst h hg
      exact (Fr.of_below (allocs_below (w.alloc x) os) (fun _ => False)).heap (heap_new w x) (fun h => h)
    | succ j => exact ih (w.alloc x) j (by simpa using h) (by simp; omega)
theorem intSl_row {w : World} {b : Nat} {D : Nat → Prop} {l : List Int} {t : TypeId} (h : w.heap[b]? = some (.cells (l.map (Value.int .i64)).toArray t)) (hD : D b) : IntSl w D (some ⟨b, 0, none⟩) l := fun j hj => ⟨b, 0, rfl, hD, by rw [Nat.zero_add, (row_cell h j).1]; simp [hj]⟩
theorem insSl_row {w : World} {b : Nat} {D : Nat → Prop} {l : List Ins} {t : TypeId} (h : w.heap[b]? = some (.cells (l.flatMap Ins.cells).toArray t)) (hD : D b) : InsSlD w D (some ⟨b, 0, none⟩) l := fun j hj => by
  have q : ∀ r (hr : r < 4) u, (l[j].cells)[r]? = some u → w.cell? ⟨b, 0 + j * 4 + r, none⟩ = some u := fun r hr u hu => by
    rw [Nat.zero_add, (row_cell h (j * 4 + r)).1, List.getElem?_toArray, flat_cells l j r hj hr, hu]
  exact ⟨b, 0, rfl, hD, q 0 (by omega) _ rfl, q 1 (by omega) _ rfl, q 2 (by omega) _ rfl, q 3 (by omega) _ rfl⟩
end Go.Proofs.YtknbllbhakpaaaaGreat
namespace Go.Proofs.YtknbllbhakpaaaaGreat
open Go.ChangeShapes Go.WideShapes Go.ChangeAt Go.RowKit Go.Maps
def pRec : Prg := ⟨[], [[1]], [⟨[], 0, 0, [], [⟨27, 0, 0, 0⟩]⟩, ⟨[1, 16], 0, 2, [], [⟨22, 0, 0, 0⟩]⟩]⟩
def tRec (i : Nat) : List (Option (List Int)) := if i = 0 then [some []] else [some [1, 16]]
def sRec : SpotD := ⟨0, 0, 0, false, false, 0, false, [], []⟩
def lRec (a b c code : Int) : LifeD := ⟨0, 0, 0, [sRec], [[⟨1, [code, a]⟩, ⟨1, [code, b]⟩]], [⟨code, c, 0, false, false⟩, ⟨0, 0, 0, true, false⟩], false⟩
theorem pRec_S : progS pRec = (0, 0, 0) := by decide +kernel
theorem pRec_B : PrgB pRec ∧ PrgR pRec := by
  unfold PrgB PrgR FunB Ins.wf i64B pRec
  simp
theorem pRec_tab : TabOk pRec tRec := fun i hi => by
  have hi2 : i = 0 ∨ i = 1 := by have : i < 2 := hi; omega
  rcases hi2 with rfl | rfl
  · refine ⟨isFlow_tbl (par := [0]) (fun j hj => ?_) (by decide +kernel) (by decide +kernel), by decide +kernel⟩
    have hj : j ∈ [(⟨27, 0, 0, 0⟩ : Ins)] := hj
    simp at hj
    subst hj
    exact insOkR_of _ _ _ _ _ (by decide)
  · refine ⟨isFlow_tbl (par := [0]) (fun j hj => ?_) (by decide +kernel) (by decide +kernel), by decide +kernel⟩
    have hj : j ∈ [(⟨22, 0, 0, 0⟩ : Ins)] := hj
    simp at hj
    subst hj
    exact insOkR_of _ _ _ _ _ (by decide)
theorem pRec_small : Tk.PSmall (tOf pRec) := by
  unfold Tk.PSmall tOf pRec
  simp
theorem pRec_slots (n : Int) : 0 ≤ (funR pRec n).slots := by
  unfold funR
  split
  · cases h : pRec.funcs[n.toNat]? with
    | none => simp [fun0]
    | some f =>
      have := List.mem_of_getElem? h
      simp [pRec] at this
      rcases this with rfl | rfl <;> simp
  · simp [fun0]
theorem lRec_ok {a b c code : Int} (ha : i64B a) (hb : i64B b) (hc : i64B c) (hd : i64B code) : LifeOk pRec (lRec a b c code) := by
  unfold i64B at ha hb hc hd
  unfold LifeOk FrmOk lRec sRec pRec i64B
  simp
  omega
theorem recRec (a b c code : Int) : recW pRec (lRec a b c code) = [a, b, c, 0] := by rfl
theorem addrRec (a b c code : Int) : addrL pRec (lRec a b c code).seg (lRec a b c code).frames (lRec a b c code).frames.length = [] := by
  show addrL pRec 0 [sRec] 1 = []
  decide +kernel
theorem frsRec (C : Pl → Option (List Int)) (a b c code : Int) : frsW pRec C false (lRec a b c code).frames (lRec a b c code).frames.length = [] := by
  show frsW pRec C false [sRec] 1 = _
  rw [frsW_succ (s := sRec) rfl]
  rfl
/-- the words of the law's records -/
def RecIs (a b c : Int) (L : List Int) : Prop := Rising L ∧ ∀ x, x ∈ L ↔ (i64B x ∧ x ∈ [a, b, c, 0] ∧ x ≠ 0)
theorem scanRec {C : Pl → Option (List Int)} {a b c code : Int} {w : World} {e : Ending} {w' : World} (h : ScanPost pRec C (lRec a b c code) false w e w') : ∃ v L, e = .returned v ∧ Own intE w' w.heap.size v L ∧ RecIs a b c L ∧ Below w.heap.size w w' := by
  obtain ⟨v, L, L0, rfl, _, hm, ho, hr, hx, hb⟩ := h
  rw [addrRec] at hm
  obtain rfl := no_live hm
  rw [frsRec, recRec] at hx
  exact ⟨v, L, rfl, ho, ⟨hr, fun x => by rw [hx x]; simp [livW]⟩, hb⟩
theorem recsRec {a b c code : Int} {w : World} {e : Ending} {w' : World} (h : RecPost (recW pRec (lRec a b c code)) w e w') : ∃ v L, e = .returned v ∧ Own intE w' w.heap.size v L ∧ RecIs a b c L ∧ L.length ≤ 4 ∧ Below w.heap.size w w' := by
  rw [recRec] at h
  obtain ⟨v, L, rfl, ho, hr, hx, hl, hb⟩ := h
  exact ⟨v, L, rfl, ho, ⟨hr, hx⟩, by simpa using hl, hb⟩
theorem RecIs.eq {a b c : Int} {L M : List Int} (h : RecIs a b c L) (g : RecIs a b c M) : L = M := Rising.eq h.1 g.1 fun x => (h.2 x).trans (g.2 x).symm
theorem allM_len16 {n : Nat} {Ms : Nat → Flo} {tb : Nat → List (Option (List Int))} (hMs : ∀ i, i < n → Ms i = tblF (tb i)) (ht : ∀ i q K, i < n → tblF (tb i) q = some K → K.length ≤ 16) : ∀ x K, allM n Ms x = some K → K.length ≤ 16 := fun x K hx => by
  unfold allM at hx
  split at hx
  · next h1 =>
    split at hx
    · have h2 : x.1.1.toNat < n := by omega
      rw [hMs _ h2] at hx
      exact ht _ _ _ h2 hx
    · cases hx
  · cases hx
theorem tRec_len : ∀ i q K, i < 2 → tblF (tRec i) q = some K → K.length ≤ 16 := fun i q K hi h => by
  have hi2 : i = 0 ∨ i = 1 := by omega
  rcases hi2 with rfl | rfl <;>
  · unfold tblF tRec at h
    rcases q with _ | q
    · injection h with h; rw [← h]; simp
    · cases h
end Go.Proofs.YtknbllbhakpaaaaGreat
namespace Go.Proofs.YtknbllbhakpaaaaGreat
open Go.ChangeShapes Go.WideShapes Go.ChangeAt Go.RowKit Go.Maps
def pLiv : Prg := ⟨[], [[1, 16]], [⟨[], 0, 1, [0, 0], [⟨18, 0, 1, 0⟩, ⟨27, 0, 0, 0⟩]⟩]⟩
def tLiv (_ : Nat) : List (Option (List Int)) := [some [0], some [64]]
def sLiv (a b pc : Int) : SpotD := ⟨0, pc, 0, false, false, 0, false, [1073741829], [7, a, 8, b]⟩
def lLiv (a b pc : Int) : LifeD := ⟨0, 1073741824, 9, [sLiv a b pc], [[]], [], false⟩
theorem pLiv_S : progS pLiv = (0, 0, 0) := by decide +kernel
theorem pLiv_B : PrgB pLiv ∧ PrgR pLiv := by
  unfold PrgB PrgR FunB Ins.wf i64B pLiv
  simp
theorem pLiv_tab : TabOk pLiv tLiv := fun i hi => by
  obtain rfl : i = 0 := by have : i < 1 := hi; omega
  refine ⟨isFlow_tbl (par := [0, 0]) (fun j hj => ?_) (by decide +kernel) (by decide +kernel), by decide +kernel⟩
  have hj : j ∈ [(⟨18, 0, 1, 0⟩ : Ins), ⟨27, 0, 0, 0⟩] := hj
  simp at hj
  rcases hj with rfl | rfl <;> exact insOkR_of _ _ _ _ _ (by decide)
theorem pLiv_small : Tk.PSmall (tOf pLiv) := by
  unfold Tk.PSmall tOf pLiv
  simp
theorem pLiv_slots (n : Int) : 0 ≤ (funR pLiv n).slots := by
  unfold funR
  split
  · cases h : pLiv.funcs[n.toNat]? with
    | none => simp [fun0]
    | some f =>
      have := List.mem_of_getElem? h
      simp [pLiv] at this
      rw [this]
      simp
  · simp [fun0]
theorem tLiv_len : ∀ i q K, i < 1 → tblF (tLiv i) q = some K → K.length ≤ 16 := fun i q K hi h => by
  unfold tblF tLiv at h
  rcases q with _ | _ | q
  · injection h with h; rw [← h]; simp
  · injection h with h; rw [← h]; simp
  · cases h
theorem lLiv_ok {a b pc : Int} (ha : i64B a) (hb : i64B b) (hpc : i64B pc) : LifeOk pLiv (lLiv a b pc) := by
  unfold i64B at ha hb hpc
  unfold LifeOk FrmOk lLiv sLiv pLiv i64B
  simp
  omega
theorem recLiv (a b pc : Int) : recW pLiv (lLiv a b pc) = [] := rfl
theorem addrLiv (a b pc : Int) : addrL pLiv (lLiv a b pc).seg (lLiv a b pc).frames (lLiv a b pc).frames.length = [(1073741827, (0, 0)), (1073741829, (0, 1))] := by rfl
theorem kdsLiv {C : Pl → Option (List Int)} {q : Nat} {K : List Int} (hI : i64B 0 ∧ i64B (q : Int)) (hC : C ⟨(0, (q : Int)), hI⟩ = some K) (a b : Int) : kdsR C (sLiv a b q).fn (sLiv a b q).pc = K := by
  show kdsR C 0 (q : Int) = K
  unfold kdsR
  rw [dif_pos hI, hC]
  rfl
theorem ptrLiv {C : Pl → Option (List Int)} {a b pc : Int} {x : Int} (h : kdsR C (sLiv a b pc).fn (sLiv a b pc).pc = [x]) (hx : isPtrB x = false) : ptrS C (sLiv a b pc) = [] := by
  unfold ptrS
  rw [h]
  show selL [1073741829] (bitsP isPtrB [x] 1) 1 = []
  simp [bitsP, hx, selL]
theorem locLiv {C : Pl → Option (List Int)} {a b pc : Int} {x : Int} (h : kdsR C (sLiv a b pc).fn (sLiv a b pc).pc = [x]) : locS C (sLiv a b pc) = if isLocB x = true then [1073741829] else [] := by
  unfold locS
  rw [h]
  show selL [1073741829] (bitsP isLocB [x] 1) 1 = _
  by_cases hx : isLocB x = true
  · rw [if_pos hx]
    simp [bitsP, hx, selL]
  · rw [if_neg hx]
    simp [bitsP, hx, selL]
theorem frsLiv {C : Pl → Option (List Int)} {a b pc : Int} {x : Int} (h : kdsR C (sLiv a b pc).fn (sLiv a b pc).pc = [x]) (hx : isPtrB x = false) : frsW pLiv C false (lLiv a b pc).frames (lLiv a b pc).frames.length = [] := by
  show frsW pLiv C false [sLiv a b pc] 1 = _
  rw [frsW_succ (s := sLiv a b pc) rfl]
  unfold frmW
  rw [ptrLiv h hx]
  rfl
theorem fndLiv {C : Pl → Option (List Int)} {a b pc : Int} {x : Int} (h : kdsR C (sLiv a b pc).fn (sLiv a b pc).pc = [x]) (y : Nat × Nat) :
    Fnd C [(1073741827, (0, 0)), (1073741829, (0, 1))] (lLiv a b pc).frames (lLiv a b pc).frames.length 0 y ↔ isLocB x = true ∧ y = (0, 1) := by
  have h2 : mapOf [(1073741827, (0, 0)), (1073741829, (0, 1))] 1073741829 = some (0, 1) := by decide +kernel
  constructor
  · rintro ⟨i, s, v, hs, hm, hv⟩
    have hi : i = 0 := by
      rcases i with _ | i
      · rfl
      · exact absurd hs (by simp [lLiv])
    subst hi
    have hs : some (sLiv a b pc) = some s := hs
    injection hs with hs
    subst hs
    have hv : v ∈ locS C (sLiv a b pc) := by
      rcases hv with ⟨_, hv⟩ | ⟨h1, _⟩
      · exact hv
      · exact absurd h1 (by simp [lLiv])
    rw [locLiv h] at hv
    by_cases hx : isLocB x = true
    · rw [if_pos hx, List.mem_singleton] at hv
      subst hv
      rw [h2] at hm
      injection hm with hm
      exact ⟨hx, hm.symm⟩
    · rw [if_neg hx] at hv
      cases hv
  · rintro ⟨hx, rfl⟩
    refine ⟨0, sLiv a b pc, 1073741829, rfl, h2, .inl ⟨by simp [lLiv], ?_⟩⟩
    rw [locLiv h, if_pos hx]
    simp
theorem pl_none {L0 : List NPl} {P : Prop} (hm : ∀ y : NPl, y ∈ L0 ↔ P ∧ y.1 = ((0, 1) : Nat × Nat)) (hP : ¬ P) : L0 = [] := List.eq_nil_iff_forall_not_mem.2 fun y hy => hP ((hm y).1 hy).1
theorem pl_one {L0 : List NPl} {P : Prop} (hl : L0.Pairwise ltN) (hm : ∀ y : NPl, y ∈ L0 ↔ P ∧ y.1 = ((0, 1) : Nat × Nat)) (hP : P) : L0 = [⟨(0, 1), by decide, by decide⟩] := by
  have hy : ∀ y ∈ L0, y = ⟨(0, 1), by decide, by decide⟩ := fun y hy => Subtype.ext ((hm y).1 hy).2
  have h1 : (⟨(0, 1), by decide, by decide⟩ : NPl) ∈ L0 := (hm _).2 ⟨hP, rfl⟩
  match L0, hl, hy, h1 with
  | [], _, _, h => cases h
  | [x], _, hy, _ => rw [hy x (by simp)]
  | x :: y :: r, hl, hy, _ =>
    have h2 := (List.pairwise_cons.1 hl).1 y (by simp)
    rw [hy x (by simp), hy y (by simp)] at h2
    rcases h2 with h | ⟨_, h⟩ <;> exact absurd h (by simp)
/-- what the law's two calls answer -/
theorem scanLiv0 {C : Pl → Option (List Int)} {a b pc : Int} {x : Int} (h : kdsR C (sLiv a b pc).fn (sLiv a b pc).pc = [x]) (hx : isPtrB x = false) (hl : ¬ isLocB x = true) {w : World} {e : Ending} {w' : World} (hs : ScanPost pLiv C (lLiv a b pc) false w e w') : ∃ v c, e = .returned (.slice v 0 c) ∧ Below w.heap.size w w' := by
  obtain ⟨v, L, L0, rfl, _, hm, ho, hr, hxx, hb⟩ := hs
  rw [addrLiv] at hm
  obtain rfl := pl_none (fun y => (hm y).trans (fndLiv h y.1)) hl
  rw [frsLiv h hx, recLiv] at hxx
  obtain rfl : L = [] := List.eq_nil_iff_forall_not_mem.2 fun y hy => by
    have := ((hxx y).1 hy).2.1
    simp [livW] at this
  obtain ⟨a, c, rfl⟩ := own_nil ho
  exact ⟨a, c, rfl, hb⟩
theorem objsLiv0 {C : Pl → Option (List Int)} {a b pc : Int} {x : Int} (h : kdsR C (sLiv a b pc).fn (sLiv a b pc).pc = [x]) (hl : ¬ isLocB x = true) {w : World} {e : Ending} {w' : World} (hs : ObjsPost pLiv C (lLiv a b pc) w e w') : ∃ v c, e = .returned (.slice v 0 c) ∧ Below w.heap.size w w' := by
  obtain ⟨v, L0, rfl, _, hm, ho, hb⟩ := hs
  rw [addrLiv] at hm
  obtain rfl := pl_none (fun y => (hm y).trans (fndLiv h y.1)) hl
  obtain ⟨a, c, rfl⟩ := own_nil ho
  exact ⟨a, c, rfl, hb⟩
theorem fldLiv (a b pc : Int) : fldS pLiv (sLiv a b pc) 1 = [b] := by
  have h1 : bitsP isPtrB (shpO pLiv 0 1) (min (shpO pLiv 0 1).length 16) = 2 := by decide +kernel
  have h2 : (shpO pLiv 0 1).length = 2 := by decide +kernel
  have h3 : Tk.objsN (tOf pLiv) ((funR pLiv 0).objects.take 1) = 2 := by decide +kernel
  unfold fldS
  show fldL [7, a, 8, b] (bitsP isPtrB (shpO pLiv 0 1) (min (shpO pLiv 0 1).length 16)) (Tk.objsN (tOf pLiv) ((funR pLiv 0).objects.take 1)) (shpO pLiv 0 1).length = [b]
  rw [h1, h2, h3, fldL_succ, fldL_succ]
  have b0 : Nat.testBit 2 0 = false := by decide
  have b1 : Nat.testBit 2 (0 + 1) = true := by decide
  rw [b0, b1]
  simp [fldL]
theorem scanLiv1 {C : Pl → Option (List Int)} {a b pc : Int} {x : Int} (hbB : i64B b) (hb0 : b ≠ 0) (h : kdsR C (sLiv a b pc).fn (sLiv a b pc).pc = [x]) (hx : isPtrB x = false) (hl : isLocB x = true) {w : World} {e : Ending} {w' : World} (hs : ScanPost pLiv C (lLiv a b pc) false w e w') : ∃ v, e = .returned v ∧ Own intE w' w.heap.size v [b] ∧ Below w.heap.size w w' := by
  obtain ⟨v, L, L0, rfl, hp, hm, ho, hr, hxx, hb⟩ := hs
  rw [addrLiv] at hm
  obtain rfl := pl_one hp (fun y => (hm y).trans (fndLiv h y.1)) hl
  rw [frsLiv h hx, recLiv] at hxx
  have hlv : livW pLiv (lLiv a b pc).frames [⟨(0, 1), by decide, by decide⟩] ([⟨(0, 1), by decide, by decide⟩] : List NPl).length = [b] := by
    show livW pLiv [sLiv a b pc] [⟨(0, 1), by decide, by decide⟩] (0 + 1) = [b]
    rw [livW_succ (y := ⟨(0, 1), by decide, by decide⟩) (s := sLiv a b pc) rfl rfl, fldLiv]
    rfl
  rw [hlv] at hxx
  have hL : L = [b] := Rising.eq hr (by unfold Rising; simp) fun y => by
    rw [hxx y]
    simp
    constructor
    · rintro ⟨_, h, _⟩; exact h
    · rintro rfl; exact ⟨hbB, rfl, hb0⟩
  rw [hL] at ho
  exact ⟨v, rfl, ho, hb⟩
theorem objsLiv1 {C : Pl → Option (List Int)} {a b pc : Int} {x : Int} (h : kdsR C (sLiv a b pc).fn (sLiv a b pc).pc = [x]) (hl : isLocB x = true) {w : World} {e : Ending} {w' : World} (hs : ObjsPost pLiv C (lLiv a b pc) w e w') : ∃ g c, e = .returned (.slice (some ⟨g, 0, none⟩) 1 c) ∧ w'.cell? ⟨g, 0, none⟩ = some (.int .i64 0) ∧ w'.cell? ⟨g, 1, none⟩ = some (.int .i64 1) ∧ Below w.heap.size w w' := by
  obtain ⟨v, L0, rfl, hp, hm, ho, hb⟩ := hs
  rw [addrLiv] at hm
  obtain rfl := pl_one hp (fun y => (hm y).trans (fndLiv h y.1)) hl
  have hc := fun g hg => World.ownsRow.cells (g := g) ho hg
  rcases id ho.2 with ⟨_, h0⟩ | ⟨g, cap, cur, rfl, _⟩
  · cases h0
  · have c0 := hc g rfl 0 (.int .i64 0) rfl
    have c1 := hc g rfl 1 (.int .i64 1) rfl
    exact ⟨g, cap, rfl, by simpa [Addr.add] using c0, by simpa [Addr.add] using c1, hb⟩
set_option maxRecDepth 100000 in
theorem pair_run (x y a b : Int) (w : World) : (Op.equalIn 10000 62 (.agg #[.int .i64 x, .int .i64 y]) (.agg #[.int .i64 a, .int .i64 b])).run Tryz.prog w = .ok (x == a && y == b) w := by
  obtain ⟨i0, hi, _⟩ := info_parts intE.info
  refine (run_equalIn_array 9999 (P := Tryz.prog) (w := w) #[.int .i64 x, .int .i64 y] #[.int .i64 a, .int .i64 b] Tryz.underlying62 hi).trans ?_
  rw [cells_ints.1, show List.range 2 = [0, 1] from rfl]
  simp only [Op.eqItems, Sem.run_bind]
  have h : ∀ u v : Int, (Op.equalIn 9999 3 (.int .i64 u) (.int .i64 v)).run Tryz.prog w = .ok (u == v) w := fun u v => by go_simp
  cases hx : x == a <;> cases hy : y == b <;> go_simp
end Go.Proofs.YtknbllbhakpaaaaGreat
namespace Go.Proofs.YtknbllbhakpaaaaGreat.Tk
open Go.ChangeShapes Go.WideShapes Go.ChangeAt Go.RowKit Go.Maps
set_option maxRecDepth 100000 in
set_option maxHeartbeats 1600000 in
theorem refWords_any (w : World) (D D' : Nat → Prop) (p : TPrg) (hp : PSmall p) (a1 : Option Addr) (m1 : Nat) (hs : ShL w D a1 p.shapes) (a2 : Option Addr) (m2 : Nat) (l : List Int) (hl : IntSl w D' a2 l) (hn : l.length ≤ 3000) :
    Calls Tryz.prog 39 #[.slice a1 p.shapes.length m1, .slice a2 l.length m2] w fun e w' => e = .returned (.int .i64 (objsN p l : Nat)) ∧ ∃ n, w' = w.drewN n := by
  have hfl := fun s => fieldsN_le hp s
  have hsh := hp.1
  have hob : ∀ k, k ≤ l.length → objsN p (l.take k) ≤ 9000000 := fun k hk => by
    have h1 := objsN_le hp (l.take k)
    have h2 : (l.take k).length ≤ 3000 := by rw [List.length_take]; omega
    omega
  clear hp
  have HS := Lib.hid hs; clear hs
  have HL := Lib.hid hl; clear hl
  have HFL := Lib.hid hfl; clear hfl
  have HOB := Lib.hid hob; clear hob
  go_enter Tryz.func39, Tryz.ntmps39
  go_upto_region 3 with fail
  go_wp2_with fail
  go_loopw [5, 6] (fun n i wr => ∃ k : Nat, k ≤ l.length ∧ i = .int .i64 k ∧ n = .int .i64 (objsN p (l.take k) : Nat) ∧ ∃ m, wr = w.drewN m) (fun _ i _ => l.length - (intOf i).toNat)
  case atStart => exact ⟨0, Nat.zero_le _, rfl, rfl, 0, rfl⟩
  case round =>
    obtain ⟨k, hk, rfl, rfl, m, hwr⟩ := hrel
    by_cases hlt : k < l.length
    · obtain ⟨b, o, rfl, _, hx⟩ := HL.out k hlt
      have hx1 : wr.cell? ⟨b, o + k, none⟩ = some (.int .i64 l[k]) := by rw [hwr]; exact hx
      have hsn := objsN_snoc p l k hlt
      have hb1 := HOB.out k hk
      have hb2 := HOB.out (k + 1) hlt
      have hk0 : (k : Int) < (l.length : Int) := by omega
      have hk1 : (0 : Int) ≤ (k : Int) := by omega
      have i1 : IntKind.i64.wrap ((k : Int) + 1) = ((k + 1 : Nat) : Int) := IntWalk.i64_in _ (by omega)
      obtain ⟨N, hN⟩ : ∃ N, N = objsN p (l.take k) := ⟨_, rfl⟩
      obtain ⟨N2, hN2⟩ : ∃ N2, N2 = objsN p (l.take (k + 1)) := ⟨_, rfl⟩
      rw [← hN] at hsn hb1
      rw [← hN2] at hsn hb2
      rw [← hN]
      have HN := Lib.hid hN2
      clear hN hN2 hx
      cases hws : withinB l[k] p.shapes.length
      · have hfz : fieldsN p l[k] = 0 := by unfold fieldsN; rw [hws]; rfl
        rw [hfz] at hsn
        generalize l[k] = x at *
        have HSN := Lib.hid hsn
        have HWR := Lib.hid hwr
        clear hfz hsn hwr
        by_cases hx0 : 0 ≤ x
        · have hx2 : ¬ x < p.shapes.length := by simp [withinB] at hws; omega
          clear hws
          go_wp2_with fail
          go_roundw
          case rel => exact ⟨k + 1, hlt, by go_num, by rw [← HN.out, HSN.out]; rfl, by rw [HWR.out]; exact ⟨_, by first | rfl | (simp; rfl)⟩⟩
          case measure => simp [intOf]; omega
        · clear hws
          go_wp2_with fail
          go_roundw
          case rel => exact ⟨k + 1, hlt, by go_num, by rw [← HN.out, HSN.out]; rfl, by rw [HWR.out]; exact ⟨_, by first | rfl | (simp; rfl)⟩⟩
          case measure => simp [intOf]; omega
      · obtain ⟨y, hy, hyl⟩ := within_nat hws
        have hfz : fieldsN p l[k] = p.shapes[y] := by unfold fieldsN; rw [if_pos hws, hy]; simp [hyl]
        rw [hfz] at hsn
        rw [hy] at hx1
        obtain ⟨b8, o8, rfl, hd8, a8, c8, hq⟩ := HS.out y hyl
        have hq1 : wr.cell? ⟨b8, o8 + y, none⟩ = some (.slice a8 p.shapes[y] c8) := by rw [hwr]; exact hq
        generalize p.shapes[y] = ny at *
        have hy0 : (0 : Int) ≤ (y : Int) := by omega
        have hy1 : (y : Int) < p.shapes.length := by omega
        have i2 : IntKind.i64.wrap ((N : Int) + (ny : Int)) = (N2 : Int) := by rw [show ((N : Int) + (ny : Int)) = (N2 : Int) from by omega]; exact IntWalk.i64_in _ (by omega)
        have HSN := Lib.hid hsn
        have HWR := Lib.hid hwr
        clear hws hfz hy hsn hwr hq
        go_wp2_with fail
        go_roundw
        case rel => exact ⟨k + 1, hlt, by go_num, by first | rw [← HN.out] | (rw [← HN.out]; rfl), by rw [HWR.out]; exact ⟨_, by first | rfl | (simp; rfl)⟩⟩
        case measure => simp [intOf]; omega
    · have hk' : k = l.length := by omega
      subst hk'
      rw [List.take_length]
      have HWR := Lib.hid hwr
      clear hwr
      obtain ⟨z, hz⟩ : ∃ z, z = objsN p l := ⟨_, rfl⟩
      rw [← hz]
      have HZ := Lib.hid hz
      clear hz
      go_wp2_with fail
      go_ret
      rw [← HZ.out]
      exact ⟨rfl, by rw [HWR.out]; exact ⟨_, by first | rfl | (simp; rfl)⟩⟩
/-- the functions' stack objects: no more than there is room for -/
def CapO (w : World) (c2 : Value) : Prop := ∀ b o n c, c2 = .slice (some ⟨b, o, none⟩) n c → ∀ j, j < n → ∃ a l m, w.cell? ⟨b, o + j * 5 + 3, none⟩ = some (.slice a l m) ∧ l ≤ m
theorem CapO.fr {F : Nat → Prop} {w w' : World} {c2 : Value} (h : CapO w c2) (hf : Fr F w w') (hd : ∀ k, k < w.heap.size → ¬ F k) : CapO w' c2 := fun b o n c e j hj => by
  obtain ⟨a, l, m, hc, hl⟩ := h b o n c e j hj
  exact ⟨a, l, m, hf.cell hc (hd b (World.block_lt hc)), hl⟩
theorem CapO.below {w w' : World} {c2 : Value} (h : CapO w c2) (hb : Below w.heap.size w w') : CapO w' c2 := fun b o n c e j hj => by
  obtain ⟨a, l, m, hc, hl⟩ := h b o n c e j hj
  exact ⟨a, l, m, below_cell hb hc, hl⟩
theorem objsN_one (p : TPrg) (x : Int) : objsN p [x] = fieldsN p x := by unfold objsN; simp
set_option maxRecDepth 100000 in
set_option maxHeartbeats 1600000 in
theorem robjectAt_some (w : World) (D : Nat → Prop) (hD : ∀ k, D k → k < w.heap.size) (p : TPrg) (c0 c1 c2 : Value) (j : Nat) (hj : j < p.funcs.length) (hv : PV w D p c0 c1 c2) (hp : PSmall p) (hcap : CapO w c2) (sl : Nat) (hsl : p.funcs[j].slots = sl) (hsl2 : sl ≤ 3000) (k : Nat) (hk : k < p.funcs[j].objects.length) :
    Calls Tryz.prog 13 #[.agg #[c0, c1, c2], .int .i64 j, .int .i64 k] w fun e w' => e = .returned (.tuple #[.int .i64 (2 + sl + objsN p (p.funcs[j].objects.take k) : Nat), .int .i64 (fieldsN p p.funcs[j].objects[k] : Nat)]) ∧ Below w.heap.size w w' := by
  have hv0 := hv
  obtain ⟨⟨a0, n0, m0, rfl⟩, ⟨a1, m1, rfl, _⟩, a2, m2, rfl, _⟩ := hv
  have hb0 := ((Below.refl w.heap.size w).alloc (Nat.le_refl _) (.cells #[.slice a0 n0 m0, .slice a1 p.shapes.length m1, .slice a2 p.funcs.length m2] 34))
  have hq := fun j => cell_new w #[.slice a0 n0 m0, .slice a1 p.shapes.length m1, .slice a2 p.funcs.length m2] 34 (0, 0) j
  obtain ⟨W, hW⟩ : ∃ W, W = (w.alloc (.cells #[.slice a0 n0 m0, .slice a1 p.shapes.length m1, .slice a2 p.funcs.length m2] 34)) := ⟨_, rfl⟩
  rw [← hW] at hb0 hq
  have k1 : W.cell? ⟨w.heap.size, 1, none⟩ = some (.slice a1 p.shapes.length m1) := hq 1
  have k2 : W.cell? ⟨w.heap.size, 2, none⟩ = some (.slice a2 p.funcs.length m2) := hq 2
  obtain ⟨_, ⟨a1', m1', e1, hsh⟩, a2', m2', e2, hfn⟩ := hv0.below hb0
  injection e1 with e1 _ e1'
  injection e2 with e2 _ e2'
  subst e1 e1' e2 e2'
  obtain ⟨bb, o, rfl, _, y0, y1, y2, y3, y4, g0, g1, g2, g3, g4, hfv⟩ := hfn j hj
  have hfp := hp.2.2.2 p.funcs[j] (List.getElem_mem hj)
  obtain ⟨xa, xl, xm, hxc, hxl⟩ := hcap.below hb0 bb o _ _ rfl j hj
  rw [g3] at hxc
  generalize p.funcs[j] = f at *
  obtain ⟨⟨y0a, z0, rfl⟩, ⟨r1, rfl⟩, rfl, ⟨e3, e4, rfl, hobj⟩, y4a, n4, z4, rfl⟩ := hfv
  injection hxc with hxc
  injection hxc with hx1 hx2 hx3
  subst hx1 hx2 hx3
  rw [hsl] at g2
  have hol := hfp.2.2
  have hb01 := hobj
  have h1 : IntSl W D e3 (f.objects.take k) := fun i hi => by
    have hi' : i < f.objects.length := by rw [List.length_take] at hi; omega
    obtain ⟨b, o, e, hd, hc⟩ := hobj i hi'
    exact ⟨b, o, e, hd, by rw [List.getElem_take]; exact hc⟩
  obtain ⟨b3, o3, rfl, hd3, hc3⟩ := hobj k hk
  have h2 : IntSl W D (some ⟨b3, o3 + k, none⟩) [f.objects[k]] := fun i hi => by
    obtain rfl : i = 0 := by simpa using hi
    exact ⟨b3, o3 + k, rfl, hd3, hc3⟩
  have htl : (f.objects.take k).length = k := by rw [List.length_take]; omega
  obtain ⟨W2, hW2⟩ : ∃ W2, W2 = W.alloc (.cells #[.slice y0a f.nargs z0, .int .i64 r1, .int .i64 sl, .slice (some ⟨b3, o3, none⟩) f.objects.length e4, .slice y4a n4 z4] 31) := ⟨_, rfl⟩
  have hb2 : Below W.heap.size W W2 := by rw [hW2]; exact (Below.refl _ _).alloc (Nat.le_refl _) _
  have hrow : W2.heap[W.heap.size]? = some (.cells #[.slice y0a f.nargs z0, .int .i64 r1, .int .i64 sl, .slice (some ⟨b3, o3, none⟩) f.objects.length e4, .slice y4a n4 z4] 31) := by rw [hW2]; exact heap_new _ _
  have hWz : W.heap.size = w.heap.size + 1 := by rw [hW]; simp
  have q1 : W2.cell? ⟨w.heap.size, 1, none⟩ = some (.slice a1 p.shapes.length m1) := below_cell hb2 k1
  have n2 : W2.cell? ⟨W.heap.size, 2, none⟩ = some (.int .i64 sl) := (row_cell hrow 2).1
  have n3 : W2.cell? ⟨W.heap.size, 3, none⟩ = some (.slice (some ⟨b3, o3, none⟩) f.objects.length e4) := (row_cell hrow 3).1
  have hb02 := hb0.trans (hb2.mono hb0.size)
  have hsh2 := hsh.fr (Fr.of_below hb2 (fun _ => False)) (fun _ _ h => h)
  replace h1 := h1.fr (Fr.of_below hb2 (fun _ => False)) (fun _ _ h => h)
  replace h2 := h2.fr (Fr.of_below hb2 (fun _ => False)) (fun _ _ h => h)
  have wd1 := fun m => refWords_any (W2.drewN m) D D p hp a1 m1 (hsh2.fr (Fr.of_below (below_drewN (Below.refl W2.heap.size W2) m) (fun _ => False)) (fun _ _ h => h)) (some ⟨b3, o3, none⟩) e4 (f.objects.take k) (h1.fr (Fr.of_below (below_drewN (Below.refl W2.heap.size W2) m) (fun _ => False)) (fun _ _ h => h)) (by omega)
  have wd2 := fun m => refWords_any (W2.drewN m) D D p hp a1 m1 (hsh2.fr (Fr.of_below (below_drewN (Below.refl W2.heap.size W2) m) (fun _ => False)) (fun _ _ h => h)) (some ⟨b3, o3 + k, none⟩) (e4 - k) [f.objects[k]] (h2.fr (Fr.of_below (below_drewN (Below.refl W2.heap.size W2) m) (fun _ => False)) (fun _ _ h => h)) (by simp)
  rw [htl] at wd1
  rw [objsN_one, show ([f.objects[k]] : List Int).length = 1 from rfl] at wd2
  have hob := objsN_le hp (f.objects.take k)
  rw [htl] at hob
  have hfl := fieldsN_le hp f.objects[k]
  have hj0 : ¬ (j : Int) < 0 := by omega
  have hj1 : ¬ (p.funcs.length : Int) ≤ (j : Int) := by omega
  have hj2 : (j : Int) < p.funcs.length := by omega
  have hj3 : (0 : Int) ≤ (j : Int) := by omega
  have hk0 : ¬ (k : Int) < 0 := by omega
  have hk1 : ¬ (f.objects.length : Int) ≤ (k : Int) := by omega
  have hk2 : (0 : Int) ≤ (k : Int) := by omega
  obtain ⟨ob, hob2⟩ : ∃ ob, ob = objsN p (f.objects.take k) := ⟨_, rfl⟩
  obtain ⟨fl, hfl2⟩ : ∃ fl, fl = fieldsN p f.objects[k] := ⟨_, rfl⟩
  rw [← hob2] at wd1 hob
  rw [← hfl2] at wd2 hfl
  rw [← hob2, ← hfl2]
  obtain ⟨s2, hs2⟩ : ∃ s2, s2 = 2 + sl := ⟨_, rfl⟩
  obtain ⟨R, hR⟩ : ∃ R, R = s2 + ob := ⟨_, rfl⟩
  have i1 : IntKind.i64.wrap (2 + (sl : Int)) = (s2 : Int) := by rw [show (2 + (sl : Int)) = (s2 : Int) from by omega]; exact IntWalk.i64_in _ (by omega)
  have i2 : IntKind.i64.wrap ((s2 : Int) + (ob : Int)) = (R : Int) := by rw [show ((s2 : Int) + (ob : Int)) = (R : Int) from by omega]; exact IntWalk.i64_in _ (by omega)
  have i3 : IntKind.i64.wrap ((k : Int) + 1) = ((k + 1 : Nat) : Int) := IntWalk.i64_in _ (by omega)
  have c1 : k ≤ e4 := by omega
  have c2 : (k : Int) + 1 ≤ (e4 : Int) := by omega
  have c3 : (0 : Int) ≤ (k : Int) + 1 := by omega
  have c4 : ¬ e4 = k := by omega
  rw [← hs2, ← hR]
  obtain ⟨ol, hol2⟩ : ∃ ol, ol = f.objects.length := ⟨_, rfl⟩
  rw [← hol2] at hk1 g3 hW2 n3
  have HW := Lib.hid hW
  have HW2 := Lib.hid hW2
  clear hW2 hb2 hrow hWz hsh2 hb0
  clear hW hq hsh hfn hv0 hp hobj hb01 hob hob2 hs2 hR hfl hfl2 hcap h1 h2 htl hc3 hd3 hol hfp hol2 hk hxl hsl
  have WD1 := Lib.hid wd1; clear wd1
  have WD2 := Lib.hid wd2; clear wd2
  have HB02 := Lib.hid hb02; clear hb02
  have HD := Lib.hid hD; clear hD
  go_enter Tryz.func13, Tryz.ntmps13
  go_upto_region 1 with fail
  rw [← HW.out]
  go_upto_region 4 with fail
  rw [← HW2.out]
  refine wp_region_quiet_lit (by kernel_rfl) (by kernel_rfl) ?_
  quiet_step (fail)
  quiet_step (fail)
  quiet_step (fail)
  quiet_step (fail)
  quiet_step (fail)
  quiet_step (fail)
  quiet_step (fail)
  quiet_step (fail)
  quiet_step (fail)
  quiet_step ((go_at_call 39; exact Calls.quiet_of (WD1.out _)))
  quiet_step (fail)
  quiet_step (fail)
  quiet_step (fail)
  quiet_step (fail)
  quiet_step (fail)
  quiet_step (fail)
  quiet_step (fail)
  quiet_step (fail)
  quiet_step (fail)
  quiet_step ((go_at_call 39; exact Calls.quiet_of (WD2.out _)))
  quiet_step (fail)
  quiet_step (fail)
  refine wpQuiet_nil ?_
  intro _ hw'
  obtain ⟨nq, hw''⟩ := hw'
  subst hw''
  go_wp2_with fail
  go_ret2
  exact ⟨rfl, below_drewN HB02.out _⟩
end Go.Proofs.YtknbllbhakpaaaaGreat.Tk
