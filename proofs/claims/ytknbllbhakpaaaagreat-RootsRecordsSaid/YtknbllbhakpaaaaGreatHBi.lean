/- The library's contract on slices.SortFunc at places, at this program. Nothing of the program's text stands here. Walks: the sorted keys of a map of places. A task as it is, in memory; what frames read of a program. -/
import Derived.Shelf.SlSortCmp.NoneTotal
import Derived.Ground.SlsfProg
import Derived.Test.YtknbllbhakpaaaaGreatProg
import Derived.Test.YtknbllbhakpaaaaGreatHBh
import Derived.Test.YtknbllbhakpaaaaGreatHBf
set_option linter.unusedVariables false
set_option linter.unusedSimpArgs false
namespace Go.Proofs.YtknbllbhakpaaaaGreat
open Go.RowKit Go.Sort Go.Shelf
def sortR_ren : Go.Shelf.Ren := ⟨fun | 6 => 130 | 15 => 149 | 14 => 153 | 28 => 174 | 29 => 175 | 20 => 176 | 21 => 177 | 22 => 178 | 23 => 179 | 24 => 180 | 25 => 181 | 26 => 182 | 27 => 183 | 46 => 193 | 47 => 188 | 48 => 189 | 49 => 194 | 50 => 195 | 57 => 197 | n => n, fun | 22 => 106 | 24 => 109 | 25 => 160 | 3 => 3 | 39 => 191 | 0 => 0 | 53 => 236 | 55 => 238 | 4 => 4 | 46 => 230 | 45 => 229 | 50 => 142 | 5 => 5 | 9 => 9 | 66 => 246 | 70 => 250 | 76 => 254 | 77 => 58 | n => n, fun | n => n⟩
theorem sortR : Go.Proofs.SlLaysF0.n6 Tryz.prog sortR_ren := {
  mixed := by kernel_rfl
  f6 := ⟨Tryz.f130.name, by decide, Tryz.func130.trans (congrArg some (by kernel_rfl))⟩
  f14 := ⟨Tryz.f153.name, by decide, Tryz.func153.trans (congrArg some (by kernel_rfl))⟩
  f15 := Tryz.func149.trans (congrArg some (by kernel_rfl))
  f20 := ⟨Tryz.f176.name, by decide, Tryz.func176.trans (congrArg some (by kernel_rfl))⟩
  f21 := ⟨Tryz.f177.name, by decide, Tryz.func177.trans (congrArg some (by kernel_rfl))⟩
  f22 := ⟨Tryz.f178.name, by decide, Tryz.func178.trans (congrArg some (by kernel_rfl))⟩
  f23 := ⟨Tryz.f179.name, by decide, Tryz.func179.trans (congrArg some (by kernel_rfl))⟩
  f24 := ⟨Tryz.f180.name, by decide, Tryz.func180.trans (congrArg some (by kernel_rfl))⟩
  f25 := ⟨Tryz.f181.name, by decide, Tryz.func181.trans (congrArg some (by kernel_rfl))⟩
  f26 := ⟨Tryz.f182.name, by decide, Tryz.func182.trans (congrArg some (by kernel_rfl))⟩
  f27 := ⟨Tryz.f183.name, by decide, Tryz.func183.trans (congrArg some (by kernel_rfl))⟩
  f28 := Tryz.func174.trans (congrArg some (by kernel_rfl))
  f29 := Tryz.func175.trans (congrArg some (by kernel_rfl))
  f46 := ⟨Tryz.f193.name, by decide, Tryz.func193.trans (congrArg some (by kernel_rfl))⟩
  f47 := Tryz.func188.trans (congrArg some (by kernel_rfl))
  f48 := Tryz.func189.trans (congrArg some (by kernel_rfl))
  f49 := ⟨Tryz.f194.name, by decide, Tryz.func194.trans (congrArg some (by kernel_rfl))⟩
  f50 := ⟨Tryz.f195.name, by decide, Tryz.func195.trans (congrArg some (by kernel_rfl))⟩
  f57 := ⟨Tryz.f197.name, by decide, Tryz.func197.trans (congrArg some (by kernel_rfl))⟩
  t0 := Tryz.underlying0
  a0 := Tryz.isAgg0
  z0 := Tryz.sizeOf0
  v0 := Tryz.zeroValue0
  t3 := Tryz.underlying3
  a3 := Tryz.isAgg3
  z3 := Tryz.sizeOf3
  v3 := Tryz.zeroValue3
  t4 := Tryz.underlying4
  a4 := Tryz.isAgg4
  z4 := Tryz.sizeOf4
  v4 := Tryz.zeroValue4
  t5 := Tryz.underlying5
  a5 := Tryz.isAgg5
  z5 := Tryz.sizeOf5
  v5 := Tryz.zeroValue5
  t9 := Tryz.underlying9
  a9 := Tryz.isAgg9
  z9 := Tryz.sizeOf9
  v9 := Tryz.zeroValue9
  t22 := Tryz.underlying106
  a22 := Tryz.isAgg106
  z22 := Tryz.sizeOf106
  v22 := Tryz.zeroValue106
  t25 := Tryz.underlying160
  a25 := Tryz.isAgg160
  z25 := Tryz.sizeOf160
  v25 := Tryz.zeroValue160
  t39 := Tryz.underlying191
  a39 := Tryz.isAgg191
  z39 := Tryz.sizeOf191
  v39 := Tryz.zeroValue191
  t45 := Tryz.underlying229
  a45 := Tryz.isAgg229
  z45 := Tryz.sizeOf229
  v45 := Tryz.zeroValue229
  t46 := Tryz.underlying230
  a46 := Tryz.isAgg230
  z46 := Tryz.sizeOf230
  v46 := Tryz.zeroValue230
  t50 := Tryz.underlying142
  a50 := Tryz.isAgg142
  z50 := Tryz.sizeOf142
  v50 := Tryz.zeroValue142
  t53 := Tryz.underlying236
  a53 := Tryz.isAgg236
  z53 := Tryz.sizeOf236
  v53 := Tryz.zeroValue236
  t55 := Tryz.underlying238
  a55 := Tryz.isAgg238
  z55 := Tryz.sizeOf238
  v55 := Tryz.zeroValue238
  t66 := Tryz.underlying246
  a66 := Tryz.isAgg246
  z66 := Tryz.sizeOf246
  v66 := Tryz.zeroValue246
  t70 := Tryz.underlying250
  a70 := Tryz.isAgg250
  z70 := Tryz.sizeOf250
  v70 := Tryz.zeroValue250
  t76 := Tryz.underlying254
  a76 := Tryz.isAgg254
  z76 := Tryz.sizeOf254
  v76 := Tryz.zeroValue254
  t77 := Tryz.underlying58
  a77 := Tryz.isAgg58
  z77 := Tryz.sizeOf58
  v77 := Tryz.zeroValue58 }

end Go.Proofs.YtknbllbhakpaaaaGreat
namespace Go.Proofs.YtknbllbhakpaaaaGreat
open Go.ChangeShapes Go.WideShapes Go.ChangeAt Go.RowKit Go.Maps Go.Sort Go.Shelf
def ltN (x y : NPl) : Prop := x.1.1 < y.1.1 ∨ (x.1.1 = y.1.1 ∧ x.1.2 < y.1.2)
/-- places in memory, at v, in blocks of D -/
def PlSl (w : World) (D : Nat → Prop) (v : Value) (L : List NPl) : Prop :=
  ∃ a c, v = .slice a L.length c ∧ ∀ j (h : j < L.length), ∃ g o, a = some ⟨g, o, none⟩ ∧ D g ∧ w.cell? ⟨g, o + 2 * j, none⟩ = some (.int .i64 (L[j].1.1 : Nat)) ∧ w.cell? ⟨g, o + 2 * j + 1, none⟩ = some (.int .i64 (L[j].1.2 : Nat))
theorem PlSl.fr {w w' : World} {D F : Nat → Prop} {v : Value} {L : List NPl} (h : PlSl w D v L) (hf : Fr F w w') (hn : ∀ k, D k → ¬ F k) : PlSl w' D v L := by
  obtain ⟨a, c, rfl, h⟩ := h
  refine ⟨a, c, rfl, fun j hj => ?_⟩
  obtain ⟨g, o, rfl, hD, h1, h2⟩ := h j hj
  exact ⟨g, o, rfl, hD, hf.cell h1 (hn _ hD), hf.cell h2 (hn _ hD)⟩
theorem flat2_get (L : List NPl) : ∀ j, j < L.length * 2 → (L.flatMap cellsN)[j]? = some ((cellsN (L[j / 2]!))[j % 2]!) := by
  induction L with
  | nil => intro j h; simp at h
  | cons x L ih =>
    intro j h
    rw [List.flatMap_cons]
    match j, h with
    | 0, _ => rfl
    | 1, _ => rfl
    | j + 2, h =>
      have h2 := ih j (by simp at h; omega)
      rw [List.getElem?_append_right (by show 2 ≤ j + 2; omega)]
      have e1 : (j + 2) / 2 = j / 2 + 1 := by omega
      have e2 : (j + 2) % 2 = j % 2 := by omega
      rw [e1, e2, List.getElem!_cons_succ]
      exact h2
theorem swoN : SWO (ltOf cfR) where
  irrefl := fun x => by unfold ltOf cfR; simp
  trans := fun x y z h1 h2 => by
    unfold ltOf cfR at *
    simp only [decide_eq_true_eq] at *
    split at h1 <;> split at h2 <;> split <;> omega
  ntrans := fun x y z h1 h2 => by
    unfold ltOf cfR at *
    simp only [decide_eq_false_iff_not] at *
    split at h1 <;> split at h2 <;> split <;> omega
theorem sortK_below {w : World} {B g n : Nat} {d : Array NPl} {os : Array Obj} (hg : B ≤ g) (hB : B ≤ w.heap.size) : Below B w (sortWorldK cellsN 2 w g 0 n d os) := by
  refine ⟨rfl, rfl, rfl, size_sortWorldK_c _ _ _ _ _ _ _ _, fun k hk => ?_⟩
  show ((w.heap.modify g _) ++ os)[k]? = _
  rw [Array.getElem?_append_left (by simp; omega), Array.getElem?_modify, if_neg (by omega)]
set_option maxRecDepth 100000 in
set_option maxHeartbeats 1000000 in
theorem sortFR_any (n : Nat) (B : Nat) (W : World) (v : Value) (sn : List NPl) (hsn : sn.Nodup) (hlen : sn.length ≤ 1000000) (hrow : W.ownsRow B 109 2 v sn.length (sn.flatMap cellsN)) (hB : B ≤ W.heap.size) :
    CallsIn Fence.wide n Tryz.prog 130 #[v, .func (.func 92) #[] #[]] W fun e w' => e = .returned (.tuple #[]) ∧ ∃ L, L.Perm sn ∧ L.Pairwise ltN ∧ PlSl w' (fun k => B ≤ k ∧ k < W.heap.size) v L ∧ Below B W w' := by
  refine callsIn_wide.2 ?_
  cases sn with
  | nil =>
    obtain ⟨p, cap, rfl⟩ : ∃ p cap, v = .slice p 0 cap := by
      obtain ⟨_, h | h⟩ := hrow
      · exact ⟨_, _, h.1⟩
      · obtain ⟨g, c, cur, h, _⟩ := h
        exact ⟨_, _, h⟩
    refine (AnyF.slices_SortFunc_none sortR p cap _ W).mono ?_
    rintro e w' ⟨rfl, rfl⟩
    exact ⟨rfl, [], .refl _, List.Pairwise.nil, ⟨p, cap, rfl, fun j h => by simp at h⟩, Below.refl _ _⟩
  | cons x0 r0 =>
    obtain ⟨sn, hs⟩ : ∃ sn, sn = x0 :: r0 := ⟨_, rfl⟩
    have hr1 := hrow
    rw [List.length_cons] at hr1
    obtain ⟨g, cap, rfl⟩ := ownsRow_succ hr1
    have hl1 : r0.length + 1 = sn.length := by rw [hs]; rfl
    rw [hl1]
    rw [← hs] at hrow hlen hsn ⊢
    rw [hl1] at hrow
    have hlen2 : sn.length < 4611686018427387904 := by omega
    clear hr1 hs hl1
    have hgl := hrow.lt g rfl
    have hH : HoldsK cellsN 2 W g 0 sn.toArray := fun j hj => by
      rw [size_flatK] at hj
      have hj : j < sn.length * 2 := by simpa using hj
      refine ⟨?_, ?_⟩
      · rw [Nat.zero_add, hrow.cellAt j hj, flat2_get sn j hj]
        rw [get_flatK _ _ _ _ (by simpa using hj)]
        simp
      · rw [Nat.zero_add]; exact hrow.frozenAt j
    have h := AnyQ.slices_SortFunc (ρ := sortR_ren) sortR 2 (fun w => Tryz.isAgg109 w) (fun w => Tryz.sizeOf109 w) cellsN (fun _ => rfl) (fun x v hv => by simp [cellsN] at hv; rcases hv with rfl | rfl <;> rfl) cfR swoN 92 #[] g 0 cap sn.toArray W (enters_of Tryz.func92 (by kernel_rfl) rfl) (fun m os dk _ x y => order_any x y _) hH hgl.2 (by simpa using hlen2)
    rw [List.size_toArray] at h
    change Calls Tryz.prog 130 _ _ _ at h
    refine h.mono ?_
    rintro e w' ⟨rfl, d', n, os, hperm, hsort, rfl⟩
    obtain ⟨hp1, _, hp3⟩ := hperm
    have hsz : d'.size = sn.length := by simpa using hp1
    have hp : d'.toList.Perm sn := by
      have e1 : d'.extract 0 sn.length = d' := by rw [← hsz]; simp
      rw [e1] at hp3
      simpa using hp3
    have hHL := holdsK_sortWorldK_c cellsN 2 W g 0 sn.toArray d' n os hH hgl.2 hp1
    refine ⟨rfl, d'.toList, hp, ?_, ⟨some ⟨g, 0, none⟩, cap, by simp [hsz], fun j hj => ?_⟩, sortK_below hgl.1 hB⟩
    · have hnd := hp.nodup_iff.2 hsn
      rw [List.pairwise_iff_getElem]
      intro i j hi hj hij
      have h1 := hsort i j (Nat.zero_le _) hij (by simpa [hsz] using hj)
      have hne := (List.pairwise_iff_getElem.1 hnd) i j hi hj hij
      have hi' : i < d'.size := by simpa using hi
      have hj' : j < d'.size := by simpa using hj
      rw [getElem!_pos d' i hi', getElem!_pos d' j hj'] at h1
      rw [Array.getElem_toList, Array.getElem_toList] at hne ⊢
      generalize d'[i] = x at *
      generalize d'[j] = y at *
      unfold ltOf cfR at h1
      unfold ltN
      obtain ⟨⟨a, b⟩, _, _⟩ := x
      obtain ⟨⟨c, d⟩, _, _⟩ := y
      simp only [decide_eq_false_iff_not] at h1 ⊢
      have hne2 : ¬ (a = c ∧ b = d) := fun h => hne (by obtain ⟨rfl, rfl⟩ := h; rfl)
      split at h1 <;> omega
    · have hj' : j < d'.size := by simpa using hj
      have c0 := (hHL.cell hj' (c := 0) (by omega)).1
      have c1 := (hHL.cell hj' (c := 1) (by omega)).1
      rw [getElem!_pos d' j hj'] at c0 c1
      refine ⟨g, 0, rfl, ⟨hgl.1, hgl.2⟩, ?_, ?_⟩
      · rw [Array.getElem_toList, Nat.mul_comm]; exact c0
      · rw [Array.getElem_toList, Nat.mul_comm]; exact c1
def rnN (x : NPl) : RPl := ⟨((x.1.1 : Nat), (x.1.2 : Nat)), by have := x.2; unfold i64B; constructor <;> omega⟩
def toN (x : RPl) : NPl := if h : x.1.1.toNat ≤ 1000000 ∧ x.1.2.toNat ≤ 1000000 then ⟨(x.1.1.toNat, x.1.2.toNat), h⟩ else default
def GoodR (x : RPl) : Prop := 0 ≤ x.1.1 ∧ x.1.1 ≤ 1000000 ∧ 0 ≤ x.1.2 ∧ x.1.2 ≤ 1000000
theorem rn_to {x : RPl} (h : GoodR x) : rnN (toN x) = x := by
  obtain ⟨⟨a, b⟩, hx⟩ := x
  unfold GoodR at h
  simp only at h
  unfold toN
  rw [dif_pos (by simp only; omega)]
  unfold rnN
  apply Subtype.ext
  simp only [Prod.mk.injEq]
  constructor <;> omega
theorem to_rn (x : NPl) : toN (rnN x) = x := by
  obtain ⟨⟨a, b⟩, h1, h2⟩ := x
  unfold toN rnN
  simp only at h1 h2
  rw [dif_pos (by simp only; omega)]
  rfl
set_option maxRecDepth 100000 in
set_option maxHeartbeats 1000000 in
theorem sortedR_any {H : Type} (Bm b nn : Nat) (D0 : DataW H) {R : Value → Option (DataW H × List MemPlace)} (w : World) (hBm : Bm < w.heap.size)
    (hm : w.cell? ⟨Bm, 0, none⟩ = some (.map (some b))) (hown : w.ownsMap Tryz.prog 109 R b nn D0) (hmax : Maps.size D0 ≤ 1000000) (hG : ∀ x : RPl, has D0 (rpK.lit x) = true → GoodR x) :
    Calls Tryz.prog 90 #[.func (.func 131) #[] #[.pointer (some ⟨Bm, 0, none⟩)], .func (.func 92) #[] #[]] w fun e w' =>
      ∃ v L, e = .returned v ∧ L.length ≤ Maps.size D0 ∧ L.Pairwise ltN ∧ (∀ x : NPl, x ∈ L ↔ has D0 (rpK.lit (rnN x)) = true) ∧ PlSl w' (fun k => w.heap.size ≤ k) v L ∧ Below w.heap.size w w' := by
  refine (callsIn_wide (n := 6)).1 ?_
  have cC := collectR_in 5 (by omega) 131 #[.pointer (some ⟨Bm, 0, none⟩)] (enters_of Tryz.func131 (by kernel_rfl) rfl) _ _ hmax w (keysR_stops 3 (by omega) Bm b nn D0 w hBm hm hown)
  have hf1 : Fence.wide.fn 129 := trivial
  have hf2 : Fence.wide.fn 130 := trivial
  have hS : ∀ (W : World) (v : Value) (ss : List RPl), (ss.Nodup ∧ ∀ x, x ∈ ss ↔ has D0 (rpK.lit x) = true) → ss.length ≤ 1000000 → W.ownsRow w.heap.size 109 2 v ss.length (ss.flatMap cellsR) → Below w.heap.size w W →
      CallsIn Fence.wide 5 Tryz.prog 130 #[v, .func (.func 92) #[] #[]] W fun e w' => e = .returned (.tuple #[]) ∧ ∃ L, L.length = ss.length ∧ L.Pairwise ltN ∧ (∀ x : NPl, x ∈ L ↔ has D0 (rpK.lit (rnN x)) = true) ∧ PlSl w' (fun k => w.heap.size ≤ k) v L ∧ Below w.heap.size w w' := by
    rintro W v ss ⟨hnd, hmem⟩ hl hrow hb
    have hgd : ∀ x ∈ ss, GoodR x := fun x hx => hG x ((hmem x).1 hx)
    have hfl : (ss.map toN).flatMap cellsN = ss.flatMap cellsR := by
      clear hnd hmem hrow hl
      induction ss with
      | nil => rfl
      | cons x r ih =>
        rw [List.map_cons, List.flatMap_cons, List.flatMap_cons, ih (fun y hy => hgd y (List.mem_cons_of_mem _ hy))]
        have e := rn_to (hgd x List.mem_cons_self)
        have : cellsN (toN x) = cellsR x := by conv => rhs; rw [← e]
                                               rfl
        rw [this]
    have hnd2 : (ss.map toN).Nodup := by
      refine List.pairwise_map.2 (hnd.imp_of_mem fun {a b} ha hb hne e => hne ?_)
      rw [← rn_to (hgd a ha), ← rn_to (hgd b hb), e]
    refine (sortFR_any 5 w.heap.size W v (ss.map toN) hnd2 (by simpa using hl) (by rw [hfl, List.length_map]; exact hrow) hb.size).mono ?_
    rintro e w' ⟨rfl, L, hp, hpw, hpl, hb2⟩
    refine ⟨rfl, L, by rw [hp.length_eq, List.length_map], hpw, fun x => ?_, ?_, hb.trans hb2⟩
    · rw [hp.mem_iff, List.mem_map]
      constructor
      · rintro ⟨y, hy, rfl⟩
        rw [rn_to (hgd y hy)]
        exact (hmem y).1 hy
      · intro h
        exact ⟨rnN x, (hmem _).2 h, to_rn x⟩
    · obtain ⟨a, c, e, h⟩ := hpl
      refine ⟨a, c, e, fun j hj => ?_⟩
      obtain ⟨g, o, h1, h2, h3⟩ := h j hj
      exact ⟨g, o, h1, h2.1, h3⟩
  refine callsIn_of_wp Tryz.func90 rfl trivial ?_ rfl
  simp only [Tryz.ntmps90, List.size_toArray, List.length_cons, List.length_nil, Nat.reduceAdd, Nat.reduceSub, Array.replicate_succ, Array.replicate_zero, List.push_toArray, List.append_toArray, List.nil_append, List.cons_append]
  gi_wp2_with (first
    | (gi_at_call 129; refine cC.mono ?_; rintro e w' ⟨v, ss, rfl, hSS, hrow, hnil, hb⟩)
    | (gi_at_call 130; refine (hS _ v ss hSS.1 (Nat.le_trans hSS.2 hmax) hrow hb).mono ?_; rintro e w' ⟨rfl, L, h0, h1, h2, h3, h4⟩))
  go_ret
  exact ⟨v, L, rfl, Nat.le_trans (Nat.le_of_eq h0) hSS.2, h1, h2, h3, h4⟩
theorem keysC_any (mb : Option Nat) (w : World) :
    Calls Tryz.prog 91 #[.map mb] w fun e w' => e = .returned (.func (.func 131) #[] #[.pointer (some ⟨w.heap.size, 0, none⟩)]) ∧ w' = w.alloc (.cells #[.map mb] 154) := (callsIn_wide (n := 1)).1 (keysR_any mb w 1)
theorem PlSl.wide {w : World} {D D' : Nat → Prop} {v : Value} {L : List NPl} (h : PlSl w D v L) (hd : ∀ k, D k → D' k) : PlSl w D' v L := by
  obtain ⟨a, c, rfl, h⟩ := h
  refine ⟨a, c, rfl, fun j hj => ?_⟩
  obtain ⟨g, o, h1, h2, h3⟩ := h j hj
  exact ⟨g, o, h1, hd _ h2, h3⟩
end Go.Proofs.YtknbllbhakpaaaaGreat
namespace Go.Proofs.YtknbllbhakpaaaaGreat
open Go.ChangeShapes Go.WideShapes Go.ChangeAt Go.RowKit Go.Maps
structure ThkD where (fn : Int) (args : List Int)
structure AlmD where (code ptr run : Int) (exit recovered : Bool)
structure LifeD where (status seg words : Int) (frames : List SpotD) (thunks : List (List ThkD)) (alarms : List AlmD) (black : Bool)
def tOf (p : Prg) : Tk.TPrg := ⟨p.shapes.map List.length, p.funcs.map fun f => ⟨f.args.length, f.slots, f.objects⟩⟩
theorem tOf_fn (p : Prg) (j : Nat) (hj : j < p.funcs.length) (hj' : j < (tOf p).funcs.length) : (tOf p).funcs[j] = ⟨p.funcs[j].args.length, p.funcs[j].slots, p.funcs[j].objects⟩ := by
  exact List.getElem_map _
theorem pv_of {w : World} {D : Nat → Prop} {p : Prg} {c0 c1 c2 : Value} (h : PrgVal w D p c0 c1 c2) : Tk.PV w D (tOf p) c0 c1 c2 := by
  obtain ⟨⟨a0, m0, rfl, _⟩, ⟨a1, m1, rfl, hs⟩, a2, m2, rfl, hf⟩ := h
  refine ⟨⟨_, _, _, rfl⟩, ⟨a1, m1, by simp [tOf], fun j hj => ?_⟩, a2, m2, by simp [tOf], fun j hj => ?_⟩
  · have hj' : j < p.shapes.length := by simpa [tOf] using hj
    obtain ⟨b, o, e, hD, a', c', hc, _⟩ := hs j hj'
    exact ⟨b, o, e, hD, a', c', by simpa [tOf] using hc⟩
  · have hj' : j < p.funcs.length := by simpa [tOf] using hj
    obtain ⟨b, o, e, hD, c0, c1, c2, c3, c4, q0, q1, q2, q3, q4, r1, r2, ⟨y0, z0, r3, _⟩, ⟨y3, z3, r4, r5⟩, y4, z4, r6, _⟩ := hf j hj'
    rw [tOf_fn p j hj' hj]
    exact ⟨b, o, e, hD, c0, c1, c2, c3, c4, q0, q1, q2, q3, q4, ⟨y0, z0, r3⟩, ⟨_, r1⟩, r2, ⟨y3, z3, r4, r5⟩, y4, _, z4, r6⟩
def SpotAt (w : World) (D : Nat → Prop) (g o : Nat) (s : SpotD) : Prop := ∃ a7 c7 a8 c8,
  (w.cell? ⟨g, o, none⟩ = some (.int .i64 s.fn) ∧ w.cell? ⟨g, o + 1, none⟩ = some (.int .i64 s.pc) ∧ w.cell? ⟨g, o + 2, none⟩ = some (.int .i64 s.base) ∧ w.cell? ⟨g, o + 3, none⟩ = some (.bool s.leaving) ∧ w.cell? ⟨g, o + 4, none⟩ = some (.bool s.defers) ∧ w.cell? ⟨g, o + 5, none⟩ = some (.int .i64 s.value) ∧ w.cell? ⟨g, o + 6, none⟩ = some (.bool s.has) ∧ w.cell? ⟨g, o + 7, none⟩ = some (.slice a7 s.slots.length c7) ∧ w.cell? ⟨g, o + 8, none⟩ = some (.slice a8 s.objects.length c8)) ∧ IntSl w D a7 s.slots ∧ IntSl w D a8 s.objects
theorem SpotAt.fr {F : Nat → Prop} {w w' : World} {D : Nat → Prop} {g o : Nat} {s : SpotD} (h : SpotAt w D g o s) (hf : Fr F w w') (hd : ∀ k, D k → ¬ F k) (hg : ¬ F g) : SpotAt w' D g o s := by
  obtain ⟨a7, c7, a8, c8, ⟨q0, q1, q2, q3, q4, q5, q6, q7, q8⟩, h7, h8⟩ := h
  exact ⟨a7, c7, a8, c8, ⟨hf.cell q0 hg, hf.cell q1 hg, hf.cell q2 hg, hf.cell q3 hg, hf.cell q4 hg, hf.cell q5 hg, hf.cell q6 hg, hf.cell q7 hg, hf.cell q8 hg⟩, h7.fr hf hd, h8.fr hf hd⟩
def FrmSl (w : World) (D : Nat → Prop) (a : Option Addr) (l : List SpotD) : Prop := ∀ j (hj : j < l.length), ∃ g o, a = some ⟨g, o, none⟩ ∧ D g ∧ SpotAt w D g (o + j * 9) l[j]
theorem FrmSl.fr {F : Nat → Prop} {w w' : World} {D : Nat → Prop} {a : Option Addr} {l : List SpotD} (h : FrmSl w D a l) (hf : Fr F w w') (hd : ∀ k, D k → ¬ F k) : FrmSl w' D a l := fun j hj => by
  obtain ⟨g, o, e, hD, h⟩ := h j hj
  exact ⟨g, o, e, hD, h.fr hf hd (hd g hD)⟩
def ThkAt (w : World) (D : Nat → Prop) (g o : Nat) (t : ThkD) : Prop := ∃ a c, w.cell? ⟨g, o, none⟩ = some (.int .i64 t.fn) ∧ w.cell? ⟨g, o + 1, none⟩ = some (.slice a t.args.length c) ∧ IntSl w D a t.args
def ThkSl (w : World) (D : Nat → Prop) (a : Option Addr) (l : List ThkD) : Prop := ∀ j (hj : j < l.length), ∃ g o, a = some ⟨g, o, none⟩ ∧ D g ∧ ThkAt w D g (o + j * 2) l[j]
theorem ThkSl.fr {F : Nat → Prop} {w w' : World} {D : Nat → Prop} {a : Option Addr} {l : List ThkD} (h : ThkSl w D a l) (hf : Fr F w w') (hd : ∀ k, D k → ¬ F k) : ThkSl w' D a l := fun j hj => by
  obtain ⟨g, o, e, hD, a', c', q0, q1, h⟩ := h j hj
  exact ⟨g, o, e, hD, a', c', hf.cell q0 (hd g hD), hf.cell q1 (hd g hD), h.fr hf hd⟩
def ThsSl (w : World) (D : Nat → Prop) (a : Option Addr) (l : List (List ThkD)) : Prop := ∀ j (hj : j < l.length), ∃ g o, a = some ⟨g, o, none⟩ ∧ D g ∧ ∃ a' c', w.cell? ⟨g, o + j, none⟩ = some (.slice a' l[j].length c') ∧ ThkSl w D a' l[j]
theorem ThsSl.fr {F : Nat → Prop} {w w' : World} {D : Nat → Prop} {a : Option Addr} {l : List (List ThkD)} (h : ThsSl w D a l) (hf : Fr F w w') (hd : ∀ k, D k → ¬ F k) : ThsSl w' D a l := fun j hj => by
  obtain ⟨g, o, e, hD, a', c', q0, h⟩ := h j hj
  exact ⟨g, o, e, hD, a', c', hf.cell q0 (hd g hD), h.fr hf hd⟩
def AlmSl (w : World) (D : Nat → Prop) (a : Option Addr) (l : List AlmD) : Prop := ∀ j (hj : j < l.length), ∃ g o, a = some ⟨g, o, none⟩ ∧ D g ∧ w.cell? ⟨g, o + j * 5, none⟩ = some (.int .i64 l[j].code) ∧ w.cell? ⟨g, o + j * 5 + 1, none⟩ = some (.int .i64 l[j].ptr) ∧ w.cell? ⟨g, o + j * 5 + 2, none⟩ = some (.int .i64 l[j].run) ∧ w.cell? ⟨g, o + j * 5 + 3, none⟩ = some (.bool l[j].exit) ∧ w.cell? ⟨g, o + j * 5 + 4, none⟩ = some (.bool l[j].recovered)
theorem AlmSl.fr {F : Nat → Prop} {w w' : World} {D : Nat → Prop} {a : Option Addr} {l : List AlmD} (h : AlmSl w D a l) (hf : Fr F w w') (hd : ∀ k, D k → ¬ F k) : AlmSl w' D a l := fun j hj => by
  obtain ⟨g, o, e, hD, q0, q1, q2, q3, q4⟩ := h j hj
  exact ⟨g, o, e, hD, hf.cell q0 (hd g hD), hf.cell q1 (hd g hD), hf.cell q2 (hd g hD), hf.cell q3 (hd g hD), hf.cell q4 (hd g hD)⟩
/-- a task's seven cells -/
def LifeVal (w : World) (D : Nat → Prop) (l : LifeD) (a3 : Option Addr) (m3 : Nat) (a4 : Option Addr) (m4 : Nat) (a5 : Option Addr) (m5 : Nat) : Prop := FrmSl w D a3 l.frames ∧ ThsSl w D a4 l.thunks ∧ AlmSl w D a5 l.alarms
def lifeA (l : LifeD) (a3 : Option Addr) (m3 : Nat) (a4 : Option Addr) (m4 : Nat) (a5 : Option Addr) (m5 : Nat) : Array Value := #[.int .i64 l.status, .int .i64 l.seg, .int .i64 l.words, .slice a3 l.frames.length m3, .slice a4 l.thunks.length m4, .slice a5 l.alarms.length m5, .bool l.black]
theorem LifeVal.fr {F : Nat → Prop} {w w' : World} {D : Nat → Prop} {l : LifeD} {a3 a4 a5 : Option Addr} {m3 m4 m5 : Nat} (h : LifeVal w D l a3 m3 a4 m4 a5 m5) (hf : Fr F w w') (hd : ∀ k, D k → ¬ F k) : LifeVal w' D l a3 m3 a4 m4 a5 m5 := ⟨h.1.fr hf hd, h.2.1.fr hf hd, h.2.2.fr hf hd⟩
theorem LifeVal.below {w w' : World} {D : Nat → Prop} {l : LifeD} {a3 a4 a5 : Option Addr} {m3 m4 m5 : Nat} (h : LifeVal w D l a3 m3 a4 m4 a5 m5) (hb : Below w.heap.size w w') : LifeVal w' D l a3 m3 a4 m4 a5 m5 := h.fr (Fr.of_below hb (fun _ => False)) (fun _ _ h => h)
def FrmOk (p : Prg) (s : SpotD) : Prop := 0 ≤ s.fn ∧ s.fn < p.funcs.length ∧ 0 ≤ s.base ∧ s.base ≤ 1000000000 ∧ i64B s.pc ∧ i64B s.value ∧ s.slots.length ≤ 3000 ∧ s.objects.length ≤ 100000 ∧ (∀ x ∈ s.slots, i64B x) ∧ ∀ x ∈ s.objects, i64B x
def LifeOk (p : Prg) (l : LifeD) : Prop := (∀ s ∈ l.frames, FrmOk p s) ∧ 0 ≤ l.seg ∧ l.seg ≤ 100000000000 ∧ l.frames.length ≤ 100 ∧ l.thunks.length ≤ 100 ∧ (∀ t ∈ l.thunks, t.length ≤ 100 ∧ ∀ x ∈ t, x.args.length ≤ 3000 ∧ ∀ y ∈ x.args, i64B y) ∧ l.alarms.length ≤ 100 ∧ ∀ x ∈ l.alarms, i64B x.ptr
end Go.Proofs.YtknbllbhakpaaaaGreat
