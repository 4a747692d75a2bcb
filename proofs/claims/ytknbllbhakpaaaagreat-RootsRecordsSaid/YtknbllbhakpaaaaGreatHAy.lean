/- A map from places to kinds, and a queue, as they lie. -/
import Derived.Test.YtknbllbhakpaaaaGreatHAx
import Derived.ArgAppend
set_option linter.unusedVariables false
set_option linter.unusedSimpArgs false
namespace Go.Proofs.YtknbllbhakpaaaaGreat
open Go.ChangeShapes Go.WideShapes Go.ChangeAt Go.RowKit Go.Maps
set_option maxRecDepth 100000 in
theorem zero_ints (w : World) : (zeroValue 23).run Tryz.prog w = .ok (.slice none 0 0) w := by first | rfl | kernel_rfl
def plA (x : Pl) : Value := .agg #[.int .i64 x.1.1, .int .i64 x.1.2]
theorem map_ty : Tryz.prog.underlying 90 = some (.map plK.k 23) := Tryz.underlying90
/-- kinds at places -/
def FlMap (w : World) (b n : Nat) (V : Nat → Prop) (C : Pl → Option (List Int)) : Prop :=
  ∃ g : Pl → Option Hd, MapIs plK Hd.val w b n g ∧ ∀ x, (C x = none → g x = none) ∧ ∀ K, C x = some K → ∃ a c, g x = some ⟨a, K.length, c⟩ ∧ IntSl w V a K
theorem FlMap.lt {w : World} {b n : Nat} {V : Nat → Prop} {C : Pl → Option (List Int)} (h : FlMap w b n V C) : b < w.heap.size := let ⟨_, h, _⟩ := h; h.lt
theorem FlMap.fr {F : Nat → Prop} {w w' : World} {b n : Nat} {V : Nat → Prop} {C : Pl → Option (List Int)} (h : FlMap w b n V C) (hf : Fr F w w') (hb : ¬ F b) (hV : ∀ k, V k → ¬ F k) : FlMap w' b n V C := by
  obtain ⟨g, h1, h2⟩ := h
  refine ⟨g, h1.fr hf hb, fun x => ⟨(h2 x).1, fun K hK => ?_⟩⟩
  obtain ⟨a, c, h3, h4⟩ := (h2 x).2 K hK
  exact ⟨a, c, h3, h4.fr hf hV⟩
theorem FlMap.wide {w : World} {b n : Nat} {V V' : Nat → Prop} {C : Pl → Option (List Int)} (h : FlMap w b n V C) (hV : ∀ k, V k → V' k) : FlMap w b n V' C := by
  obtain ⟨g, h1, h2⟩ := h
  refine ⟨g, h1, fun x => ⟨(h2 x).1, fun K hK => ?_⟩⟩
  obtain ⟨a, c, h3, h4⟩ := (h2 x).2 K hK
  exact ⟨a, c, h3, h4.wide hV⟩
theorem FlMap.made (w : World) (V : Nat → Prop) : FlMap (w.alloc (.map #[] 0)) w.heap.size 0 V (fun _ => none) :=
  ⟨fun _ => none, MapIs.made plK Hd.val w, fun x => ⟨fun _ => rfl, fun K h => by cases h⟩⟩
theorem FlMap.none_run {w : World} {b n : Nat} {V : Nat → Prop} {C : Pl → Option (List Int)} (h : FlMap w b n V C) (x : Pl) (hx : C x = none) :
    (Instr.lookup 90 (.map (some b)) (plA x) true).run Tryz.prog w = .ok (.tuple #[.slice none 0 0, .bool false]) w ∧ (Instr.lookup 90 (.map (some b)) (plA x) false).run Tryz.prog w = .ok (.slice none 0 0) w := by
  obtain ⟨g, h1, h2⟩ := h
  have hl := (h1.look map_ty (zero_ints w) x trivial).2 ((h2 x).1 hx)
  exact ⟨hl.2, hl.1⟩
theorem FlMap.some_run {w : World} {b n : Nat} {V : Nat → Prop} {C : Pl → Option (List Int)} (h : FlMap w b n V C) (x : Pl) (K : List Int) (hx : C x = some K) : ∃ a c, IntSl w V a K ∧
    (Instr.lookup 90 (.map (some b)) (plA x) true).run Tryz.prog w = .ok (.tuple #[.slice a K.length c, .bool true]) w ∧ (Instr.lookup 90 (.map (some b)) (plA x) false).run Tryz.prog w = .ok (.slice a K.length c) w := by
  obtain ⟨g, h1, h2⟩ := h
  obtain ⟨a, c, h3, h4⟩ := (h2 x).2 K hx
  have hl := (h1.look map_ty (zero_ints w) x trivial).1 _ h3
  exact ⟨a, c, h4, hl.2, hl.1⟩
theorem FlMap.put {w : World} {b n : Nat} {V : Nat → Prop} {C : Pl → Option (List Int)} (h : FlMap w b n V C) (hn : n < maxLen) (x : Pl) (a : Option Addr) (K : List Int) (c : Nat) (hs : IntSl w V a K) (hV : ∀ k, V k → k ≠ b) :
    ∃ w', (Instr.mapUpdate 90 (.map (some b)) (plA x) (.slice a K.length c)).run Tryz.prog w = .ok () w' ∧ FlMap w' b (if (C x).isSome then n else n + 1) V (upd C x (some K)) ∧ w.mapTurned w' b := by
  obtain ⟨g, h1, h2⟩ := h
  obtain ⟨w', hr, h3, h4⟩ := h1.put map_ty hn x trivial (⟨a, K.length, c⟩ : Hd)
  have hgC : (g x).isSome = (C x).isSome := by
    cases hc : C x with
    | none => rw [(h2 x).1 hc]; rfl
    | some K' =>
      obtain ⟨a', c', h5, _⟩ := (h2 x).2 K' hc
      rw [h5]
      rfl
  rw [hgC] at h3
  have hf := turned_fr h4
  refine ⟨w', hr, ⟨_, h3, fun y => ?_⟩, h4⟩
  unfold upd
  by_cases hy : y = x
  · rw [if_pos hy, if_pos hy]
    refine ⟨fun h => (by cases h), fun K' hK' => ?_⟩
    injection hK' with e
    subst e
    exact ⟨a, c, rfl, hs.fr hf hV⟩
  · rw [if_neg hy, if_neg hy]
    refine ⟨(h2 y).1, fun K' hK' => ?_⟩
    obtain ⟨a', c', h5, h6⟩ := (h2 y).2 K' hK'
    exact ⟨a', c', h5, h6.fr hf hV⟩
/-- a queue of one's own: what was taken from it lies ahead of it -/
def Que (w : World) (B : Nat) (v : Value) (l : List Int) : Prop :=
  (∃ a, v = .slice a 0 0 ∧ l = [] ∧ ∀ k, v.ownBlock = some k → B ≤ k ∧ k < w.heap.size) ∨
  ∃ g pre c, v = .slice (some ⟨g, pre.length, none⟩) l.length c ∧ l.length ≤ c ∧ Own intE w B (.slice (some ⟨g, 0, none⟩) (pre ++ l).length (pre.length + c)) (pre ++ l)
theorem Que.nil (w : World) (B : Nat) : Que w B (.slice none 0 0) [] := .inl ⟨none, rfl, rfl, fun k h => by cases h⟩
theorem Que.own {w : World} {B g c : Nat} {l : List Int} (hc : l.length ≤ c) (h : Own intE w B (.slice (some ⟨g, 0, none⟩) l.length c) l) : Que w B (.slice (some ⟨g, 0, none⟩) l.length c) l :=
  .inr ⟨g, [], c, rfl, hc, by simpa using h⟩
theorem Que.lt {w : World} {B : Nat} {v : Value} {l : List Int} (h : Que w B v l) {k : Nat} (hk : v.ownBlock = some k) : B ≤ k ∧ k < w.heap.size := by
  rcases h with ⟨a, rfl, rfl, h⟩ | ⟨g, pre, c, rfl, _, h⟩
  · exact h k hk
  · exact h.lt (k := k) (by simpa [Value.ownBlock] using hk)
theorem Que.fr {F : Nat → Prop} {w w' : World} {B : Nat} {v : Value} {l : List Int} (h : Que w B v l) (hf : Fr F w w') (hn : ∀ k, v.ownBlock = some k → ¬ F k) : Que w' B v l := by
  rcases h with ⟨a, rfl, rfl, h⟩ | ⟨g, pre, c, rfl, hc, h⟩
  · exact .inl ⟨a, rfl, rfl, fun k hk => ⟨(h k hk).1, Nat.lt_of_lt_of_le (h k hk).2 hf.size⟩⟩
  · exact .inr ⟨g, pre, c, rfl, hc, h.fr hf (fun k hk => hn k (by simpa [Value.ownBlock] using hk))⟩
theorem Que.slice {w : World} {B : Nat} {v : Value} {l : List Int} (h : Que w B v l) : ∃ a c, v = .slice a l.length c := by
  rcases h with ⟨a, rfl, rfl, _⟩ | ⟨g, pre, c, rfl, _⟩
  · exact ⟨a, 0, rfl⟩
  · exact ⟨_, c, rfl⟩
/-- the first one, and what is left -/
theorem Que.first {w : World} {B : Nat} {v : Value} {x : Int} {l : List Int} (h : Que w B v (x :: l)) :
    ∃ g o c, v = .slice (some ⟨g, o, none⟩) (x :: l).length c ∧ w.cell? ⟨g, o, none⟩ = some (.int .i64 x) ∧ v.ownBlock = some g ∧
      ∃ v', Que w B v' l ∧ (∀ k, v'.ownBlock = some k → v.ownBlock = some k) ∧ ∀ wx : World, (Instr.slice 23 v (some (.int .i64 1)) none none).run Tryz.prog wx = .ok v' wx := by
  rcases h with ⟨a, rfl, h0, _⟩ | ⟨g, pre, c, rfl, hc, h⟩
  · cases h0
  · obtain ⟨a, c', hv, hsl⟩ := own_int h
    injection hv with e1 e2 e3
    subst e1
    obtain ⟨b, o, hb, _, hx⟩ := hsl pre.length (by simp)
    injection hb with hb
    injection hb with hb1 hb2
    subst hb1 hb2
    rw [Nat.zero_add] at hx
    have hl1 : (x :: l).length = l.length + 1 := rfl
    refine ⟨g, pre.length, c, rfl, by simpa using hx, rfl, ?_⟩
    have hrun : ∀ wx : World, (Instr.slice 23 (.slice (some ⟨g, pre.length, none⟩) (x :: l).length c) (some (.int .i64 1)) none none).run Tryz.prog wx = .ok (.slice (if c = 1 then some ⟨g, pre.length, none⟩ else some ⟨g, pre.length + 1, none⟩) l.length (c - 1)) wx := fun wx => by
      have hsz : (Tryz.prog.info? 3).map (·.size) = some 1 := by kernel_rfl
      obtain ⟨i0, hi, hz0, hz1, hz2⟩ := info_parts intE.info
      have hz1 : i0.size = 1 := hz1
      have hi : Tryz.prog.info? 3 = some i0 := hi
      have hz : (sizeOf 3).run Tryz.prog wx = .ok 1 wx := by simp [sizeOf, typeInfo, hi, hz1]
      have ha : (⟨g, pre.length, none⟩ : Addr).add 1 = ⟨g, pre.length + 1, none⟩ := addr_add _ rfl 1
      have h01 : (0 : Int) ≤ 1 ∧ (1 : Int) ≤ (l.length : Int) + 1 := by omega
      simp [Instr.slice, run_underlying Tryz.underlying23, Instr.sliceBounds, Instr.sliceBound, hz, asIntOf, ha, h01]
    by_cases h1 : c = 1
    · have hl0 : l = [] := List.length_eq_zero_iff.1 (by omega)
      subst hl0
      refine ⟨.slice (some ⟨g, pre.length, none⟩) 0 0, .inl ⟨_, rfl, rfl, fun k hk => h.lt (k := k) (by simpa [Value.ownBlock] using hk)⟩, fun k hk => hk, fun wx => ?_⟩
      rw [hrun wx, if_pos h1, h1]
      rfl
    · refine ⟨.slice (some ⟨g, pre.length + 1, none⟩) l.length (c - 1), .inr ⟨g, pre ++ [x], c - 1, by simp, by omega, ?_⟩, fun k hk => hk, fun wx => ?_⟩
      · have e : pre ++ [x] ++ l = pre ++ x :: l := by simp
        rw [e, show (pre ++ [x]).length + (c - 1) = pre.length + c from by simp; omega]
        exact h
      · rw [hrun wx, if_neg h1]
/-- an append onto a queue -/
theorem Que.append {w : World} {B : Nat} {v : Value} {l : List Int} (h : Que w B v l) (hB : B ≤ w.heap.size) (ty : TypeId) (x : Int) (b c : Nat) (hx : w.cell? ⟨b, 0, none⟩ = some (.int .i64 x)) (hl : l.length ≤ 1000000) :
    ∃ v' w', (Builtin.append_ #[23, 23] ty #[v, .slice (some ⟨b, 0, none⟩) 1 c]).run Tryz.prog w = .ok v' w' ∧ Que w' B v' (l ++ [x]) ∧ w.grownBy w' v.ownBlock ∧ Fresh w v v' := by
  obtain ⟨i0, hi, hz0, hz1, hz2⟩ := info_parts intE.info
  have hz1 : i0.size = 1 := hz1
  have hne : ∀ j u, [Value.int .i64 x][j]? = some u → w.cell? ((⟨b, 0, none⟩ : Addr).add j) = some u := fun j u hj => by
    match j, hj with
    | 0, hj =>
      simp at hj
      subst hj
      exact hx
  have h1c : ∀ u ∈ [Value.int .i64 x], u.oneCell' = true := fun u hu => by simp at hu; subst hu; rfl
  have hfl : ∀ m : List Int, m.flatMap intE.enc = m.map (Value.int .i64) := fun m => by
    induction m with
    | nil => rfl
    | cons y m ih => rw [List.flatMap_cons, ih]; rfl
  have grown : ∀ (v' : Value) (w' : World), w'.ownsRow w.heap.size 3 1 v' (l.length + 1) (l.map (Value.int .i64) ++ [.int .i64 x]) → Que w' B v' (l ++ [x]) ∧ ∀ k, v'.ownBlock = some k → w.heap.size ≤ k := fun v' w' ho => by
    have ho2 : Own intE w' w.heap.size v' (l ++ [x]) := by
      unfold Own
      rw [hfl, List.map_append, List.length_append]
      exact ho
    refine ⟨?_, fun k hk => (ho2.lt hk).1⟩
    rcases id ho2.2 with ⟨_, h0⟩ | ⟨g, cap, cur, rfl, _, _, hc, _⟩
    · simp at h0
    · exact Que.own (by simpa using hc) (ho2.base (fun k hk => Nat.le_trans hB (ho2.lt hk).1))
  have hby : (l.length + 1) * i0.bytes ≤ 140737488355328 := by
    have h1 := intE.hby
    have h2 : (l.length + 1) * intE.bytes ≤ 1000001 * 1000 := Nat.mul_le_mul (by omega) h1
    rw [hz2]
    omega
  rcases h with ⟨a, rfl, rfl, hk⟩ | ⟨g, pre, cap, rfl, hc, ho⟩
  · cases a with
    | none =>
      obtain ⟨v', w', hr, h2, h3, h4⟩ := run_append_fresh intE w ty w.heap.size [] [x] (.slice none 0 0) (Own.nil _ _ _) b 0 c (fun j u hj => by
        match j, hj with
        | 0, hj => simp [intE] at hj; subst hj; exact hx) (by simp) (Nat.le_refl _)
      refine ⟨v', w', hr, (grown v' w' (by have := h2; unfold Own at this; rw [hfl] at this; exact this)).1, h3, h4⟩
    | some a =>
      obtain ⟨v', w', hr, h2, h3⟩ := run_append_arg_grows (P := Tryz.prog) w 23 ty 3 i0 intE.zero 1 i0.bytes Tryz.underlying23 hi hz0 hz1 rfl rfl (by decide) a 0 0 [] rfl (fun j u hj => by cases hj) ⟨b, 0, none⟩ 1 c [.int .i64 x] rfl hne (by decide) (by unfold maxLen; omega) (by simpa using hby)
      have hg := grown v' w' h2
      refine ⟨v', w', hr, hg.1, ?_, fun k hk => .inr (hg.2 k hk)⟩
      exact ⟨h3.os, h3.tape, h3.output, h3.size, fun k hk hn => h3.block k hk (fun e => by cases e)⟩
  · have hcells : ∀ j u, ((pre ++ l).map (Value.int .i64))[j]? = some u → w.cell? ⟨g, j, none⟩ = some u := fun j u hj => by
      have := World.ownsRow.cells (g := g) (show w.ownsRow B intE.e intE.size _ _ _ from ho) rfl j u (by rw [hfl]; exact hj)
      rw [addr_add _ rfl] at this
      simpa using this
    by_cases hroom : l.length + 1 ≤ cap
    · have hlen : (pre ++ l).length = pre.length + l.length := List.length_append
      obtain ⟨ho1, ho2⟩ := ho
      rcases ho2 with ⟨hv, _⟩ | ⟨g', cap', cur, hv, hbg, hg, hnc, hcm, hcs, htake⟩
      · cases hv
      injection hv with e1 e2 e3
      injection e1 with e1
      injection e1 with e1
      subst e1 e3
      have hcs : cur.size = (pre.length + cap) * 1 := hcs
      have hin : ∀ j, j < 1 → (w.cell? ⟨g, (pre ++ l).length * i0.size + j, none⟩).isSome = true ∧ w.frozen? ⟨g, (pre ++ l).length * i0.size + j, none⟩ = false := fun j hj => by
        refine ⟨?_, (row_cell hg _).2⟩
        rw [(row_cell hg _).1, Array.getElem?_eq_getElem (by rw [hz1]; omega)]
        rfl
      have hr4 := run_append_room_cells (P := Tryz.prog) w 23 ty 3 i0 Tryz.underlying23 hi g pre.length l.length cap ⟨b, 0, none⟩ 1 c [.int .i64 x] (by rw [hz1]; rfl) hne h1c (by omega) (fun j hj => by rw [show pre.length + l.length * i0.size = (pre ++ l).length * i0.size from by rw [hz1]; omega]; exact (hin j hj).1) (fun j hj => by rw [show pre.length + l.length * i0.size = (pre ++ l).length * i0.size from by rw [hz1]; omega]; exact (hin j hj).2)
      rw [show pre.length + l.length * i0.size = (pre ++ l).length from by rw [hz1]; omega] at hr4
      have hsc : w.setCells g (pre ++ l).length [.int .i64 x] = w.setCell ⟨g, (pre ++ l).length, none⟩ (.int .i64 x) := rfl
      rw [hsc] at hr4
      have hgrow : w.grownBy (w.setCell ⟨g, (pre ++ l).length, none⟩ (.int .i64 x)) (Value.slice (some ⟨g, pre.length, none⟩) l.length cap).ownBlock := ⟨rfl, rfl, rfl, by simp [World.setCell], fun k hk hn => Below.heap_setCell _ _ _ _ (fun e => hn (by rw [e]; rfl))⟩
      refine ⟨_, _, hr4, .inr ⟨g, pre, cap, by simp, by simpa using hroom, ?_⟩, hgrow, fun k hk => .inl (by simpa [Value.ownBlock] using hk)⟩
      have hl3 : (pre ++ l ++ [x]).length = (pre ++ l).length + 1 := by rw [List.length_append]; rfl
      rw [show pre ++ (l ++ [x]) = pre ++ l ++ [x] from by simp]
      refine ⟨by rw [intE.len], .inr ⟨g, pre.length + cap, cur.setIfInBounds (pre ++ l).length (.int .i64 x), rfl, hbg, ?_, by omega, hcm, by rw [Array.size_setIfInBounds]; exact hcs, ?_⟩⟩
      · simp only [World.setCell, Array.getElem?_modify, if_pos rfl, hg, Option.map]
        rfl
      · rw [hfl, List.map_append, ← hfl, hl3]
        have hsz : intE.size = 1 := rfl
        rw [hsz, Nat.mul_one] at htake ⊢
        rw [Array.toList_setIfInBounds]
        have hlt : (pre ++ l).length < cur.toList.length := by simp only [Array.length_toList]; omega
        rw [List.take_add_one, List.take_set_of_le (Nat.le_refl _), htake, List.getElem?_set_self hlt]
        rfl
    · obtain ⟨v', w', hr, h2, h3⟩ := run_append_arg_grows (P := Tryz.prog) w 23 ty 3 i0 intE.zero 1 i0.bytes Tryz.underlying23 hi hz0 hz1 rfl rfl (by decide) ⟨g, pre.length, none⟩ l.length cap (l.map (Value.int .i64)) (by simp) (fun j u hj => by
        rw [addr_add _ rfl]
        exact hcells (pre.length + j) u (by
          rw [List.map_append, List.getElem?_append_right (by simp), List.length_map, Nat.add_sub_cancel_left]
          exact hj)) ⟨b, 0, none⟩ 1 c [.int .i64 x] rfl hne (by omega) (by unfold maxLen; omega) hby
      have hg := grown v' w' h2
      exact ⟨v', w', hr, hg.1, ⟨h3.os, h3.tape, h3.output, h3.size, fun k hk hn => h3.block k hk (fun e => by cases e)⟩, fun k hk => .inr (hg.2 k hk)⟩
end Go.Proofs.YtknbllbhakpaaaaGreat
