/- Walks: package image's writer: a function. -/
import Derived.Test.YtmmdppjbofbjhaaAppStr
namespace Go.Proofs.Ytmmdppjbofbjhaa
open Go.ChangeShapes Go.WideShapes Go.ChangeAt Go.RowKit

/-- where one stands: from wa, v on, in the world w, with v' and what is laid -/
def St (wa : World) (B p : Nat) (v : Value) (w : World) (v' : Value) (s : List Int × Bool) : Prop := Wr w B p v' s.1 s.2 ∧ Fr (wrF p v) wa w ∧ Fresh wa v v'
theorem St.refl {wa : World} {B p : Nat} {v : Value} {s : List Int × Bool} (h : Wr wa B p v s.1 s.2) : St wa B p v wa v s := ⟨h, Fr.refl _ _, fun _ h => .inl h⟩
theorem St.trans {wa w w' : World} {B p : Nat} {v v1 v' : Value} {s t : List Int × Bool} (h : St wa B p v w v1 s) (h2 : St w B p v1 w' v' t) : St wa B p v w' v' t := by
  obtain ⟨_, hf, hfr⟩ := h
  obtain ⟨hw, hf2, hfr2⟩ := h2
  refine ⟨hw, hf.trans hf2 (fun k hk hF => ?_), hfr.trans hfr2 hf.size⟩
  rcases hF with h | h
  · exact .inl h
  · rcases hfr k h with h' | h'
    · exact .inr h'
    · omega
theorem St.alloc {wa w : World} {B p : Nat} {v v' : Value} {s : List Int × Bool} (h : St wa B p v w v' s) (o : Obj) : St wa B p v (w.alloc o) v' s := ⟨wr_alloc h.1 o, h.2.1.alloc o, h.2.2⟩
theorem St.below {wa w w' : World} {B p : Nat} {v v' : Value} {s : List Int × Bool} (h : St wa B p v w v' s) (hb : Below w.heap.size w w') : St wa B p v w' v' s :=
  ⟨wr_below h.1 hb, h.2.1.trans (Fr.of_below hb (fun _ => False)) (fun _ _ h => h.elim), h.2.2⟩
theorem St.post {wa w : World} {B p : Nat} {v v' : Value} {s : List Int × Bool} (h : St wa B p v w v' s) : WrPost wa B p v s.1 s.2 w := ⟨v', h⟩
abbrev Dom (wa : World) (p : Nat) (v : Value) (D : Nat → Prop) : Prop := ∀ k, D k → k ≠ p ∧ v.ownBlock ≠ some k ∧ k < wa.heap.size
theorem st_list {wa w : World} {B p : Nat} {v v1 : Value} {s : List Int × Bool} (h : St wa B p v w v1 s) {D : Nat → Prop} (hD : Dom wa p v D) {a : Option Addr} {l : List Int} (c : Nat) (hsl : IntSl wa D a l) (hlen : s.1.length + l.length ≤ 1000000) :
    Calls Try.prog 114 #[.pointer (some ⟨p, 0, none⟩), .slice a l.length c] w fun e w' => e = .returned (.tuple #[]) ∧ ∃ v', St wa B p v w' v' (wList s l) :=
  (list_any w B p v1 s h.1 D a l c (hsl.fr h.2.1 (wr_clear hD)) (wr_dom hD h.2.1 h.2.2) hlen).mono fun _ _ ⟨he, v', hp⟩ => ⟨he, v', h.trans hp⟩
theorem st_nums {wa w : World} {B p : Nat} {v v1 : Value} {s : List Int × Bool} (h : St wa B p v w v1 s) (l : List Int) (hlen : s.1.length + l.length ≤ 10000000) :
    Calls Try.prog 115 #[.pointer (some ⟨p, 0, none⟩), .slice (some ⟨w.heap.size, 0, none⟩) l.length l.length] (w.alloc (.cells (l.map (Value.int .i64)).toArray 3)) fun e w' => e = .returned (.tuple #[]) ∧ ∃ v', St wa B p v w' v' (wNums s l) :=
  (nums_new w B p v1 s h.1 l hlen).mono fun _ _ ⟨he, v', hp⟩ => ⟨he, v', h.trans hp⟩
/-- the cells of a block that is not the writer's -/
theorem St.keep {wa w : World} {B p : Nat} {v v' : Value} {s : List Int × Bool} (h : St wa B p v w v' s) {D : Nat → Prop} (hD : Dom wa p v D) {b : Nat} (hb : D b) {o : Nat} {u : Value} (hc : wa.cell? ⟨b, o, none⟩ = some u) : w.cell? ⟨b, o, none⟩ = some u :=
  h.2.1.cell hc (wr_clear hD b hb)
theorem box_dom {w : World} {B p : Nat} {v : Value} {out : List Int} {bad : Bool} (h : Wr w B p v out bad) (o : Obj) {D : Nat → Prop} (hD : Dom w p v D) : Dom (w.alloc o) p v (fun k => D k ∨ k = w.heap.size) := by
  intro k hk
  rcases hk with hk | rfl
  · obtain ⟨h1, h2, h3⟩ := hD k hk
    exact ⟨h1, h2, by simp; omega⟩
  · exact new_dom h o _ rfl
theorem lay_str (l : List Ins) : ∃ s E, layRes l = .tuple #[.string s, .int .i64 E] ∧ strInts s = (if laid l then layL l else []) ∧ (E != 0) = !laid l ∧ s.size ≤ 7 * l.length := by
  cases h : laid l
  · exact ⟨⟨#[]⟩, 1, by simp [layRes, h], rfl, rfl, Nat.zero_le _⟩
  · refine ⟨bytesS (layL l), 0, by simp [layRes, h], ?_, rfl, by rw [bytesS_size, layL_len]; omega⟩
    rw [if_pos rfl]
    apply strInts_bytesS
    intro x hx
    obtain ⟨y, hy, hxy⟩ := List.mem_flatMap.1 hx
    exact layI_bd y (List.all_eq_true.1 h y hy) x hxy

set_option maxRecDepth 100000 in
set_option maxHeartbeats 3200000 in
theorem fn_any (w : World) (B p : Nat) (v : Value) (s : List Int × Bool) (hw : Wr w B p v s.1 s.2) (D : Nat → Prop) (f : Fun) (c0 c1 c2 c3 c4 : Value) (hf : FunVal w D f c0 c1 c2 c3 c4)
    (hD : Dom w p v D) (hlen : s.1.length + f.args.length + f.objects.length + 7 * f.code.length ≤ 900000) (hcode : f.code.length ≤ 100000) :
    Calls Try.prog 116 #[.pointer (some ⟨p, 0, none⟩), .agg #[c0, c1, c2, c3, c4]] w fun e w' => e = .returned (.tuple #[]) ∧ WrPost w B p v (wFn s f).1 (wFn s f).2 w' := by
  obtain ⟨rfl, rfl, ⟨a0, n0, rfl, hs0⟩, ⟨a3, n3, rfl, hs3⟩, a4, n4, rfl, hs4⟩ := hf
  have hD' := box_dom hw (.cells #[.slice a0 f.args.length n0, .int .i64 f.result, .int .i64 f.slots, .slice a3 f.objects.length n3, .slice a4 f.code.length n4] 86) hD
  have hst0 := St.refl (wr_alloc hw (.cells #[.slice a0 f.args.length n0, .int .i64 f.result, .int .i64 f.slots, .slice a3 f.objects.length n3, .slice a4 f.code.length n4] 86))
  have hfin : ∀ w' v', St w B p v w' v' (wFn s f) → WrPost w B p v (wFn s f).1 (wFn s f).2 w' := fun w' v' h => h.post
  have hfr0 : Fr (fun _ => False) w (w.alloc (.cells #[.slice a0 f.args.length n0, .int .i64 f.result, .int .i64 f.slots, .slice a3 f.objects.length n3, .slice a4 f.code.length n4] 86)) := (Fr.refl _ _).alloc _
  have hs0 := hs0.fr hfr0 (fun _ _ h => h)
  have hs3 := hs3.fr hfr0 (fun _ _ h => h)
  have hs4 := hs4.fr hfr0 (fun _ _ h => h)
  have hbase : St w B p v (w.alloc (.cells #[.slice a0 f.args.length n0, .int .i64 f.result, .int .i64 f.slots, .slice a3 f.objects.length n3, .slice a4 f.code.length n4] 86)) v s := (St.refl hw).alloc _
  have k1 := fun (w1 : World) v1 t (h : St (w.alloc (.cells #[.slice a0 f.args.length n0, .int .i64 f.result, .int .i64 f.slots, .slice a3 f.objects.length n3, .slice a4 f.code.length n4] 86)) B p v w1 v1 t) =>
    (show w1.cell? ⟨w.heap.size, 1, none⟩ = some (.int .i64 f.result) ∧ w1.cell? ⟨w.heap.size, 2, none⟩ = some (.int .i64 f.slots) ∧ w1.cell? ⟨w.heap.size, 3, none⟩ = some (.slice a3 f.objects.length n3) ∧ w1.cell? ⟨w.heap.size, 4, none⟩ = some (.slice a4 f.code.length n4) from
      ⟨h.keep hD' (.inr rfl) (cell_new w _ _ _ 1), h.keep hD' (.inr rfl) (cell_new w _ _ _ 2), h.keep hD' (.inr rfl) (cell_new w _ _ _ 3), h.keep hD' (.inr rfl) (cell_new w _ _ _ 4)⟩)
  have hD0 : Dom (w.alloc (.cells #[.slice a0 f.args.length n0, .int .i64 f.result, .int .i64 f.slots, .slice a3 f.objects.length n3, .slice a4 f.code.length n4] 86)) p v D := fun k hk => hD' k (.inl hk)
  generalize hwa : w.alloc (.cells #[.slice a0 f.args.length n0, .int .i64 f.result, .int .i64 f.slots, .slice a3 f.objects.length n3, .slice a4 f.code.length n4] 86) = wa at *
  have hq0 : wa.cell? ⟨w.heap.size, 0, none⟩ = some (.slice a0 f.args.length n0) := by rw [← hwa]; exact cell_new w _ _ _ 0
  have l1 := st_list hst0 hD0 n0 hs0 (by omega)
  have l2 := fun w1 v1 (h : St wa B p v w1 v1 (wList s f.args)) => st_nums h [f.result, f.slots] (by rw [wList_len]; simp; omega)
  have l3 := fun w1 v1 (h : St wa B p v w1 v1 (wNums (wList s f.args) [f.result, f.slots])) => st_list h hD0 n3 hs3 (by rw [wNums_len, wList_len]; simp; omega)
  have l4 := fun w1 v1 (h : St wa B p v w1 v1 (wList (wNums (wList s f.args) [f.result, f.slots]) f.objects)) => st_nums h [(f.code.length : Int)] (by rw [wList_len, wNums_len, wList_len]; simp; omega)
  have l5 := fun w1 v1 t (h : St wa B p v w1 v1 t) => lay_any f.code a4 n4 w1 hcode ((hs4.fr h.2.1 (wr_clear hD0)).plain)
  obtain ⟨code, E, hE1, hE2, hE3, hE4⟩ := lay_str f.code
  rw [hE1] at l5
  have hfn : wFn s f = ((wNums (wList (wNums (wList s f.args) [f.result, f.slots]) f.objects) [(f.code.length : Int)]).1 ++ strInts code, (wNums (wList (wNums (wList s f.args) [f.result, f.slots]) f.objects) [(f.code.length : Int)]).2 || (E != 0)) := by
    rw [hE2, hE3]; rfl
  rw [hfn] at hfin ⊢
  have hl4 : (wNums (wList (wNums (wList s f.args) [f.result, f.slots]) f.objects) [(f.code.length : Int)]).1.length + code.size ≤ 10000000 := by
    rw [wNums_len, wList_len, wNums_len, wList_len]; simp; omega
  generalize wNums (wList (wNums (wList s f.args) [f.result, f.slots]) f.objects) [(f.code.length : Int)] = s4 at *
  generalize wList (wNums (wList s f.args) [f.result, f.slots]) f.objects = s3 at *
  generalize wNums (wList s f.args) [f.result, f.slots] = s2 at *
  generalize wList s f.args = s1 at *
  have hsz : w.heap.size < wa.heap.size := by rw [← hwa]; simp
  have HWA := Lib.hid hwa
  have HFIN : Hid (∀ w' v' t, t = (s4.1 ++ strInts code, s4.2 || E != 0) → St wa B p v w' v' t → WrPost w B p v (s4.1 ++ strInts code) (s4.2 || E != 0) w') := fun w' v' t ht h => hfin w' v' (by rw [← ht]; exact hbase.trans h)
  have HL4 := Lib.hid hl4
  clear hst0 hfin hs0 hs3 hs4 hD0 hD' hD hw hfr0 hbase hE1 hE2 hE4 hfn hlen hcode hE3 hl4 hwa
  have K1 := Lib.hid k1; have L1 := Lib.hid l1; have L2 := Lib.hid l2; have L3 := Lib.hid l3; have L4 := Lib.hid l4; have L5 := Lib.hid l5
  clear k1 l1 l2 l3 l4 l5
  go_enter Try.func116, Try.ntmps116
  go_wp2_with fail
  rw [HWA.out]
  refine L1.out.mono ?_
  rintro e w1 ⟨rfl, v1, hst1⟩
  obtain ⟨q1, q2, q3, q4⟩ := K1.out _ _ _ hst1
  have l := L2.out _ _ hst1
  have L := Lib.hid l
  clear l hst1 hq0
  go_wp2_with fail
  refine L.out.mono ?_
  rintro e w2 ⟨rfl, v2, hst2⟩
  clear q1 q2 q3 q4
  obtain ⟨_, _, q3, q4⟩ := K1.out _ _ _ hst2
  have l := L3.out _ _ hst2
  have L' := Lib.hid l
  clear l hst2
  go_wp2_with fail
  refine L'.out.mono ?_
  rintro e w3 ⟨rfl, v3, hst3⟩
  clear q3 q4
  obtain ⟨_, _, _, q4⟩ := K1.out _ _ _ hst3
  have l := L4.out _ _ hst3
  have L3' := Lib.hid l
  clear l hst3
  go_wp2_with fail
  refine L3'.out.mono ?_
  rintro e w4 ⟨rfl, v4, hst4⟩
  clear q4
  obtain ⟨_, _, _, q4⟩ := K1.out _ _ _ hst4
  have l := L5.out _ _ _ hst4
  have L5' := Lib.hid l
  have HST := Lib.hid hst4
  clear l hst4
  go_wp2_with fail
  refine L5'.out.mono ?_
  rintro e w5 ⟨rfl, hb5⟩
  have hst5 := HST.out.below hb5
  obtain ⟨q0, q1, q2, q3⟩ := two_cells (show w5.heap[p]? = some (.cells #[v4, .bool s4.2] 133) from hst5.1.1)
  have HW4 := Lib.hid hst5
  clear hst5 hb5 q4
  cases hb4 : s4.2
  · rw [hb4] at q1
    cases hE : (E != 0)
    · skip
      skip
      go_wp2_with (at_builtin; refine append_str rfl (.tmp 48) (.tmp 49) rfl B s4.1 v4 rfl (Own.fr HW4.out.1.2.1 (Fr.setCell (Fr.refl (fun k => k = p) _) (p := ⟨p, 1, none⟩) (fun _ => rfl) (.bool false)) (fun k hk e => HW4.out.1.2.2.1 (by rw [hk, e]))) code rfl ?c1 ?c2 ?_)
      case c1 => have := HL4.out; omega
      case c2 => have := HW4.out.1.2.2.2; have := heap_lt HW4.out.1.1; simp; omega
      intro v6 w6 hown6 hg6 hfr6
      have e1 : w6.heap[p]? = some (.cells #[v4, .bool false] 133) := by
        have hpl := heap_lt HW4.out.1.1
        rw [hg6.block p (by simp; omega) (fun e => HW4.out.1.2.2.1 e.symm)]
        exact two_set1 HW4.out.1.1
      obtain ⟨r0, r1, r2, r3⟩ := two_cells e1
      have hv6 : v6.ownBlock ≠ some p := fun e => by
        rcases hfr6 p e with h' | h'
        · exact HW4.out.1.2.2.1 h'
        · have := heap_lt HW4.out.1.1; simp at h'; omega
      have hst6 : St w5 B p v4 (w6.setCell ⟨p, 0, none⟩ v6) v6 (s4.1 ++ strInts code, false) := by
        refine ⟨⟨two_set0 e1, hown6.fr (Fr.setCell (Fr.refl (fun k => k = p) _) (p := ⟨p, 0, none⟩) (fun _ => rfl) _) (fun k hk e => hv6 (by rw [hk, e])), hv6, HW4.out.1.2.2.2⟩, ?_, ?_⟩
        · refine (((Fr.refl (wrF p v4) w5).setCell (p := ⟨p, 1, none⟩) (fun _ => .inl rfl) _).grown hg6 (fun k hk _ => .inr hk)).setCell (p := ⟨p, 0, none⟩) (fun _ => .inl rfl) _
        · intro k hk
          rcases hfr6 k hk with h' | h'
          · exact .inl h'
          · exact .inr (by simp at h'; exact h')
      have HFF := Lib.hid (HFIN.out _ _ _ (by rw [hb4]; simp [*]) (HW4.out.trans hst6))
      obtain ⟨a6, n6, c6, rfl⟩ := hown6.slice
      clear hg6 hfr6 hown6 hst6 e1 hv6
      go_wp2_with fail
      go_end0
      exact ⟨rfl, HFF.out⟩
    · skip
      skip
      go_wp2_with (at_builtin; refine append_str rfl (.tmp 48) (.tmp 49) rfl B s4.1 v4 rfl (Own.fr HW4.out.1.2.1 (Fr.setCell (Fr.refl (fun k => k = p) _) (p := ⟨p, 1, none⟩) (fun _ => rfl) (.bool true)) (fun k hk e => HW4.out.1.2.2.1 (by rw [hk, e]))) code rfl ?c1 ?c2 ?_)
      case c1 => have := HL4.out; omega
      case c2 => have := HW4.out.1.2.2.2; have := heap_lt HW4.out.1.1; simp; omega
      intro v6 w6 hown6 hg6 hfr6
      have e1 : w6.heap[p]? = some (.cells #[v4, .bool true] 133) := by
        have hpl := heap_lt HW4.out.1.1
        rw [hg6.block p (by simp; omega) (fun e => HW4.out.1.2.2.1 e.symm)]
        exact two_set1 HW4.out.1.1
      obtain ⟨r0, r1, r2, r3⟩ := two_cells e1
      have hv6 : v6.ownBlock ≠ some p := fun e => by
        rcases hfr6 p e with h' | h'
        · exact HW4.out.1.2.2.1 h'
        · have := heap_lt HW4.out.1.1; simp at h'; omega
      have hst6 : St w5 B p v4 (w6.setCell ⟨p, 0, none⟩ v6) v6 (s4.1 ++ strInts code, true) := by
        refine ⟨⟨two_set0 e1, hown6.fr (Fr.setCell (Fr.refl (fun k => k = p) _) (p := ⟨p, 0, none⟩) (fun _ => rfl) _) (fun k hk e => hv6 (by rw [hk, e])), hv6, HW4.out.1.2.2.2⟩, ?_, ?_⟩
        · refine (((Fr.refl (wrF p v4) w5).setCell (p := ⟨p, 1, none⟩) (fun _ => .inl rfl) _).grown hg6 (fun k hk _ => .inr hk)).setCell (p := ⟨p, 0, none⟩) (fun _ => .inl rfl) _
        · intro k hk
          rcases hfr6 k hk with h' | h'
          · exact .inl h'
          · exact .inr (by simp at h'; exact h')
      have HFF := Lib.hid (HFIN.out _ _ _ (by rw [hb4]; simp [*]) (HW4.out.trans hst6))
      obtain ⟨a6, n6, c6, rfl⟩ := hown6.slice
      clear hg6 hfr6 hown6 hst6 e1 hv6
      go_wp2_with fail
      go_end0
      exact ⟨rfl, HFF.out⟩
  · rw [hb4] at q1
    skip
    go_wp2_with (at_builtin; refine append_str rfl (.tmp 48) (.tmp 49) rfl B s4.1 v4 rfl (Own.fr HW4.out.1.2.1 (Fr.setCell (Fr.refl (fun k => k = p) _) (p := ⟨p, 1, none⟩) (fun _ => rfl) (.bool true)) (fun k hk e => HW4.out.1.2.2.1 (by rw [hk, e]))) code rfl ?c1 ?c2 ?_)
    case c1 => have := HL4.out; omega
    case c2 => have := HW4.out.1.2.2.2; have := heap_lt HW4.out.1.1; simp; omega
    intro v6 w6 hown6 hg6 hfr6
    have e1 : w6.heap[p]? = some (.cells #[v4, .bool true] 133) := by
      have hpl := heap_lt HW4.out.1.1
      rw [hg6.block p (by simp; omega) (fun e => HW4.out.1.2.2.1 e.symm)]
      exact two_set1 HW4.out.1.1
    obtain ⟨r0, r1, r2, r3⟩ := two_cells e1
    have hv6 : v6.ownBlock ≠ some p := fun e => by
      rcases hfr6 p e with h' | h'
      · exact HW4.out.1.2.2.1 h'
      · have := heap_lt HW4.out.1.1; simp at h'; omega
    have hst6 : St w5 B p v4 (w6.setCell ⟨p, 0, none⟩ v6) v6 (s4.1 ++ strInts code, true) := by
      refine ⟨⟨two_set0 e1, hown6.fr (Fr.setCell (Fr.refl (fun k => k = p) _) (p := ⟨p, 0, none⟩) (fun _ => rfl) _) (fun k hk e => hv6 (by rw [hk, e])), hv6, HW4.out.1.2.2.2⟩, ?_, ?_⟩
      · refine (((Fr.refl (wrF p v4) w5).setCell (p := ⟨p, 1, none⟩) (fun _ => .inl rfl) _).grown hg6 (fun k hk _ => .inr hk)).setCell (p := ⟨p, 0, none⟩) (fun _ => .inl rfl) _
      · intro k hk
        rcases hfr6 k hk with h' | h'
        · exact .inl h'
        · exact .inr (by simp at h'; exact h')
    have HFF := Lib.hid (HFIN.out _ _ _ (by rw [hb4]; simp [*]) (HW4.out.trans hst6))
    obtain ⟨a6, n6, c6, rfl⟩ := hown6.slice
    clear hg6 hfr6 hown6 hst6 e1 hv6
    go_wp2_with fail
    go_end0
    exact ⟨rfl, HFF.out⟩
end Go.Proofs.Ytmmdppjbofbjhaa
