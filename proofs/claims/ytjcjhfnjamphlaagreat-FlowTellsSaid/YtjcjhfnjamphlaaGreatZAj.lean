import Derived.Test.YtjcjhfnjamphlaaGreatZAi
set_option linter.unusedVariables false
set_option linter.unusedSimpArgs false
namespace Go.Proofs.YtjcjhfnjamphlaaGreat
open Go.ChangeShapes Go.WideShapes Go.ChangeAt Go.RowKit
theorem Marked.frInts {F : Nat → Prop} {w w' : World} {D : Nat → Prop} {v : Value} {ns : List Nat} (h : Marked IntSl mkInts w D v ns) (hf : Fr F w w') (hd : ∀ k, D k → ¬ F k) : Marked IntSl mkInts w' D v ns := by
 obtain ⟨a, c, h1, h2⟩ := h
 refine ⟨a, c, h1, fun j hj => ?_⟩
 obtain ⟨b, o, e1, e2, x, y, e3, e4⟩ := h2 j hj
 exact ⟨b, o, e1, e2, x, y, hf.cell e3 (hd b e2), e4.fr hf hd⟩
theorem fam_markedInts {w : World} {B : Nat} {X : Nat → Prop} {v : Value} {hs : List Hd} {ls : List (List Int)} (h : Fam intE intsE w B X v hs ls) (hm : ∀ i (hi : i < ls.length), ls[i] = marks mkInts i 0 ls[i].length) : Marked IntSl mkInts w X v (ls.map List.length) := by
 obtain ⟨a, c, hv⟩ := h.slice
 refine ⟨a, c, by rw [hv, List.length_map], fun j hj => ?_⟩
 have hj' : j < ls.length := by simpa using hj
 obtain ⟨g, c2, he, hX, hh, hc, ho⟩ := h.head rfl (fun _ => rfl) j hj'
 rw [hv] at he
 injection he with e1 e2 e3
 obtain ⟨x, y, hx, hsl⟩ := own_int ho
 refine ⟨g, 0, e1, hX, x, y, ?_, ?_⟩
 ·rw [Nat.zero_add, List.getElem_map, hc, hx]
 ·have h1 := hsl.dom (D' := X) (fun k hk => (h.mem j hh k hk).1)
  rw [List.getElem_map, ← hm j hj']; exact h1
theorem out_markedInts {w wr : World} {B : Nat} {X D : Nat → Prop} {v vo : Value} {hs : List Hd} {ls : List (List Int)} (h : OutOk intE intsE mkInts w wr B hs ls vo ls.length) (hF : Fam intE intsE wr B X v hs ls) (h1 : ∀ k, X k → D k) (h2 : ∀ k, w.heap.size ≤ k → D k) : Marked IntSl mkInts wr D vo (ls.map fun l => l.length + 72) := by
 obtain ⟨hs2, g1, g2, g3⟩ := h
 obtain ⟨a, c, hv, hel⟩ := own_elems g1
 refine ⟨a, c, by rw [hv, List.length_map, g2], fun j hj => ?_⟩
 have hj' : j < ls.length := by simpa using hj
 have hj2 : j < hs2.length := by rw [g2]; exact hj'
 have hj1 : j < hs.length := by rw [hF.len]; exact hj'
 obtain ⟨b, e1, e2, e3⟩ := hel j hj2
 obtain ⟨f1, f2, f3⟩ := g3 j hj2 hj1 hj'
 obtain ⟨x, y, hx, hsl⟩ := own_int f2
 rw [marks_len] at hx
 have hc := e3 0 hs2[j].val rfl
 have hsz : (intsE).size = 1 := rfl
 rw [hsz, Nat.mul_one, Nat.add_zero, hx] at hc
 refine ⟨b, 0, e1, h2 b (g1.lt e2).1, x, y, ?_, ?_⟩
 ·rw [Nat.zero_add, List.getElem_map]; exact hc
 ·rw [List.getElem_map]
  exact hsl.dom (fun k hk => by
   rcases (f3 k hk).1 with h | h
   ·exact h1 k (hF.mem j hj1 k h).1
   ·exact h2 k h)
theorem Marked.frInstrs {F : Nat → Prop} {w w' : World} {D : Nat → Prop} {v : Value} {ns : List Nat} (h : Marked InsSlD mkInstrs w D v ns) (hf : Fr F w w') (hd : ∀ k, D k → ¬ F k) : Marked InsSlD mkInstrs w' D v ns := by
 obtain ⟨a, c, h1, h2⟩ := h
 refine ⟨a, c, h1, fun j hj => ?_⟩
 obtain ⟨b, o, e1, e2, x, y, e3, e4⟩ := h2 j hj
 exact ⟨b, o, e1, e2, x, y, hf.cell e3 (hd b e2), e4.fr hf hd⟩
theorem fam_markedInstrs {w : World} {B : Nat} {X : Nat → Prop} {v : Value} {hs : List Hd} {ls : List (List Ins)} (h : Fam insE inssE w B X v hs ls) (hm : ∀ i (hi : i < ls.length), ls[i] = marks mkInstrs i 0 ls[i].length) : Marked InsSlD mkInstrs w X v (ls.map List.length) := by
 obtain ⟨a, c, hv⟩ := h.slice
 refine ⟨a, c, by rw [hv, List.length_map], fun j hj => ?_⟩
 have hj' : j < ls.length := by simpa using hj
 obtain ⟨g, c2, he, hX, hh, hc, ho⟩ := h.head rfl (fun _ => rfl) j hj'
 rw [hv] at he
 injection he with e1 e2 e3
 obtain ⟨x, y, hx, hsl⟩ := own_insD ho
 refine ⟨g, 0, e1, hX, x, y, ?_, ?_⟩
 ·rw [Nat.zero_add, List.getElem_map, hc, hx]
 ·have h1 := hsl.dom (D' := X) (fun k hk => (h.mem j hh k hk).1)
  rw [List.getElem_map, ← hm j hj']; exact h1
theorem out_markedInstrs {w wr : World} {B : Nat} {X D : Nat → Prop} {v vo : Value} {hs : List Hd} {ls : List (List Ins)} (h : OutOk insE inssE mkInstrs w wr B hs ls vo ls.length) (hF : Fam insE inssE wr B X v hs ls) (h1 : ∀ k, X k → D k) (h2 : ∀ k, w.heap.size ≤ k → D k) : Marked InsSlD mkInstrs wr D vo (ls.map fun l => l.length + 72) := by
 obtain ⟨hs2, g1, g2, g3⟩ := h
 obtain ⟨a, c, hv, hel⟩ := own_elems g1
 refine ⟨a, c, by rw [hv, List.length_map, g2], fun j hj => ?_⟩
 have hj' : j < ls.length := by simpa using hj
 have hj2 : j < hs2.length := by rw [g2]; exact hj'
 have hj1 : j < hs.length := by rw [hF.len]; exact hj'
 obtain ⟨b, e1, e2, e3⟩ := hel j hj2
 obtain ⟨f1, f2, f3⟩ := g3 j hj2 hj1 hj'
 obtain ⟨x, y, hx, hsl⟩ := own_insD f2
 rw [marks_len] at hx
 have hc := e3 0 hs2[j].val rfl
 have hsz : (inssE).size = 1 := rfl
 rw [hsz, Nat.mul_one, Nat.add_zero, hx] at hc
 refine ⟨b, 0, e1, h2 b (g1.lt e2).1, x, y, ?_, ?_⟩
 ·rw [Nat.zero_add, List.getElem_map]; exact hc
 ·rw [List.getElem_map]
  exact hsl.dom (fun k hk => by
   rcases (f3 k hk).1 with h | h
   ·exact h1 k (hF.mem j hj1 k h).1
   ·exact h2 k h)
theorem mkd_marks {α : Type} (mk : Nat → Nat → α) (ls : List (List α)) : ∀ i (h : i < (mkd mk ls.length ls).length), (mkd mk ls.length ls)[i] = marks mk i 0 (mkd mk ls.length ls)[i].length := fun i h => by
 have h' : i < ls.length := by simpa [mkd_len] using h
 rw [mkd_get mk ls.length ls i h h', if_pos h', marks_len]
theorem mkd_lens {α : Type} (mk : Nat → Nat → α) (ls : List (List α)) (n : Nat) (hl : ∀ l ∈ ls, l.length ≤ n) : ∀ l ∈ mkd mk ls.length ls, l.length ≤ n := fun l hl' => by
 obtain ⟨i, hi, rfl⟩ := List.getElem_of_mem hl'
 have h' : i < ls.length := by simpa [mkd_len] using hi
 rw [mkd_get mk ls.length ls i hi h', if_pos h', marks_len]
 exact hl _ (List.getElem_mem h')
structure ApS (w : World) (p B : Nat) (X1 X2 : Nat → Prop) (cs : Array Value) (v0 v2 : Value) (hs1 hs2 : List Hd) (L1 : List (List Int)) (L2 : List (List Ins)) (W : World) : Prop where
 bk : Bk W p cs
 f1 : Fam intE intsE W B X1 v0 hs1 L1
 f2 : Fam insE inssE W B X2 v2 hs2 L2
 fr : Fr (fun k => X1 k ∨ X2 k) w W
section
variable {w W W' : World} {p B : Nat} {X1 X2 : Nat → Prop} {cs : Array Value} {v0 v2 : Value} {hs1 hs2 : List Hd} {L1 : List (List Int)} {L2 : List (List Ins)}
theorem ApS.below (h : ApS w p B X1 X2 cs v0 v2 hs1 hs2 L1 L2 W) (hb : Below W.heap.size W W') : ApS w p B X1 X2 cs v0 v2 hs1 hs2 L1 L2 W' :=
 ⟨(Fr.of_below hb (fun _ => False)).heap h.bk (fun h => h), h.f1.fr (Fr.of_below hb (fun _ => False)) (fun _ _ h => h), h.f2.fr (Fr.of_below hb (fun _ => False)) (fun _ _ h => h), h.fr.trans (Fr.of_below hb (fun _ => False)) (fun _ _ h => h.elim)⟩
end
set_option maxRecDepth 100000 in
set_option maxHeartbeats 3200000 in
theorem apart_any (w : World) (p B : Nat) (X1 Y1 X2 Y2 : Nat → Prop) (v0 v1 v2 v3 : Value) (hs1 hs1' hs2 hs2' : List Hd) (ls1 : List (List Int)) (ls2 : List (List Ins))
  (hb : Bk w p #[v0, v1, v2, v3, .slice none 0 0, .slice none 0 0, .slice none 0 0, .slice none 0 0, .slice none 0 0, .slice none 0 0])
  (hF1 : Fam intE intsE w B X1 v0 hs1 ls1) (hF1' : Fam intE intsE w B Y1 v1 hs1' ls1) (hF2 : Fam insE inssE w B X2 v2 hs2 ls2) (hF2' : Fam insE inssE w B Y2 v3 hs2' ls2)
  (hp1 : ¬ X1 p) (hp2 : ¬ X2 p) (hX1 : ∀ k, X1 k → k < w.heap.size) (hX2 : ∀ k, X2 k → k < w.heap.size) (hd : ∀ k, X1 k → ¬ X2 k) (hB : B ≤ w.heap.size)
  (hn1 : ls1.length ≤ 1000) (hl1 : ∀ l ∈ ls1, l.length ≤ 100000) (hn2 : ls2.length ≤ 1000) (hl2 : ∀ l ∈ ls2, l.length ≤ 100000) :
  Calls Tryz.prog 16 #[.pointer (some ⟨p, 0, none⟩)] w fun e w' => e = .returned (.bool true) ∧ Fr (fun k => X1 k ∨ X2 k) w w' := by
 obtain ⟨cs, hcs⟩ : ∃ cs, cs = #[v0, v1, v2, v3, .slice none 0 0, .slice none 0 0, .slice none 0 0, .slice none 0 0, .slice none 0 0, .slice none 0 0] := ⟨_, rfl⟩
 rw [← hcs] at hb
 have c0 : cs[0]? = some v0 := by rw [hcs]; rfl
 have c1 : cs[1]? = some v1 := by rw [hcs]; rfl
 have c2 : cs[2]? = some v2 := by rw [hcs]; rfl
 have c3 : cs[3]? = some v3 := by rw [hcs]; rfl
 have c4 : cs[4]? = some (.slice none 0 0) := by rw [hcs]; rfl
 have c6 : cs[6]? = some (.slice none 0 0) := by rw [hcs]; rfl
 have c8 : cs[8]? = some (.slice none 0 0) := by rw [hcs]; rfl
 have bkc : ∀ W, Below w.heap.size w W → ∀ j u, cs[j]? = some u → W.cell? ⟨p, j, none⟩ = some u := fun W h j u hu => (Bk.cell (w := W) (cs := cs) ((Fr.of_below h (fun _ => False)).heap hb (fun h => h)) j).trans hu
 have t1 : ∀ W, Below w.heap.size w W → Calls Tryz.prog 30 #[.pointer (some ⟨p, 0, none⟩)] W fun e w' => e = .returned (.bool true) ∧ Below W.heap.size W w' := fun W h =>
  have hf := Fr.of_below h (fun _ => False)
  Calls.drawn (stillInts_any W p B X1 Y1 v0 v1 hs1 hs1' ls1 ⟨bkc W h 0 _ c0, bkc W h 1 _ c1⟩ (hF1.fr hf (fun _ _ h => h)) (hF1'.fr hf (fun _ _ h => h)) hn1 hl1)
 have t2 : ∀ W, Below w.heap.size w W → Calls Tryz.prog 31 #[.pointer (some ⟨p, 0, none⟩)] W fun e w' => e = .returned (.bool true) ∧ Below W.heap.size W w' := fun W h =>
  have hf := Fr.of_below h (fun _ => False)
  Calls.drawn (stillInstrs_any W p B X2 Y2 v2 v3 hs2 hs2' ls2 ⟨bkc W h 2 _ c2, bkc W h 3 _ c3⟩ (hF2.fr hf (fun _ _ h => h)) (hF2'.fr hf (fun _ _ h => h)) hn2 hl2)
 have same : ∀ {f : FuncId} {args : Array Value} {W : World} {v : Value}, Calls Tryz.prog f args W (fun e w' => e = .returned v ∧ w' = W) → Calls Tryz.prog f args W (fun e w' => e = .returned v ∧ Below W.heap.size W w') := fun h => h.mono fun _ _ ⟨a, b⟩ => ⟨a, by rw [b]; exact Below.refl _ _⟩
 have t3 := fun W (h : Below w.heap.size w W) => same (noStillPairs W p (bkc W h 4 _ c4))
 have t4 := fun W (h : Below w.heap.size w W) => same (noStillEntries W p (bkc W h 6 _ c6))
 have t5 := fun W (h : Below w.heap.size w W) => same (noStillObjects W p (bkc W h 8 _ c8))
 have s0 : ∀ W, Below w.heap.size w W → ApS w p B X1 X2 cs v0 v2 hs1 hs2 ls1 ls2 W := fun W h => ApS.below ⟨hb, hF1, hF2, Fr.refl _ _⟩ h
 have hc : ∀ {L1 L2} W, ApS w p B X1 X2 cs v0 v2 hs1 hs2 L1 L2 W → ∀ j u, cs[j]? = some u → W.cell? ⟨p, j, none⟩ = some u := fun W h j u hu => (Bk.cell h.bk j).trans hu
 -- the marks
 have p0 := fun W (h : ApS w p B X1 X2 cs v0 v2 hs1 hs2 ls1 ls2 W) => (noPutObjects W p (hc W h 8 _ c8)).mono (R' := fun e w' => e = .returned (.tuple #[]) ∧ ApS w p B X1 X2 cs v0 v2 hs1 hs2 ls1 ls2 w') fun _ _ ⟨a, b⟩ => ⟨a, by rw [b]; exact h⟩
 have p1 := fun W (h : ApS w p B X1 X2 cs v0 v2 hs1 hs2 ls1 ls2 W) => (putInts_any W p B X1 v0 hs1 ls1 (hc W h 0 _ c0) hp1 (fun k hk => Nat.lt_of_lt_of_le (hX1 k hk) h.fr.size) h.f1 hn1 hl1).mono (R' := fun e w' => e = .returned (.tuple #[]) ∧ ApS w p B X1 X2 cs v0 v2 hs1 hs2 (mkd mkInts ls1.length ls1) ls2 w') fun _ _ ⟨a, b, c⟩ => ⟨a, c.heap h.bk hp1, b, h.f2.fr c (fun k hk h1 => hd k h1 hk), h.fr.trans c (fun _ _ h => .inl h)⟩
 have hL1 := mkd_len mkInts ls1.length ls1
 have hL2 := mkd_len mkInstrs ls2.length ls2
 have hM1 := mkd_marks mkInts ls1
 have hM2 := mkd_marks mkInstrs ls2
 have hK1 := mkd_lens mkInts ls1 100000 hl1
 have hK2 := mkd_lens mkInstrs ls2 100000 hl2
 obtain ⟨L1, hL1e⟩ : ∃ L1, L1 = mkd mkInts ls1.length ls1 := ⟨_, rfl⟩
 obtain ⟨L2, hL2e⟩ : ∃ L2, L2 = mkd mkInstrs ls2.length ls2 := ⟨_, rfl⟩
 rw [← hL1e] at p1 hL1 hM1 hK1
 have p2 := fun W (h : ApS w p B X1 X2 cs v0 v2 hs1 hs2 L1 ls2 W) => (putInstrs_any W p B X2 v2 hs2 ls2 (hc W h 2 _ c2) hp2 (fun k hk => Nat.lt_of_lt_of_le (hX2 k hk) h.fr.size) h.f2 hn2 hl2).mono (R' := fun e w' => e = .returned (.tuple #[]) ∧ ApS w p B X1 X2 cs v0 v2 hs1 hs2 L1 (mkd mkInstrs ls2.length ls2) w') fun _ _ ⟨a, b, c⟩ => ⟨a, c.heap h.bk hp2, h.f1.fr c (fun k hk h1 => hd k hk h1), b, h.fr.trans c (fun _ _ h => .inr h)⟩
 rw [← hL2e] at p2 hL2 hM2 hK2
 clear hL1e hL2e
 have p3 := fun W (h : ApS w p B X1 X2 cs v0 v2 hs1 hs2 L1 L2 W) => (noPutPairs W p (hc W h 4 _ c4)).mono (R' := fun e w' => e = .returned (.tuple #[]) ∧ ApS w p B X1 X2 cs v0 v2 hs1 hs2 L1 L2 w') fun _ _ ⟨a, b⟩ => ⟨a, by rw [b]; exact h⟩
 have p4 := fun W (h : ApS w p B X1 X2 cs v0 v2 hs1 hs2 L1 L2 W) => (noPutEntries W p (hc W h 6 _ c6)).mono (R' := fun e w' => e = .returned (.tuple #[]) ∧ ApS w p B X1 X2 cs v0 v2 hs1 hs2 L1 L2 w') fun _ _ ⟨a, b⟩ => ⟨a, by rw [b]; exact h⟩
 -- growing
 have g1 := fun W (h : ApS w p B X1 X2 cs v0 v2 hs1 hs2 L1 L2 W) => (growInts_any W p B X1 v0 hs1 L1 (hc W h 0 _ c0) hp1 (fun k hk => Nat.lt_of_lt_of_le (hX1 k hk) h.fr.size) (Nat.le_trans hB h.fr.size) h.f1 (by omega) hK1 hM1).mono (R' := fun e w' => ∃ g, e = .returned g ∧ ApS w p B X1 X2 cs v0 v2 hs1 hs2 L1 L2 w' ∧ Marked IntSl mkInts w' (fun k => ¬ X2 k) g (L1.map fun l => l.length + 72)) fun _ _ ⟨v, a, o, b, c⟩ => ⟨v, a, ⟨c.heap h.bk hp1, b, h.f2.fr c (fun k hk h1 => hd k h1 hk), h.fr.trans c (fun _ _ h => .inl h)⟩, out_markedInts o b (fun k hk => hd k hk) (fun k hk h2 => by have := hX2 k h2; have := h.fr.size; omega)⟩
 have g2 := fun W v (h : ApS w p B X1 X2 cs v0 v2 hs1 hs2 L1 L2 W) (m : Marked IntSl mkInts W (fun k => ¬ X2 k) v (L1.map fun l => l.length + 72)) => (growInstrs_any W p B X2 v2 hs2 L2 (hc W h 2 _ c2) hp2 (fun k hk => Nat.lt_of_lt_of_le (hX2 k hk) h.fr.size) (Nat.le_trans hB h.fr.size) h.f2 (by omega) hK2 hM2).mono (R' := fun e w' => ∃ g, e = .returned g ∧ ApS w p B X1 X2 cs v0 v2 hs1 hs2 L1 L2 w' ∧ Marked IntSl mkInts w' (fun k => ¬ X2 k) v (L1.map fun l => l.length + 72) ∧ Marked InsSlD mkInstrs w' (fun _ => True) g (L2.map fun l => l.length + 72)) fun _ _ ⟨v, a, o, b, c⟩ => ⟨v, a, ⟨c.heap h.bk hp2, h.f1.fr c (fun k hk h1 => hd k hk h1), b, h.fr.trans c (fun _ _ h => .inr h)⟩, m.frInts c (fun _ h => h), out_markedInstrs o b (fun _ _ => trivial) (fun _ _ => trivial)⟩
 obtain ⟨FS, hFS⟩ : ∃ FS : Value → Value → World → Prop, FS = fun x y W => ApS w p B X1 X2 cs v0 v2 hs1 hs2 L1 L2 W ∧ Marked IntSl mkInts W (fun k => ¬ X2 k) x (L1.map fun l => l.length + 72) ∧ Marked InsSlD mkInstrs W (fun _ => True) y (L2.map fun l => l.length + 72) := ⟨_, rfl⟩
 have fb : ∀ x y W W', FS x y W → Below W.heap.size W W' → FS x y W' := fun x y W W' h hb => by
  rw [hFS] at h ⊢
  exact ⟨h.1.below hb, h.2.1.frInts (Fr.of_below hb (fun _ => False)) (fun _ _ h => h), h.2.2.frInstrs (Fr.of_below hb (fun _ => False)) (fun _ _ h => h)⟩
 have fc : ∀ x y W, FS x y W → ∀ j u, cs[j]? = some u → W.cell? ⟨p, j, none⟩ = some u := fun x y W h => by rw [hFS] at h; exact hc W h.1
 have hmap1 : ∀ d n, d ≤ 72 → n ∈ (L1.map fun l => l.length + d) → n ≤ 200000 := fun d n hd hn => by
  obtain ⟨l, hl, rfl⟩ := List.mem_map.1 hn
  have := hK1 l hl; omega
 have hmap2 : ∀ d n, d ≤ 72 → n ∈ (L2.map fun l => l.length + d) → n ≤ 200000 := fun d n hd hn => by
  obtain ⟨l, hl, rfl⟩ := List.mem_map.1 hn
  have := hK2 l hl; omega
 have m1 := fun x y W (h : FS x y W) => (markedInts_any W _ x _ (by rw [hFS] at h; exact h.2.1) (by rw [List.length_map]; omega) (fun n hn => hmap1 72 n (by omega) hn)).mono (R' := fun e w' => e = .returned (.bool true) ∧ FS x y w') fun _ _ ⟨a, b⟩ => ⟨a, fb x y _ _ h b⟩
 have m2 := fun x y W (h : FS x y W) => (markedInts_any W X1 v0 (L1.map List.length) (by rw [hFS] at h; exact fam_markedInts h.1.f1 hM1) (by rw [List.length_map]; omega) (fun n hn => hmap1 0 n (by omega) hn)).mono (R' := fun e w' => e = .returned (.bool true) ∧ FS x y w') fun _ _ ⟨a, b⟩ => ⟨a, fb x y _ _ h b⟩
 have m3 := fun x y W (h : FS x y W) => (markedInstrs_any W _ y _ (by rw [hFS] at h; exact h.2.2) (by rw [List.length_map]; omega) (fun n hn => hmap2 72 n (by omega) hn)).mono (R' := fun e w' => e = .returned (.bool true) ∧ FS x y w') fun _ _ ⟨a, b⟩ => ⟨a, fb x y _ _ h b⟩
 have m4 := fun x y W (h : FS x y W) => (markedInstrs_any W X2 v2 (L2.map List.length) (by rw [hFS] at h; exact fam_markedInstrs h.1.f2 hM2) (by rw [List.length_map]; omega) (fun n hn => hmap2 0 n (by omega) hn)).mono (R' := fun e w' => e = .returned (.bool true) ∧ FS x y w') fun _ _ ⟨a, b⟩ => ⟨a, fb x y _ _ h b⟩
 have m5 := fun x y W (h : FS x y W) => (noMarkedPairs W).mono (R' := fun e w' => e = .returned (.bool true) ∧ FS x y w') fun _ _ ⟨a, b⟩ => ⟨a, by rw [b]; exact h⟩
 have m6 := fun x y W (h : FS x y W) => (noMarkedEntries W).mono (R' := fun e w' => e = .returned (.bool true) ∧ FS x y w') fun _ _ ⟨a, b⟩ => ⟨a, by rw [b]; exact h⟩
 have m7 := fun x y W (h : FS x y W) => (noMarkedObjects W).mono (R' := fun e w' => e = .returned (.bool true) ∧ FS x y w') fun _ _ ⟨a, b⟩ => ⟨a, by rw [b]; exact h⟩
 have g3 := fun x y W (h : FS x y W) => (noGrowPairs W p (fc x y W h 4 _ c4)).mono (R' := fun e w' => e = .returned (.slice none 0 0) ∧ FS x y w') fun _ _ ⟨a, b⟩ => ⟨a, by rw [b]; exact h⟩
 have g4 := fun x y W (h : FS x y W) => (noGrowEntries W p (fc x y W h 6 _ c6)).mono (R' := fun e w' => e = .returned (.slice none 0 0) ∧ FS x y w') fun _ _ ⟨a, b⟩ => ⟨a, by rw [b]; exact h⟩
 have g5 := fun x y W (h : FS x y W) => (noGrowObjects W p (fc x y W h 8 _ c8)).mono (R' := fun e w' => e = .returned (.slice none 0 0) ∧ FS x y w') fun _ _ ⟨a, b⟩ => ⟨a, by rw [b]; exact h⟩
 have fk : ∀ x y W, FS x y W → W.cell? ⟨p, 0, none⟩ = some v0 ∧ W.cell? ⟨p, 2, none⟩ = some v2 ∧ W.cell? ⟨p, 4, none⟩ = some (.slice none 0 0) ∧ W.cell? ⟨p, 6, none⟩ = some (.slice none 0 0) ∧ W.cell? ⟨p, 8, none⟩ = some (.slice none 0 0) := fun x y W h => ⟨fc x y W h 0 _ c0, fc x y W h 2 _ c2, fc x y W h 4 _ c4, fc x y W h 6 _ c6, fc x y W h 8 _ c8⟩
 have fend : ∀ x y W, FS x y W → Fr (fun k => X1 k ∨ X2 k) w W := fun x y W h => by rw [hFS] at h; exact h.1.fr
 have fmk : ∀ x y W, ApS w p B X1 X2 cs v0 v2 hs1 hs2 L1 L2 W → Marked IntSl mkInts W (fun k => ¬ X2 k) x (L1.map fun l => l.length + 72) → Marked InsSlD mkInstrs W (fun _ => True) y (L2.map fun l => l.length + 72) → FS x y W := fun x y W a b c => by rw [hFS]; exact ⟨a, b, c⟩
 clear hcs hb c0 c1 c2 c3 c4 c6 c8 hF1 hF1' hF2 hF2' hp1 hp2 hX1 hX2 hd hB hn1 hn2 hl1 hl2 bkc same hc hL1 hL2 hM1 hM2 hK1 hK2 hFS fb fc hmap1 hmap2
 have hb0 : Below w.heap.size w w := Below.refl _ _
 have T1 := Lib.hid t1; clear t1
 have T2 := Lib.hid t2; clear t2
 have T3 := Lib.hid t3; clear t3
 have T4 := Lib.hid t4; clear t4
 have T5 := Lib.hid t5; clear t5
 have S0 := Lib.hid s0; clear s0
 have P0 := Lib.hid p0; clear p0
 have P1 := Lib.hid p1; clear p1
 have P2 := Lib.hid p2; clear p2
 have P3 := Lib.hid p3; clear p3
 have P4 := Lib.hid p4; clear p4
 have G1 := Lib.hid g1; clear g1
 have G2 := Lib.hid g2; clear g2
 have G3 := Lib.hid g3; clear g3
 have G4 := Lib.hid g4; clear g4
 have G5 := Lib.hid g5; clear g5
 have M1 := Lib.hid m1; clear m1
 have M2 := Lib.hid m2; clear m2
 have M3 := Lib.hid m3; clear m3
 have M4 := Lib.hid m4; clear m4
 have M5 := Lib.hid m5; clear m5
 have M6 := Lib.hid m6; clear m6
 have M7 := Lib.hid m7; clear m7
 have FK := Lib.hid fk; clear fk
 have FEND := Lib.hid fend; clear fend
 have FMK := Lib.hid fmk; clear fmk
 have HB0 := Lib.hid hb0; clear hb0
 go_enter Tryz.func16, Tryz.ntmps16
 go_wp2_with fail
 refine (T1.out _ HB0.out).mono ?_
 rintro e u1 ⟨rfl, hb⟩
 have HB1 := Lib.hid (HB0.out.trans (hb.mono HB0.out.size)); clear hb
 go_wp2_with fail
 refine (T2.out _ HB1.out).mono ?_
 rintro e u2 ⟨rfl, hb⟩
 have HB2 := Lib.hid (HB1.out.trans (hb.mono HB1.out.size)); clear hb
 go_wp2_with fail
 refine (T3.out _ HB2.out).mono ?_
 rintro e u3 ⟨rfl, hb⟩
 have HB3 := Lib.hid (HB2.out.trans (hb.mono HB2.out.size)); clear hb
 go_wp2_with fail
 refine (T4.out _ HB3.out).mono ?_
 rintro e u4 ⟨rfl, hb⟩
 have HB4 := Lib.hid (HB3.out.trans (hb.mono HB3.out.size)); clear hb
 go_wp2_with fail
 refine (T5.out _ HB4.out).mono ?_
 rintro e u5 ⟨rfl, hb⟩
 have HB5 := Lib.hid (HB4.out.trans (hb.mono HB4.out.size)); clear hb
 have ss := S0.out _ HB5.out
 have Q0 := Lib.hid ss; clear ss
 go_wp2_with fail
 refine (P0.out _ Q0.out).mono ?_
 rintro e z1 ⟨rfl, hq⟩
 have Q1 := Lib.hid hq; clear hq
 go_wp2_with fail
 refine (P1.out _ Q1.out).mono ?_
 rintro e z2 ⟨rfl, hq⟩
 have Q2 := Lib.hid hq; clear hq
 go_wp2_with fail
 refine (P2.out _ Q2.out).mono ?_
 rintro e z3 ⟨rfl, hq⟩
 have Q3 := Lib.hid hq; clear hq
 go_wp2_with fail
 refine (P3.out _ Q3.out).mono ?_
 rintro e z4 ⟨rfl, hq⟩
 have Q4 := Lib.hid hq; clear hq
 go_wp2_with fail
 refine (P4.out _ Q4.out).mono ?_
 rintro e z5 ⟨rfl, hq⟩
 have Q5 := Lib.hid hq; clear hq
 go_wp2_with fail
 refine (G1.out _ Q5.out).mono ?_
 rintro e W1 ⟨x, rfl, ha, hm⟩
 have HA := Lib.hid ha; clear ha
 have HM := Lib.hid hm; clear hm
 go_wp2_with fail
 refine (G2.out _ x HA.out HM.out).mono ?_
 rintro e W2 ⟨y, rfl, hc, hd, hf⟩
 have qf0 := FMK.out x y _ hc hd hf
 have QF0 := Lib.hid qf0; clear qf0 hc hd hf
 obtain ⟨k0, k2, k4, k6, k8⟩ := FK.out x y _ QF0.out
 go_wp2_with fail
 refine (G3.out x y _ QF0.out).mono ?_
 rintro e y1 ⟨rfl, hq⟩
 have QF1 := Lib.hid hq; clear hq k0 k2 k4 k6 k8
 obtain ⟨k0, k2, k4, k6, k8⟩ := FK.out x y _ QF1.out
 go_wp2_with fail
 refine (G4.out x y _ QF1.out).mono ?_
 rintro e y2 ⟨rfl, hq⟩
 have QF2 := Lib.hid hq; clear hq k0 k2 k4 k6 k8
 obtain ⟨k0, k2, k4, k6, k8⟩ := FK.out x y _ QF2.out
 go_wp2_with fail
 refine (G5.out x y _ QF2.out).mono ?_
 rintro e y3 ⟨rfl, hq⟩
 have QF3 := Lib.hid hq; clear hq k0 k2 k4 k6 k8
 obtain ⟨k0, k2, k4, k6, k8⟩ := FK.out x y _ QF3.out
 go_wp2_with fail
 refine (M1.out x y _ QF3.out).mono ?_
 rintro e y4 ⟨rfl, hq⟩
 have QF4 := Lib.hid hq; clear hq k0 k2 k4 k6 k8
 obtain ⟨k0, k2, k4, k6, k8⟩ := FK.out x y _ QF4.out
 go_wp2_with fail
 refine (M2.out x y _ QF4.out).mono ?_
 rintro e y5 ⟨rfl, hq⟩
 have QF5 := Lib.hid hq; clear hq k0 k2 k4 k6 k8
 obtain ⟨k0, k2, k4, k6, k8⟩ := FK.out x y _ QF5.out
 go_wp2_with fail
 refine (M3.out x y _ QF5.out).mono ?_
 rintro e y6 ⟨rfl, hq⟩
 have QF6 := Lib.hid hq; clear hq k0 k2 k4 k6 k8
 obtain ⟨k0, k2, k4, k6, k8⟩ := FK.out x y _ QF6.out
 go_wp2_with fail
 refine (M4.out x y _ QF6.out).mono ?_
 rintro e y7 ⟨rfl, hq⟩
 have QF7 := Lib.hid hq; clear hq k0 k2 k4 k6 k8
 obtain ⟨k0, k2, k4, k6, k8⟩ := FK.out x y _ QF7.out
 go_wp2_with fail
 refine (M5.out x y _ QF7.out).mono ?_
 rintro e y8 ⟨rfl, hq⟩
 have QF8 := Lib.hid hq; clear hq k0 k2 k4 k6 k8
 obtain ⟨k0, k2, k4, k6, k8⟩ := FK.out x y _ QF8.out
 go_wp2_with fail
 refine (M5.out x y _ QF8.out).mono ?_
 rintro e y9 ⟨rfl, hq⟩
 have QF9 := Lib.hid hq; clear hq k0 k2 k4 k6 k8
 obtain ⟨k0, k2, k4, k6, k8⟩ := FK.out x y _ QF9.out
 go_wp2_with fail
 refine (M6.out x y _ QF9.out).mono ?_
 rintro e y10 ⟨rfl, hq⟩
 have QF10 := Lib.hid hq; clear hq k0 k2 k4 k6 k8
 obtain ⟨k0, k2, k4, k6, k8⟩ := FK.out x y _ QF10.out
 go_wp2_with fail
 refine (M6.out x y _ QF10.out).mono ?_
 rintro e y11 ⟨rfl, hq⟩
 have QF11 := Lib.hid hq; clear hq k0 k2 k4 k6 k8
 obtain ⟨k0, k2, k4, k6, k8⟩ := FK.out x y _ QF11.out
 go_wp2_with fail
 refine (M7.out x y _ QF11.out).mono ?_
 rintro e y12 ⟨rfl, hq⟩
 have QF12 := Lib.hid hq; clear hq k0 k2 k4 k6 k8
 obtain ⟨k0, k2, k4, k6, k8⟩ := FK.out x y _ QF12.out
 go_wp2_with fail
 refine (M7.out x y _ QF12.out).mono ?_
 rintro e y13 ⟨rfl, hq⟩
 have QF13 := Lib.hid hq; clear hq k0 k2 k4 k6 k8
 go_wp2_with fail
 go_ret
 exact ⟨rfl, FEND.out x y _ QF13.out⟩
end Go.Proofs.YtjcjhfnjamphlaaGreat
namespace Go.Proofs.YtjcjhfnjamphlaaGreat
open Go.ChangeShapes Go.WideShapes Go.ChangeAt Go.RowKit
def writesS (op : Int) : Bool := decide (op ∈ [1, 2, 3, 4, 5, 6, 7, 8, 11, 12, 13, 14, 16, 18, 19, 21, 26])
theorem writes_out (op : Int) (h : op < 0 ∨ 29 < op) : writesS op = false := by simp [writesS]; omega
def wrSaid (w : World) (op : Int) : Prop := ∀ a b c : Int, Calls Tryz.prog 81 #[.agg #[.int .i64 op, .int .i64 a, .int .i64 b, .int .i64 c]] w fun e w' => e = .returned (.tuple #[.int .i64 (if writesS op then a else 0), .bool (writesS op)]) ∧ Below w.heap.size w w'
set_option maxHeartbeats 4000000 in
theorem wr_in (w : World) : ∀ op ∈ opsAll, wrSaid w op := by
 apply ops_all <;> (unfold wrSaid; intro a b c; go_enter Tryz.func81, Tryz.ntmps81; go_wp2; go_ret2; exact ⟨rfl, (Below.refl _ _).alloc (Nat.le_refl _) _⟩)
theorem wr_any (w : World) (op : Int) : wrSaid w op := by
 refine op_cases (wr_in w) (fun op h => ?_) (fun op h => ?_) op
 all_goals
  unfold wrSaid
  intro a b c
  rw [writes_out op (by omega)]
  go_enter Tryz.func81, Tryz.ntmps81
  go_wp2
  go_ret2
  exact ⟨rfl, (Below.refl _ _).alloc (Nat.le_refl _) _⟩
def rwrSaid (w : World) (op : Int) : Prop := ∀ a b c : Int, Calls Tryz.prog 88 #[.agg #[.int .i64 op, .int .i64 a, .int .i64 b, .int .i64 c]] w fun e w' => e = .returned (.tuple #[.int .i64 (if writesS op then a else 0), .bool (writesS op)]) ∧ Below w.heap.size w w'
set_option maxHeartbeats 4000000 in
theorem rwr_in (w : World) : ∀ op ∈ opsAll, rwrSaid w op := by
 apply ops_all <;> (unfold rwrSaid; intro a b c; go_enter Tryz.func88, Tryz.ntmps88; go_wp2; go_ret2; exact ⟨rfl, (Below.refl _ _).alloc (Nat.le_refl _) _⟩)
theorem rwr_any (w : World) (op : Int) : rwrSaid w op := by
 refine op_cases (rwr_in w) (fun op h => ?_) (fun op h => ?_) op
 all_goals
  unfold rwrSaid
  intro a b c
  rw [writes_out op (by omega)]
  go_enter Tryz.func88, Tryz.ntmps88
  go_wp2
  go_ret2
  exact ⟨rfl, (Below.refl _ _).alloc (Nat.le_refl _) _⟩
def IdxPost (l : List Int) (x : Int) (w : World) (e : Ending) (w' : World) : Prop := ∃ r : Int, e = .returned (.int .i64 r) ∧ decide (0 ≤ r) = decide (x ∈ l) ∧ w' = w
set_option maxRecDepth 100000 in
set_option maxHeartbeats 1600000 in
theorem idx_any (w : World) (D : Nat → Prop) (a : Option Addr) (l : List Int) (c : Nat) (x : Int) (hl : IntSl w D a l) (hn : l.length ≤ 1000000) :
  Calls Tryz.prog 84 #[.slice a l.length c, .int .i64 x] w (IdxPost l x w) := by
 have HL := Lib.hid hl; clear hl
 go_enter Tryz.func84, Tryz.ntmps84
 go_wp2_with fail
 go_loopw [8] (fun i wr => ∃ k : Nat, k ≤ l.length ∧ i = .int .i64 k ∧ x ∉ l.take k ∧ wr = w) (fun i _ => l.length - (intOf i).toNat)
 case atStart => exact ⟨0, Nat.zero_le _, rfl, by simp, rfl⟩
 case round =>
  obtain ⟨k, hk, rfl, hno, rfl⟩ := hrel
  by_cases hlt : k < l.length
  ·obtain ⟨b, o, rfl, _, hx⟩ := HL.out k hlt
   have hsn := take_snoc l k hlt
   have hmem := List.getElem_mem hlt
   generalize l[k] = y at *
   by_cases hxy : x = y
   ·subst hxy
    have hP : IdxPost l x wr (.returned (.int .i64 k)) wr := ⟨k, rfl, by simp [hmem], rfl⟩
    have HP := Lib.hid hP
    clear hsn hmem hno hP
    go_wp2_with fail
    go_ret
    exact HP.out
   ·have hb : (x == y) = false := by simpa using hxy
    have hno2 : x ∉ l.take (k + 1) := by rw [hsn]; simp; exact ⟨hno, hxy⟩
    clear hsn hmem hno hxy
    have HNO2 := Lib.hid hno2; clear hno2
    go_wp2_with fail
    go_roundw
    case rel => exact ⟨k + 1, by omega, by go_num, HNO2.out, by first | rfl | trivial⟩
    case measure => simp [intOf]; omega
  ·have hno2 : x ∉ l := by rw [List.take_of_length_le (by omega)] at hno; exact hno
   have hP : IdxPost l x wr (.returned (.int .i64 (-1))) wr := ⟨-1, rfl, by simp [hno2], rfl⟩
   have HP := Lib.hid hP
   clear hno hno2 hP
   go_wp2_with fail
   go_ret
   exact HP.out
set_option maxRecDepth 100000 in
theorem contains_any (w : World) (D : Nat → Prop) (a : Option Addr) (l : List Int) (c : Nat) (x : Int) (hl : IntSl w D a l) (hn : l.length ≤ 1000000) :
  Calls Tryz.prog 55 #[.slice a l.length c, .int .i64 x] w fun e w' => e = .returned (.bool (decide (x ∈ l))) ∧ w' = w := by
 have h := idx_any w D a l c x hl hn
 clear hl
 have H := Lib.hid h; clear h
 go_enter Tryz.func55, Tryz.ntmps55
 go_wp2_with fail
 refine H.out.mono ?_
 rintro e w1 ⟨r, rfl, hr, rfl⟩
 have HR := Lib.hid hr; clear hr
 go_wp2_with fail
 go_ret
 exact ⟨by rw [← HR.out]; rfl, rfl⟩
def onceL (l : List Int) : List Int := l.foldl (fun out n => if n ∈ out then out else out ++ [n]) []
theorem onceL_snoc (l : List Int) (x : Int) : onceL (l ++ [x]) = if x ∈ onceL l then onceL l else onceL l ++ [x] := by
 unfold onceL
 rw [List.foldl_append]
 rfl
theorem onceL_len (l : List Int) (k : Nat) : (onceL (l.take k)).length ≤ k := by
 induction k with
 | zero => simp [onceL]
 | succ k ih =>
  by_cases h : k < l.length
  ·rw [take_snoc l k h, onceL_snoc]
   split
   ·omega
   ·simp; omega
  ·rw [List.take_of_length_le (by omega)]
   rw [List.take_of_length_le (by omega)] at ih
   omega
set_option maxRecDepth 100000 in
set_option maxHeartbeats 1600000 in
theorem once_any (w : World) (D : Nat → Prop) (a : Option Addr) (l : List Int) (c : Nat) (hl : IntSl w D a l) (hn : l.length ≤ 100000) :
  Calls Tryz.prog 112 #[.slice a l.length c] w fun e w' => ∃ v, e = .returned v ∧ Own intE w' w.heap.size v (onceL l) ∧ Below w.heap.size w w' := by
 have HL := Lib.hid hl; clear hl
 go_enter Tryz.func112, Tryz.ntmps112
 go_wp2_with fail
 go_loopw [3, 8] (fun v i wr => ∃ k : Nat, k ≤ l.length ∧ i = .int .i64 k ∧ Own intE wr w.heap.size v (onceL (l.take k)) ∧ Below w.heap.size w wr) (fun _ i _ => l.length - (intOf i).toNat)
 case atStart => exact ⟨0, Nat.zero_le _, rfl, Own.nil _ _ _, Below.refl _ _⟩
 case round =>
  obtain ⟨k, hk, rfl, hown, hB⟩ := hrel
  by_cases hlt : k < l.length
  ·obtain ⟨b, o, rfl, _, hx⟩ := HL.out k hlt
   have hx := below_cell hB hx
   have hsn := take_snoc l k hlt
   have hos := onceL_snoc (l.take k) l[k]
   rw [← hsn] at hos
   have hol := onceL_len l k
   generalize l[k] = x at *
   generalize onceL (l.take k) = L at *
   obtain ⟨a1, c1, hv, hsl⟩ : ∃ a1 c1, _ = Value.slice a1 L.length c1 ∧ IntSl wr _ a1 L := by
    obtain ⟨a1, c1, h1, h2⟩ := own_int hown
    exact ⟨a1, c1, h1, h2⟩
   subst hv
   have hc := contains_any wr _ a1 L c1 x hsl (by omega)
   clear hsl hsn
   by_cases hm : x ∈ L
   ·rw [if_pos hm] at hos
    rw [decide_eq_true hm] at hc
    clear hm
    have HC := Lib.hid hc; clear hc
    have HOS := Lib.hid hos; clear hos
    have HOWN := Lib.hid hown; clear hown
    have HB := Lib.hid hB; clear hB
    go_wp2_with fail
    refine HC.out.mono ?_
    rintro e w1 ⟨rfl, rfl⟩
    go_wp2_with fail
    go_roundw
    case rel => exact ⟨k + 1, by omega, by go_num, by rw [HOS.out]; exact HOWN.out, HB.out⟩
    case measure => simp [intOf]; omega
   ·rw [if_neg hm] at hos
    rw [decide_eq_false hm] at hc
    clear hm
    have HC := Lib.hid hc; clear hc
    have HOS := Lib.hid hos; clear hos
    have HOWN := Lib.hid hown; clear hown
    have HB := Lib.hid hB; clear hB
    go_wp2_with fail
    refine HC.out.mono ?_
    rintro e w1 ⟨rfl, rfl⟩
    go_wp2_with (at_builtin; refine append_own intE rfl (.tmp 16) (.tmp 18) rfl w.heap.size L [x] _ rfl (HOWN.out.alloc _) w1.heap.size 0 1 rfl (CellsAt.new _ _ _ _) ?c1 ?c2 ?_)
    case c1 => simp; omega
    case c2 => have := HB.out.size; simp; omega
    intro v2 w2 hown2 hg2
    have hB2 := Lib.hid (below_grown (HB.out.alloc HB.out.size _) (HOWN.out.alloc _) hg2 (by have := HB.out.size; simp; omega) (Nat.le_refl _))
    have HO2 := Lib.hid hown2; clear hown2 hg2
    go_wp2_with fail
    go_roundw
    case rel => exact ⟨k + 1, by omega, by go_num, by rw [HOS.out]; exact HO2.out, hB2.out⟩
    case measure => simp [intOf]; omega
  ·have hk' : k = l.length := by omega
   subst hk'
   rw [List.take_length] at hown
   have hP : ∀ v, Own intE wr w.heap.size v (onceL l) → ∃ v', Ending.returned v = .returned v' ∧ Own intE wr w.heap.size v' (onceL l) ∧ Below w.heap.size w wr := fun v hv => ⟨v, rfl, hv, hB⟩
   have HP := Lib.hid (hP _ hown)
   clear hP hown hB
   go_wp2_with fail
   go_ret
   exact HP.out
end Go.Proofs.YtjcjhfnjamphlaaGreat
