/- Walk: one more list is kept. -/
import Derived.Test.YtmmdppjbofbjhaaBookF
import Derived.Deep.RegionHeld3
namespace Go.Proofs.Ytmmdppjbofbjhaa
open Go.ChangeShapes Go.WideShapes Go.ChangeAt Go.RowKit

/-- two families of one kind: the lists and their copies -/
structure Kept {α : Type} (E : Elem Try.prog α) (HE : Elem Try.prog Hd) (w : World) (B : Nat) (X Y : Nat → Prop) (v v' : Value) (hs : List Hd) (ls : List (List α)) : Prop where
  fam : Fam E HE w B X v hs ls
  hs' : ∃ hs, Fam E HE w B Y v' hs ls
  xy : ∀ k, X k → ¬ Y k
  xw : ∀ k, X k → B ≤ k ∧ k < w.heap.size
  yw : ∀ k, Y k → B ≤ k ∧ k < w.heap.size
/-- the end of it, with no program in sight -/
theorem Kept.add {α : Type} {E : Elem Try.prog α} {HE : Elem Try.prog Hd} {w w3 w5 w6 : World} {p B : Nat} {X X2 Y : Nat → Prop} {v2 v1 v6 : Value} {hs hs' : List Hd} {ls : List (List α)} {l : List α} {x5 : Hd} {o : Obj} (J : Nat)
    (f3 : Fam E HE w3 B X2 v2 hs (ls ++ [l])) (f3' : Fam E HE w3 B Y v1 hs' ls) (fr3 : Fr (fun k => k = p ∨ X k ∨ Y k) w w3)
    (hyw : ∀ k, Y k → B ≤ k ∧ k < w.heap.size) (hX2w : ∀ k, X2 k → B ≤ k ∧ k < w3.heap.size) (hX2y : ∀ k, X2 k → ¬ Y k) (hp2 : ¬ Y p) (hp3 : ¬ X2 p) (hpl : p < w.heap.size) (hpB : B ≤ p)
    (hbW : Below w3.heap.size w3 w5) (ho5 : Own E w5 w3.heap.size x5.val l)
    (ho6 : Own HE w6 B v6 (hs' ++ [x5])) (hg6 : (w5.alloc o).grownBy w6 v1.ownBlock) (hf6 : Fresh (w5.alloc o) v1 v6) :
    ∃ Y', Kept E HE (w6.setCell ⟨p, J, none⟩ v6) B X2 Y' v2 v6 hs (ls ++ [l]) ∧ (∀ k, Y' k → Y k ∨ w.heap.size ≤ k) ∧ Fr (fun k => k = p ∨ X k ∨ Y k) w (w6.setCell ⟨p, J, none⟩ v6) := by
  have hs3 := fr3.size
  have hs5 := hbW.size
  have fL : Fr (fun _ => False) w3 (w5.alloc o) := (Fr.of_below hbW _).alloc o
  have hsa : (w5.alloc o).heap.size = w5.heap.size + 1 := by simp
  have f0 : Fr Y (w5.alloc o) w6 := (Fr.refl _ _).grown hg6 (fun k hk _ => f3'.row k hk)
  have hs6 := f0.size
  have s6 := Fam.snoc (f3'.fr fL (fun _ _ h => h)) (x := x5) (l := l) ((ho5.base (B' := B) (fun k hk => by have := (ho5.lt hk).1; omega)).alloc o) (fun k hk h => by have := (ho5.lt hk).1; have := (hyw k h).2; omega) (fun k hk => by have := (hyw k hk).2; omega) ho6 hg6 hf6
  have fr6 : Fr Y w3 w6 := (fL.mono (fun _ h => h.elim)).trans f0 (fun k _ h => h)
  have g6 := f3.fr fr6 (fun k hk h => hX2y k hk h)
  have frs := Fr.setAt w6 p J v6
  have hY6 : ∀ k, (Y k ∨ x5.val.ownBlock = some k ∨ v6.ownBlock = some k) → (Y k ∨ w3.heap.size ≤ k) ∧ B ≤ k ∧ k < w6.heap.size := fun k hk => by
    rcases hk with h | h | h
    · have := hyw k h; exact ⟨.inl h, this.1, by omega⟩
    · have := ho5.lt h; exact ⟨.inr this.1, by omega, by omega⟩
    · have h2 := ho6.lt h
      rcases hf6 k h with h | h
      · exact ⟨.inl (f3'.row k h), h2.1, h2.2⟩
      · exact ⟨.inr (by omega), h2.1, h2.2⟩
  have hsz : (w6.setCell ⟨p, J, none⟩ v6).heap.size = w6.heap.size := by simp [World.setCell]
  refine ⟨_, ⟨g6.fr frs (fun k hk h => hp3 (by unfold onB at h; rw [← h]; exact hk)), ⟨_, s6.fr frs (fun k hk h => ?_)⟩, fun k h h2 => ?_, fun k h => ?_, fun k h => ?_⟩, fun k h => ?_, ?_⟩
  · unfold onB at h
    rw [h] at hk
    rcases (hY6 p hk).1 with h | h
    · exact hp2 h
    · omega
  · rcases (hY6 k h2).1 with h3 | h3
    · exact hX2y k h h3
    · have := (hX2w k h).2; omega
  · have := hX2w k h; rw [hsz]; exact ⟨this.1, by omega⟩
  · have := (hY6 k h).2; rw [hsz]; exact this
  · rcases (hY6 k h).1 with h | h
    · exact .inl h
    · exact .inr (by omega)
  · exact (fr3.trans fr6 (fun k _ h => .inr (.inr h))).trans frs (fun k _ h => .inl h)
/-- what one more list leaves -/
def AddInts (w : World) (p B : Nat) (X Y : Nat → Prop) (cs : Array Value) (hs : List Hd) (ls : List (List Int)) (x : Hd) (l : List Int) (e : Ending) (w' : World) : Prop :=
  ∃ v v' X' Y', e = .returned (.tuple #[]) ∧ Bk w' p ((cs.setIfInBounds 0 v).setIfInBounds 1 v') ∧ Kept intE intsE w' B X' Y' v v' (hs ++ [x]) (ls ++ [l]) ∧ (∀ k, X' k → X k ∨ x.val.ownBlock = some k ∨ w.heap.size ≤ k) ∧ (∀ k, Y' k → Y k ∨ w.heap.size ≤ k) ∧ Fr (fun k => k = p ∨ X k ∨ Y k) w w'
set_option maxRecDepth 100000 in
set_option maxHeartbeats 3200000 in
theorem addInts_any (w : World) (p B : Nat) (X Y : Nat → Prop) (cs : Array Value) (v v' : Value) (hs : List Hd) (ls : List (List Int)) (a : Option Addr) (l : List Int) (c : Nat) (hb : Bk w p cs) (c0 : cs[0]? = some v) (c1 : cs[1]? = some v') (hK : Kept intE intsE w B X Y v v' hs ls)
    (hx : Own intE w B (.slice a l.length c) l) (hxX : ∀ k, (Value.slice a l.length c).ownBlock = some k → ¬ X k ∧ ¬ Y k ∧ k ≠ p) (hp1 : ¬ X p) (hp2 : ¬ Y p) (hpB : B ≤ p) (hn : ls.length < 250) (hl : l.length ≤ 100000) :
    Calls Try.prog 50 #[.pointer (some ⟨p, 0, none⟩), .slice a l.length c] w (AddInts w p B X Y cs hs ls ⟨a, l.length, c⟩ l) := by
  obtain ⟨hF, ⟨hs', hF'⟩, hxy, hxw, hyw⟩ := hK
  have hpl := heap_lt hb
  obtain ⟨a0, n0, hv0⟩ := hF.slice
  obtain ⟨a1, n1, hv1⟩ := hF'.slice
  subst hv0 hv1
  have q0 := (hb.cell 0).trans c0
  have q1 := (hb.cell 1).trans c1
  have z0 := hb.frozen 0
  have z1 := hb.frozen 1
  have hlen := hF.len
  have HF := Lib.hid hF; clear hF
  have HF' := Lib.hid hF'; clear hF'
  have HXY := Lib.hid hxy; clear hxy
  have HXW := Lib.hid hxw; clear hxw
  have HYW := Lib.hid hyw; clear hyw
  have HB := Lib.hid hb; clear hb
  have HX := Lib.hid hx; clear hx
  have HXX := Lib.hid hxX; clear hxX
  have HP1 := Lib.hid hp1; clear hp1
  have HP2 := Lib.hid hp2; clear hp2
  have C0 := Lib.hid c0; clear c0
  have C1 := Lib.hid c1; clear c1
  have HLEN := Lib.hid hlen; clear hlen
  go_enter Try.func50, Try.ntmps50
  go_wp2_with (at_builtin; refine append_fresh intsE rfl (.tmp 14) (.tmp 16) rfl B hs [⟨a, l.length, c⟩] _ rfl (HF.out.own.alloc _) w.heap.size 0 1 rfl (CellsAt.new _ _ _ _) ?d1 ?d2 ?_)
  case d1 => rw [HLEN.out]; simp; omega
  case d2 => simp; omega
  intro v2 w2 ho2 hg2 hf2
  obtain ⟨a2, n2, c2, hv2⟩ := ho2.slice
  have hx0 := HX.out
  obtain ⟨xa, xc, hxe, hsl⟩ := own_int hx0
  injection hxe with e1 e2 e3
  subst e1 e3
  have hne : ∀ k, (Value.slice a0 ls.length n0).ownBlock = some k → X k := fun k hk => HF.out.row k hk
  have hb2 : Bk w2 p cs := by
    unfold Bk
    rw [hg2.block p (by simp; omega) (fun e => HP1.out (hne p e.symm)), Below.heap_alloc _ _ _ hpl]
    exact HB.out
  have fr2 : Fr X w w2 := ((Fr.refl _ _).alloc _).grown hg2 (fun k hk _ => hne k hk)
  have f2 := Fam.snoc (HF.out.fr ((Fr.refl (fun _ => False) w).alloc _) (fun _ _ h => h)) (x := ⟨a, l.length, c⟩) (l := l) (Own.alloc hx0 _) (fun k hk => (HXX.out k hk).1) (fun k hk => by have := (HXW.out k hk).2; simp; omega) ho2 hg2 hf2
  have f2' := HF'.out.fr fr2 (fun k hk h => HXY.out k h hk)
  have hp3 : ¬ (X p ∨ (Hd.mk a l.length c).val.ownBlock = some p ∨ v2.ownBlock = some p) := by
    rintro (h | h | h)
    · exact HP1.out h
    · exact (HXX.out p h).2.2 rfl
    · rcases hf2 p h with h | h
      · exact HP1.out (hne p h)
      · simp at h; omega
  have hX2w : ∀ k, (X k ∨ (Hd.mk a l.length c).val.ownBlock = some k ∨ v2.ownBlock = some k) → B ≤ k ∧ k < w2.heap.size := fun k hk => by
    have hs := fr2.size
    rcases hk with h | h | h
    · have := HXW.out k h; omega
    · have := hx0.lt h; omega
    · have := ho2.lt h; omega
  have hX2o : ∀ k, (X k ∨ (Hd.mk a l.length c).val.ownBlock = some k ∨ v2.ownBlock = some k) → X k ∨ (Value.slice a l.length c).ownBlock = some k ∨ w.heap.size ≤ k := fun k hk => by
    rcases hk with h | h | h
    · exact .inl h
    · exact .inr (.inl h)
    · rcases hf2 k h with h | h
      · exact .inl (hne k h)
      · exact .inr (.inr (by simp at h; omega))
  generalize hX2 : (fun k => X k ∨ (Hd.mk a l.length c).val.ownBlock = some k ∨ v2.ownBlock = some k) = X2 at f2
  have hX2i : ∀ k, X2 k ↔ (X k ∨ (Hd.mk a l.length c).val.ownBlock = some k ∨ v2.ownBlock = some k) := fun k => by rw [← hX2]
  have hp3 : ¬ X2 p := fun h => hp3 ((hX2i p).1 h)
  have hX2w : ∀ k, X2 k → B ≤ k ∧ k < w2.heap.size := fun k h => hX2w k ((hX2i k).1 h)
  have hX2o : ∀ k, X2 k → X k ∨ (Value.slice a l.length c).ownBlock = some k ∨ w.heap.size ≤ k := fun k h => hX2o k ((hX2i k).1 h)
  clear hX2i hX2
  have frs := Fr.setAt w2 p 0 v2
  have hb3 : Bk (w2.setCell ⟨p, 0, none⟩ v2) p (cs.setIfInBounds 0 v2) := row_set hb2 0 v2
  have f3 := f2.fr frs (fun k hk h => hp3 (by unfold onB at h; rw [← h]; exact hk))
  have f3' := f2'.fr frs (fun k hk h => HP2.out (by unfold onB at h; rw [← h]; exact hk))
  have fr3 : Fr (fun k => k = p ∨ X k ∨ Y k) w (w2.setCell ⟨p, 0, none⟩ v2) := (fr2.mono (fun k h => .inr (.inl h))).trans frs (fun k _ h => .inl h)
  have hsz3 : (w2.setCell ⟨p, 0, none⟩ v2).heap.size = w2.heap.size := by simp [World.setCell]
  have hsl3 := hsl.fr (fr3) (fun k hk h => by
    have := HXX.out k hk
    rcases h with h | h | h
    · exact this.2.2 h
    · exact this.1 h
    · exact this.2.1 h)
  have r0 := hb2.cell 0
  have r1 := hb2.cell 1
  have t0 := hb2.frozen 0
  have t1 := hb2.frozen 1
  rw [C0.out] at r0
  rw [C1.out] at r1
  clear q0 q1 z0 z1
  clear hsl hb2 f2 f2' frs fr2 hne hg2 hf2
  subst hv2
  have k1 := hb3.cell 1
  rw [Array.getElem?_setIfInBounds_ne (by decide), C1.out] at k1
  have z1 := hb3.frozen 1
  have hp3l := heap_lt hb3
  obtain ⟨w3, hw3⟩ : ∃ w3, w3 = w2.setCell ⟨p, 0, none⟩ (.slice a2 n2 c2) := ⟨_, rfl⟩
  rw [← hw3] at hb3 f3 f3' fr3 hsz3 hsl3 k1 z1 hp3l
  have cp := copyInts_any w3.drew a l c _ (show IntSl w3.drew _ a l from hsl3) (by omega)
  have f3o := f3'.own
  have hpy : ∀ k, (Value.slice a1 ls.length n1).ownBlock = some k → Y k := f3'.row
  have hlen' := f3'.len
  have HB3 := Lib.hid hb3; clear hb3
  have F3 := Lib.hid f3; clear f3
  have F3' := Lib.hid f3'; clear f3'
  have FR3 := Lib.hid fr3; clear fr3
  have HSZ3 := Lib.hid hsz3; clear hsz3
  have HW3 := Lib.hid hw3; clear hw3
  have HX2W := Lib.hid hX2w; clear hX2w
  have HX2O := Lib.hid hX2o; clear hX2o
  have CP := Lib.hid cp; clear cp
  have F3O := Lib.hid f3o; clear f3o
  have HPY := Lib.hid hpy; clear hpy
  have HP3 := Lib.hid hp3; clear hp3
  have HLEN' := Lib.hid hlen'; clear hlen'
  clear hsl3 ho2 hx0
  go_wp2_with fail
  rw [← HW3.out]
  go_region_law (first | (go_simp; go_at_call 112; refine CP.out.mono ?_; rintro e w5 ⟨v5, rfl, ho5, hb5⟩; obtain ⟨a5, c5, rfl, _⟩ := own_int ho5; have hbW := ((Below.refl w3.heap.size w3).drew).trans hb5; have bk5 : Bk w5 p _ := (Fr.of_below hbW (fun _ => False)).heap HB3.out (fun h => h); have kk := bk5.cell 1; rw [Array.getElem?_setIfInBounds_ne (by decide), C1.out] at kk; have zz := bk5.frozen 1; have hp5 := heap_lt bk5; have nn5 := World.new_ne w5 _ kk; have hp5n := Nat.ne_of_gt hp5) | (refine step_append_fresh intsE rfl (.tmp 24) (.tmp 27) rfl B hs' [⟨a5, l.length, c5⟩] _ rfl ((F3O.out.below hbW).alloc _) w5.heap.size 0 1 rfl (CellsAt.new _ _ _ _) (by rw [HLEN'.out]; simp; omega) (by have := hbW.size; simp; omega) ?_; intro v6 w6 ho6 hg6 hf6; obtain ⟨a6, n6, c6, hv6⟩ := ho6.slice; subst hv6; have bk6 : Bk w6 p _ := ((hg6.block p (by simp; omega) (fun e => HP2.out (HPY.out p e.symm))).trans (Below.heap_alloc _ _ _ hp5)).trans bk5; have kk := bk6.cell 1; rw [Array.getElem?_setIfInBounds_ne (by decide), C1.out] at kk; have zz := bk6.frozen 1))
  all_goals
    obtain ⟨Y', e1, e2, e3⟩ := Kept.add (X := X) (x5 := ⟨a5, l.length, c5⟩) 1 F3.out F3'.out FR3.out HYW.out (fun k hk => by rw [HSZ3.out]; exact hX2w k hk) (fun k hk h => by
      rcases hX2o k hk with h2 | h2 | h2
      · exact HXY.out k h2 h
      · exact (HXX.out k h2).2.1 h
      · have := (HYW.out k h).2; omega) HP2.out hp3 hpl hpB hbW ho5 ho6 hg6 hf6
    have bk7 : Bk (w6.setCell ⟨p, 1, none⟩ (.slice a6 n6 c6)) p _ := row_set bk6 1 (.slice a6 n6 c6)
    have E1 := Lib.hid e1
    have E2 := Lib.hid e2
    have E3 := Lib.hid e3
    have BK7 := Lib.hid bk7
    have HX2O' := Lib.hid hX2o
    clear e1 e2 e3 bk7 hX2o
    clear hg6 hf6 ho6 ho5
    go_wp2_with fail
    go_end0
    exact ⟨_, _, _, Y', rfl, BK7.out, E1.out, HX2O'.out, E2.out, E3.out⟩
/-- what one more list leaves -/
def AddInstrs (w : World) (p B : Nat) (X Y : Nat → Prop) (cs : Array Value) (hs : List Hd) (ls : List (List Ins)) (x : Hd) (l : List Ins) (e : Ending) (w' : World) : Prop :=
  ∃ v v' X' Y', e = .returned (.tuple #[]) ∧ Bk w' p ((cs.setIfInBounds 2 v).setIfInBounds 3 v') ∧ Kept insE inssE w' B X' Y' v v' (hs ++ [x]) (ls ++ [l]) ∧ (∀ k, X' k → X k ∨ x.val.ownBlock = some k ∨ w.heap.size ≤ k) ∧ (∀ k, Y' k → Y k ∨ w.heap.size ≤ k) ∧ Fr (fun k => k = p ∨ X k ∨ Y k) w w'
set_option maxRecDepth 100000 in
set_option maxHeartbeats 3200000 in
theorem addInstrs_any (w : World) (p B : Nat) (X Y : Nat → Prop) (cs : Array Value) (v v' : Value) (hs : List Hd) (ls : List (List Ins)) (a : Option Addr) (l : List Ins) (c : Nat) (hb : Bk w p cs) (c0 : cs[2]? = some v) (c1 : cs[3]? = some v') (hK : Kept insE inssE w B X Y v v' hs ls)
    (hx : Own insE w B (.slice a l.length c) l) (hxX : ∀ k, (Value.slice a l.length c).ownBlock = some k → ¬ X k ∧ ¬ Y k ∧ k ≠ p) (hp1 : ¬ X p) (hp2 : ¬ Y p) (hpB : B ≤ p) (hn : ls.length < 250) (hl : l.length ≤ 100000) :
    Calls Try.prog 40 #[.pointer (some ⟨p, 0, none⟩), .slice a l.length c] w (AddInstrs w p B X Y cs hs ls ⟨a, l.length, c⟩ l) := by
  obtain ⟨hF, ⟨hs', hF'⟩, hxy, hxw, hyw⟩ := hK
  have hpl := heap_lt hb
  obtain ⟨a0, n0, hv0⟩ := hF.slice
  obtain ⟨a1, n1, hv1⟩ := hF'.slice
  subst hv0 hv1
  have q0 := (hb.cell 2).trans c0
  have q1 := (hb.cell 3).trans c1
  have z0 := hb.frozen 2
  have z1 := hb.frozen 3
  have hlen := hF.len
  have HF := Lib.hid hF; clear hF
  have HF' := Lib.hid hF'; clear hF'
  have HXY := Lib.hid hxy; clear hxy
  have HXW := Lib.hid hxw; clear hxw
  have HYW := Lib.hid hyw; clear hyw
  have HB := Lib.hid hb; clear hb
  have HX := Lib.hid hx; clear hx
  have HXX := Lib.hid hxX; clear hxX
  have HP1 := Lib.hid hp1; clear hp1
  have HP2 := Lib.hid hp2; clear hp2
  have C0 := Lib.hid c0; clear c0
  have C1 := Lib.hid c1; clear c1
  have HLEN := Lib.hid hlen; clear hlen
  go_enter Try.func40, Try.ntmps40
  go_wp2_with (at_builtin; refine append_fresh inssE rfl (.tmp 14) (.tmp 16) rfl B hs [⟨a, l.length, c⟩] _ rfl (HF.out.own.alloc _) w.heap.size 0 1 rfl (CellsAt.new _ _ _ _) ?d1 ?d2 ?_)
  case d1 => rw [HLEN.out]; simp; omega
  case d2 => simp; omega
  intro v2 w2 ho2 hg2 hf2
  obtain ⟨a2, n2, c2, hv2⟩ := ho2.slice
  have hx0 := HX.out
  obtain ⟨xa, xc, hxe, hsl⟩ := own_insD hx0
  injection hxe with e1 e2 e3
  subst e1 e3
  have hne : ∀ k, (Value.slice a0 ls.length n0).ownBlock = some k → X k := fun k hk => HF.out.row k hk
  have hb2 : Bk w2 p cs := by
    unfold Bk
    rw [hg2.block p (by simp; omega) (fun e => HP1.out (hne p e.symm)), Below.heap_alloc _ _ _ hpl]
    exact HB.out
  have fr2 : Fr X w w2 := ((Fr.refl _ _).alloc _).grown hg2 (fun k hk _ => hne k hk)
  have f2 := Fam.snoc (HF.out.fr ((Fr.refl (fun _ => False) w).alloc _) (fun _ _ h => h)) (x := ⟨a, l.length, c⟩) (l := l) (Own.alloc hx0 _) (fun k hk => (HXX.out k hk).1) (fun k hk => by have := (HXW.out k hk).2; simp; omega) ho2 hg2 hf2
  have f2' := HF'.out.fr fr2 (fun k hk h => HXY.out k h hk)
  have hp3 : ¬ (X p ∨ (Hd.mk a l.length c).val.ownBlock = some p ∨ v2.ownBlock = some p) := by
    rintro (h | h | h)
    · exact HP1.out h
    · exact (HXX.out p h).2.2 rfl
    · rcases hf2 p h with h | h
      · exact HP1.out (hne p h)
      · simp at h; omega
  have hX2w : ∀ k, (X k ∨ (Hd.mk a l.length c).val.ownBlock = some k ∨ v2.ownBlock = some k) → B ≤ k ∧ k < w2.heap.size := fun k hk => by
    have hs := fr2.size
    rcases hk with h | h | h
    · have := HXW.out k h; omega
    · have := hx0.lt h; omega
    · have := ho2.lt h; omega
  have hX2o : ∀ k, (X k ∨ (Hd.mk a l.length c).val.ownBlock = some k ∨ v2.ownBlock = some k) → X k ∨ (Value.slice a l.length c).ownBlock = some k ∨ w.heap.size ≤ k := fun k hk => by
    rcases hk with h | h | h
    · exact .inl h
    · exact .inr (.inl h)
    · rcases hf2 k h with h | h
      · exact .inl (hne k h)
      · exact .inr (.inr (by simp at h; omega))
  generalize hX2 : (fun k => X k ∨ (Hd.mk a l.length c).val.ownBlock = some k ∨ v2.ownBlock = some k) = X2 at f2
  have hX2i : ∀ k, X2 k ↔ (X k ∨ (Hd.mk a l.length c).val.ownBlock = some k ∨ v2.ownBlock = some k) := fun k => by rw [← hX2]
  have hp3 : ¬ X2 p := fun h => hp3 ((hX2i p).1 h)
  have hX2w : ∀ k, X2 k → B ≤ k ∧ k < w2.heap.size := fun k h => hX2w k ((hX2i k).1 h)
  have hX2o : ∀ k, X2 k → X k ∨ (Value.slice a l.length c).ownBlock = some k ∨ w.heap.size ≤ k := fun k h => hX2o k ((hX2i k).1 h)
  clear hX2i hX2
  have frs := Fr.setAt w2 p 2 v2
  have hb3 : Bk (w2.setCell ⟨p, 2, none⟩ v2) p (cs.setIfInBounds 2 v2) := row_set hb2 2 v2
  have f3 := f2.fr frs (fun k hk h => hp3 (by unfold onB at h; rw [← h]; exact hk))
  have f3' := f2'.fr frs (fun k hk h => HP2.out (by unfold onB at h; rw [← h]; exact hk))
  have fr3 : Fr (fun k => k = p ∨ X k ∨ Y k) w (w2.setCell ⟨p, 2, none⟩ v2) := (fr2.mono (fun k h => .inr (.inl h))).trans frs (fun k _ h => .inl h)
  have hsz3 : (w2.setCell ⟨p, 2, none⟩ v2).heap.size = w2.heap.size := by simp [World.setCell]
  have hsl3 := hsl.fr (fr3) (fun k hk h => by
    have := HXX.out k hk
    rcases h with h | h | h
    · exact this.2.2 h
    · exact this.1 h
    · exact this.2.1 h)
  have r0 := hb2.cell 2
  have r1 := hb2.cell 3
  have t0 := hb2.frozen 2
  have t1 := hb2.frozen 3
  rw [C0.out] at r0
  rw [C1.out] at r1
  clear q0 q1 z0 z1
  clear hsl hb2 f2 f2' frs fr2 hne hg2 hf2
  subst hv2
  have k1 := hb3.cell 3
  rw [Array.getElem?_setIfInBounds_ne (by decide), C1.out] at k1
  have z1 := hb3.frozen 3
  have hp3l := heap_lt hb3
  obtain ⟨w3, hw3⟩ : ∃ w3, w3 = w2.setCell ⟨p, 2, none⟩ (.slice a2 n2 c2) := ⟨_, rfl⟩
  rw [← hw3] at hb3 f3 f3' fr3 hsz3 hsl3 k1 z1 hp3l
  have cp := copyInstrs_any w3.drew a l c _ (show InsSlD w3.drew _ a l from hsl3) (by omega)
  have f3o := f3'.own
  have hpy : ∀ k, (Value.slice a1 ls.length n1).ownBlock = some k → Y k := f3'.row
  have hlen' := f3'.len
  have HB3 := Lib.hid hb3; clear hb3
  have F3 := Lib.hid f3; clear f3
  have F3' := Lib.hid f3'; clear f3'
  have FR3 := Lib.hid fr3; clear fr3
  have HSZ3 := Lib.hid hsz3; clear hsz3
  have HW3 := Lib.hid hw3; clear hw3
  have HX2W := Lib.hid hX2w; clear hX2w
  have HX2O := Lib.hid hX2o; clear hX2o
  have CP := Lib.hid cp; clear cp
  have F3O := Lib.hid f3o; clear f3o
  have HPY := Lib.hid hpy; clear hpy
  have HP3 := Lib.hid hp3; clear hp3
  have HLEN' := Lib.hid hlen'; clear hlen'
  clear hsl3 ho2 hx0
  go_wp2_with fail
  rw [← HW3.out]
  go_region_law (first | (go_simp; go_at_call 87; refine CP.out.mono ?_; rintro e w5 ⟨v5, rfl, ho5, hb5⟩; obtain ⟨a5, c5, rfl, _⟩ := own_insD ho5; have hbW := ((Below.refl w3.heap.size w3).drew).trans hb5; have bk5 : Bk w5 p _ := (Fr.of_below hbW (fun _ => False)).heap HB3.out (fun h => h); have kk := bk5.cell 3; rw [Array.getElem?_setIfInBounds_ne (by decide), C1.out] at kk; have zz := bk5.frozen 3; have hp5 := heap_lt bk5; have nn5 := World.new_ne w5 _ kk; have hp5n := Nat.ne_of_gt hp5) | (refine step_append_fresh inssE rfl (.tmp 24) (.tmp 27) rfl B hs' [⟨a5, l.length, c5⟩] _ rfl ((F3O.out.below hbW).alloc _) w5.heap.size 0 1 rfl (CellsAt.new _ _ _ _) (by rw [HLEN'.out]; simp; omega) (by have := hbW.size; simp; omega) ?_; intro v6 w6 ho6 hg6 hf6; obtain ⟨a6, n6, c6, hv6⟩ := ho6.slice; subst hv6; have bk6 : Bk w6 p _ := ((hg6.block p (by simp; omega) (fun e => HP2.out (HPY.out p e.symm))).trans (Below.heap_alloc _ _ _ hp5)).trans bk5; have kk := bk6.cell 3; rw [Array.getElem?_setIfInBounds_ne (by decide), C1.out] at kk; have zz := bk6.frozen 3))
  all_goals
    obtain ⟨Y', e1, e2, e3⟩ := Kept.add (X := X) (x5 := ⟨a5, l.length, c5⟩) 3 F3.out F3'.out FR3.out HYW.out (fun k hk => by rw [HSZ3.out]; exact hX2w k hk) (fun k hk h => by
      rcases hX2o k hk with h2 | h2 | h2
      · exact HXY.out k h2 h
      · exact (HXX.out k h2).2.1 h
      · have := (HYW.out k h).2; omega) HP2.out hp3 hpl hpB hbW ho5 ho6 hg6 hf6
    have bk7 : Bk (w6.setCell ⟨p, 3, none⟩ (.slice a6 n6 c6)) p _ := row_set bk6 3 (.slice a6 n6 c6)
    have E1 := Lib.hid e1
    have E2 := Lib.hid e2
    have E3 := Lib.hid e3
    have BK7 := Lib.hid bk7
    have HX2O' := Lib.hid hX2o
    clear e1 e2 e3 bk7 hX2o
    clear hg6 hf6 ho6 ho5
    go_wp2_with fail
    go_end0
    exact ⟨_, _, _, Y', rfl, BK7.out, E1.out, HX2O'.out, E2.out, E3.out⟩
end Go.Proofs.Ytmmdppjbofbjhaa
