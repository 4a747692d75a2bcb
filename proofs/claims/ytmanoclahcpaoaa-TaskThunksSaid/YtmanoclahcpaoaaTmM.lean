/- Deferred calls of the statement's task, told plainly. -/
import Derived.Test.YtmanoclahcpaoaaTmG
import Derived.Test.YtmanoclahcpaoaaTmK
import Derived.Test.YtmanoclahcpaoaaTmL
namespace Go.Proofs.Ytmanoclahcpaoaa
open Go.ChangeShapes Go.WideShapes Go.ChangeAt Go.RowKit Go.Maps

set_option maxRecDepth 100000 in
theorem tkThunk_no (w : World) (F : Nat → Prop) (tb : Nat) (p : TPrg) (T : Tk) (X : TB) (h : TaskAt w F tb p T X) (hl : T.marks.length ≤ 10000) (hn : nextN T.marks ≠ 1) :
    Calls Try.prog 21 #[.pointer (some ⟨tb, 0, none⟩)] w fun e w' => e = .returned (.bool false) ∧ Below w.heap.size w w' := by
  have nx := tkNext_any w F tb p T X h hl
  generalize nextN T.marks = x at *
  clear h
  have NX := Lib.hid nx; clear nx
  go_enter Try.func21, Try.ntmps21
  go_wp2_with fail
  refine NX.out.mono ?_
  rintro e w1 ⟨rfl, hb1⟩
  have HB1 := Lib.hid hb1
  clear hb1
  go_wp2_with fail
  go_ret
  exact ⟨rfl, HB1.out⟩
/-- the deferred calls that are kept, each with its number and its place -/
def Row0 (w : World) (F D : Nat → Prop) (l : List Int) (i : Nat) (rv : Value) : Prop :=
  ∃ EL, Own thkE w 0 rv EL ∧ EL.length = i ∧ (∀ j (hj : j < EL.length), ∃ cb cc, EL[j] = ⟨1, some ⟨cb, 0, none⟩, 2, cc⟩ ∧ w.cell? ⟨cb, 0, none⟩ = some (.int .i64 (l.getD j 0)) ∧ w.cell? ⟨cb, 1, none⟩ = some (.int .i64 j) ∧ ¬ F cb ∧ rv.ownBlock ≠ some cb) ∧ (∀ k, rv.ownBlock = some k → ¬ F k ∧ ¬ D k)
theorem Row0.nil (w : World) (F D : Nat → Prop) (l : List Int) : Row0 w F D l 0 (.slice none 0 0) := ⟨[], Own.nil _ _ _, rfl, fun j hj => absurd hj (Nat.not_lt_zero _), fun k hk => by cases hk⟩
/-- the same, to be read -/
def Row1 (w : World) (F : Nat → Prop) (l : List Int) (n tg : Nat) : Prop :=
  ∀ j, j < n → ¬ F tg ∧ ∃ cb cc, w.cell? ⟨tg, j * 2, none⟩ = some (.int .i64 ((1 : Nat) : Int)) ∧ w.cell? ⟨tg, j * 2 + 1, none⟩ = some (.slice (some ⟨cb, 0, none⟩) 2 cc) ∧ w.cell? ⟨cb, 0, none⟩ = some (.int .i64 (l.getD j 0)) ∧ w.cell? ⟨cb, 1, none⟩ = some (.int .i64 j) ∧ ¬ F cb
theorem Row1.less {w : World} {F : Nat → Prop} {l : List Int} {n tg : Nat} (h : Row1 w F l (n + 1) tg) : Row1 w F l n tg := fun j hj => h j (by omega)
theorem Row1.fr {w w' : World} {F F' : Nat → Prop} {l : List Int} {n tg : Nat} (h : Row1 w F l n tg) (hf : Fr F w w') (hF : ∀ k, F' k → F k ∨ w.heap.size ≤ k) : Row1 w' F' l n tg := fun j hj => by
  obtain ⟨h1, cb, cc, h2, h3, h4, h5, h6⟩ := h j hj
  have l1 := World.block_lt h2
  have l2 := World.block_lt h4
  have l1 : tg < w.heap.size := l1
  have l2 : cb < w.heap.size := l2
  exact ⟨fun hk => (hF _ hk).elim h1 (fun h => by omega), cb, cc, hf.cell h2 h1, hf.cell h3 h1, hf.cell h4 h6, hf.cell h5 h6, fun hk => (hF _ hk).elim h6 (fun h => by omega)⟩
theorem Row0.read {w : World} {F D : Nat → Prop} {l : List Int} {i : Nat} {ta : Option Addr} {tn tc : Nat} (h : Row0 w F D l i (.slice ta tn tc)) : tn = i ∧ ∃ tg, (0 < i → ta = some ⟨tg, 0, none⟩ ∧ i ≤ tc) ∧ Row1 w F l i tg := by
  obtain ⟨EL, ho, hl, he, hk⟩ := h
  obtain ⟨a, c, hv, hel⟩ := own_elems ho
  injection hv with e1 e2 e3
  subst e1 e3
  have hcap := ho
  by_cases h0 : i = 0
  · refine ⟨by omega, 0, fun h => by omega, fun j hj => by omega⟩
  · obtain ⟨tg, rfl, hbo, _⟩ := hel 0 (by omega)
    have hcp : i ≤ tc := by
      rcases id ho.2 with ⟨_, hz⟩ | ⟨g, cap, cur, hv, _, _, hc, _⟩
      · omega
      · injection hv with _ _ e
        omega
    refine ⟨by omega, tg, fun _ => ⟨rfl, hcp⟩, fun j hj => ?_⟩
    obtain ⟨b2, hb2, _, hc2⟩ := hel j (by omega)
    injection hb2 with hb2
    injection hb2 with hb2
    subst hb2
    obtain ⟨cb, cc, g1, g2, g3, g4, g5⟩ := he j (by omega)
    rw [g1] at hc2
    exact ⟨(hk tg hbo).1, cb, cc, hc2 0 _ rfl, hc2 1 _ rfl, g2, g3, g4⟩
theorem deferF {w : World} {F : Nat → Prop} {tb : Nat} {X : TB} {bs : Int} {W : List Int} {ta : Option Addr} {tn tc i : Nat} {l : List Int} (h : TaskAt w F tb p1 ⟨bs, W, [⟨0, 0, 0, -1, ta, tn, tc⟩], [⟨false, false, (i : Nat)⟩]⟩ X) (hi : i < 16) (x : Int) (hx : l.getD i 0 = x) (hr : Row0 w F X.D l i (.slice ta tn tc)) :
    Calls Try.prog 18 #[.pointer (some ⟨tb, 0, none⟩), .int .i64 1, .slice (some ⟨w.heap.size, 0, none⟩) 2 2] (w.alloc (.cells #[.int .i64 x, .int .i64 i] 3)) fun e w' => e = .returned (.bool true) ∧ ∃ F' X' ta' tn' tc', TaskAt w' F' tb p1 ⟨bs, W, [⟨0, 0, 0, -1, ta', tn', tc'⟩], [⟨false, false, ((i + 1 : Nat) : Int)⟩]⟩ X' ∧ Row0 w' F' X'.D l (i + 1) (.slice ta' tn' tc') ∧ (∀ k, F' k → F k ∨ w.heap.size ≤ k) ∧ (∀ k, (Value.slice ta' tn' tc').ownBlock = some k → (Value.slice ta tn tc).ownBlock = some k ∨ w.heap.size ≤ k) ∧ Fr (fun k => F k ∨ (Value.slice ta tn tc).ownBlock = some k) w w' := by
  have hwa := (Below.refl w.heap.size w).alloc (Nat.le_refl _) (.cells #[.int .i64 x, .int .i64 i] 3)
  have hszA : (w.alloc (.cells #[.int .i64 x, .int .i64 i] 3)).heap.size = w.heap.size + 1 := by simp
  have h2 := h.below hwa
  obtain ⟨EL, ho, hl, he, hk⟩ := hr
  have hal : ∀ j (hj : j < [x, (i : Int)].length), (w.alloc (.cells #[.int .i64 x, .int .i64 i] 3)).cell? ⟨w.heap.size, j, none⟩ = some (.int .i64 [x, (i : Int)][j]) := fun j hj => by
    have hj2 : j = 0 ∨ j = 1 := by have : j < 2 := hj; omega
    rcases hj2 with rfl | rfl
    · exact cell_new _ _ _ _ 0
    · exact cell_new _ _ _ _ 1
  refine (tkDefer_any _ F tb p1 _ X h2 (by show 1 ≤ 1000; decide) [] ⟨0, 0, 0, -1, ta, tn, tc⟩ rfl [] ⟨false, false, (i : Nat)⟩ rfl (by show 0 ≤ 10000; decide) (by show (0 : Int) ≤ (i : Int); omega) (by show (i : Int) < 16; omega) 1 w.heap.size [x, (i : Int)] 2 hal (fun hf => by have := h.flt _ hf; omega) (by show 0 < 2; decide) (by show 2 ≤ 1000; decide) EL (ho.below hwa) (by omega) hk).mono ?_
  rintro e w' ⟨rfl, F', X', ta', tn', tc', ca, cc, hT, hD, hO, hc, hca, hcl, hF', hrv, hfr⟩
  have hc0 : w'.cell? ⟨ca, 0, none⟩ = some (.int .i64 x) := hc 0 (by show 0 < 2; decide)
  have hc1 : w'.cell? ⟨ca, 1, none⟩ = some (.int .i64 (i : Int)) := hc 1 (by show 1 < 2; decide)
  refine ⟨rfl, F', X', ta', tn', tc', hT, ⟨_, hO, by simp [hl], fun j hj => ?_, fun k hk2 => ?_⟩, fun k hk2 => (hF' k hk2).elim .inl (fun h => .inr (by omega)), fun k hk2 => (hrv k hk2).2.2.2.elim .inl (fun h => .inr (by omega)), (Fr.of_below hwa _).trans hfr (fun _ _ h => h)⟩
  · by_cases hj2 : j < EL.length
    · obtain ⟨cb, c2, g1, g2, g3, g4, g5⟩ := he j hj2
      have l2 : cb < w.heap.size := World.block_lt g2
      have hn : ¬ (F cb ∨ (Value.slice ta tn tc).ownBlock = some cb) := fun h => h.elim g4 g5
      have q2 := hfr.cell (below_cell hwa g2) hn
      have q3 := hfr.cell (below_cell hwa g3) hn
      refine ⟨cb, c2, by rw [List.getElem_append_left hj2, g1], q2, q3, fun hf => (hF' _ hf).elim g4 (fun h => by omega), fun hv => ?_⟩
      rcases (hrv cb hv).2.2.2 with h1 | h1
      · exact g5 h1
      · omega
    · have hj3 : j = EL.length := by simp at hj; omega
      subst hj3
      refine ⟨ca, cc, by simp, ?_, ?_, hca, fun hv => (hrv ca hv).2.2.1 rfl⟩
      · rw [hl, hx]; exact hc0
      · rw [hl]; exact hc1
  · rw [hD]
    exact ⟨(hrv k hk2).1, (hrv k hk2).2.1⟩
/-- the words behind a deferred call's beginning -/
def thunkW (W : List Int) (x y : Int) : List Int := ((clearL W 7 7).set 9 x).set 10 y
theorem thunkW_get {W : List Int} (hW : W.length = 2000) (x y : Int) : (thunkW W x y).length = 2000 ∧ (thunkW W x y)[2]? = W[2]? ∧ (thunkW W x y)[9]? = some x ∧ (thunkW W x y)[10]? = some y := by
  have hl := clearL_len W 7 7
  unfold thunkW
  refine ⟨by rw [List.length_set, List.length_set, hl, hW], ?_, ?_, ?_⟩
  · rw [List.getElem?_set, if_neg (by decide), List.getElem?_set, if_neg (by decide), clearL_get W 7 7 (by omega), if_neg (by omega)]
  · rw [List.getElem?_set, if_neg (by decide), List.getElem?_set, if_pos rfl, if_pos (by rw [hl, hW]; decide)]
  · rw [List.getElem?_set, if_pos rfl, if_pos (by rw [List.length_set, hl, hW]; decide)]
theorem oneOk {bs : Int} {W : List Int} {ta : Option Addr} {tn tc : Nat} {M : List Mark} (hW : W.length = 2000) (hM : M.length ≤ 10) : TkOk ⟨bs, W, [⟨0, 0, 0, -1, ta, tn, tc⟩], M⟩ := by
  refine ⟨by show 1 ≤ 1000; decide, by show M.length ≤ 1000; omega, by show W.length ≤ 100000; omega, fun q hq => ?_⟩
  have hq : q ∈ [(⟨0, 0, 0, -1, ta, tn, tc⟩ : Part)] := hq
  simp at hq
  rw [hq]
  exact ⟨by show (0 : Int) ≤ 0; decide, by show (0 : Int) ≤ 100000000; decide⟩
theorem twoOk {bs : Int} {W : List Int} {ta : Option Addr} {tn tc : Nat} {M : List Mark} (hW : W.length = 2000) (hM : M.length ≤ 10) : TkOk ⟨bs, W, [⟨0, 0, 0, -1, ta, tn, tc⟩, ⟨((1 : Nat) : Int), 0, ((7 : Nat) : Int), -1, none, 0, 0⟩], M⟩ := by
  refine ⟨by show 2 ≤ 1000; decide, by show M.length ≤ 1000; omega, by show W.length ≤ 100000; omega, fun q hq => ?_⟩
  have hq : q ∈ [(⟨0, 0, 0, -1, ta, tn, tc⟩ : Part), ⟨((1 : Nat) : Int), 0, ((7 : Nat) : Int), -1, none, 0, 0⟩] := hq
  simp at hq
  rcases hq with rfl | rfl
  · exact ⟨by show (0 : Int) ≤ 0; decide, by show (0 : Int) ≤ 100000000; decide⟩
  · exact ⟨by decide, by decide⟩
theorem thunkF {w : World} {F : Nat → Prop} {tb : Nat} {X : TB} {bs : Int} {W : List Int} {tg tc k : Nat} {l : List Int} (h : TaskAt w F tb p1 ⟨bs, W, [⟨0, 0, 0, -1, some ⟨tg, 0, none⟩, k + 1, tc⟩], [⟨true, false, ((k + 1 : Nat) : Int)⟩]⟩ X) (hW : W.length = 2000) (htc : k + 1 ≤ tc) (hk : k < 16) (hr : Row1 w F l (k + 1) tg) :
    Calls Try.prog 21 #[.pointer (some ⟨tb, 0, none⟩)] w fun e w' => e = .returned (.bool true) ∧ ∃ F' X', TaskAt w' F' tb p1 ⟨bs, thunkW W (l.getD k 0) k, [⟨0, 0, 0, -1, some ⟨tg, 0, none⟩, k, k⟩, ⟨((1 : Nat) : Int), 0, ((7 : Nat) : Int), -1, none, 0, 0⟩], [⟨true, false, (k : Int)⟩, ⟨false, true, 0⟩]⟩ X' ∧ (∀ q, F' q → F q ∨ w.heap.size ≤ q) ∧ Fr F w w' := by
  obtain ⟨_, cb, cc, h2, h3, h4, h5, h6⟩ := hr k (by omega)
  have l2 : cb < w.heap.size := World.block_lt h4
  have hal : IntSl w (fun q => q = cb) (some ⟨cb, 0, none⟩) [l.getD k 0, (k : Int)] := fun jj hj => by
    have hj2 : jj = 0 ∨ jj = 1 := by have : jj < 2 := hj; omega
    rcases hj2 with rfl | rfl
    · exact ⟨_, 0, rfl, rfl, h4⟩
    · exact ⟨_, 0, rfl, rfl, h5⟩
  have := tkThunk_any w F tb p1 _ X h p1_small (oneOk hW (by show 1 ≤ 10; decide)) (by show 1 < 1000; decide) [] 0 0 0 (-1) tg k tc rfl htc (by omega) [] ⟨true, false, ((k + 1 : Nat) : Int)⟩ rfl rfl (by show (0 : Int) < ((k + 1 : Nat) : Int); omega) (by show ((k + 1 : Nat) : Int) < 100; omega) 1 (by decide) 7 (by rw [usedN_concat (P := []) (q := ⟨0, 0, 0, -1, some ⟨tg, 0, none⟩, k + 1, tc⟩) rfl]; show (0 : Int) + ((wordsN p1 (0 : Nat) : Nat) : Int) = 7; rw [w10]; rfl) (by rw [w11]; show 7 + 7 ≤ W.length; omega) (fun q => q = cb) (some ⟨cb, 0, none⟩) [l.getD k 0, (k : Int)] cc hal (fun q hq => by subst hq; exact ⟨h6, l2⟩) rfl (by show ((2 : Nat) : Int) ≤ 3; decide) (by show 2 ≤ 3000; decide) h2 h3
  refine this.mono ?_
  rintro e w' ⟨rfl, F', X', h1, h2, h3⟩
  rw [w11, show (((k + 1 : Nat) : Int) - 1) = (k : Int) from by omega] at h1
  exact ⟨rfl, F', X', h1, h2, h3⟩
theorem slotT {wr : World} {F : Nat → Prop} {tb : Nat} {X : TB} {bs : Int} {W : List Int} {ta : Option Addr} {tn tc : Nat} {M : List Mark} (h : TaskAt wr F tb p1 ⟨bs, W, [⟨0, 0, 0, -1, ta, tn, tc⟩, ⟨((1 : Nat) : Int), 0, ((7 : Nat) : Int), -1, none, 0, 0⟩], M⟩ X) (hW : W.length = 2000) (hM : M.length ≤ 10) (k : Nat) (hk : k < 3) (x : Int) (hx : W[7 + (2 + k)]? = some x) :
    Calls Try.prog 15 #[.pointer (some ⟨tb, 0, none⟩), .int .i64 k] wr fun e w' => e = .returned (.int .i64 x) ∧ Below wr.heap.size wr w' := by
  have hlt : 7 + (2 + k) < W.length := by omega
  rw [List.getElem?_eq_getElem hlt] at hx
  injection hx with hx
  subst hx
  exact slot_in wr F tb p1 _ X h (twoOk hW hM) 1 rfl 1 (by decide) rfl 7 rfl k (by show (k : Int) < 3; omega) (by omega) hlt
theorem slotU {wr : World} {F : Nat → Prop} {tb : Nat} {X : TB} {bs : Int} {W : List Int} {ta : Option Addr} {tn tc : Nat} {M : List Mark} (h : TaskAt wr F tb p1 ⟨bs, W, [⟨0, 0, 0, -1, ta, tn, tc⟩], M⟩ X) (hW : W.length = 2000) (hM : M.length ≤ 10) (k : Nat) (hk : k < 3) (x : Int) (hx : W[0 + (2 + k)]? = some x) :
    Calls Try.prog 15 #[.pointer (some ⟨tb, 0, none⟩), .int .i64 k] wr fun e w' => e = .returned (.int .i64 x) ∧ Below wr.heap.size wr w' := by
  have hlt : 0 + (2 + k) < W.length := by omega
  rw [List.getElem?_eq_getElem hlt] at hx
  injection hx with hx
  subst hx
  exact slot_in wr F tb p1 _ X h (oneOk hW hM) 0 rfl 0 (by decide) rfl 0 rfl k (by show (k : Int) < 3; omega) (by omega) hlt
theorem popTwo {w : World} {F : Nat → Prop} {tb : Nat} {X : TB} {bs : Int} {W : List Int} {ta : Option Addr} {tn tc : Nat} {m m2 : Mark} (h : TaskAt w F tb p1 ⟨bs, W, [⟨0, 0, 0, -1, ta, tn, tc⟩, ⟨((1 : Nat) : Int), 0, ((7 : Nat) : Int), -1, none, 0, 0⟩], [m, m2]⟩ X) (hW : W.length = 2000) (v : Int) :
    Calls Try.prog 16 #[.pointer (some ⟨tb, 0, none⟩), .int .i64 v, .bool true] w fun e w' => e = .returned (.bool true) ∧ ∃ F' X', TaskAt w' F' tb p1 ⟨bs, W, [⟨0, 0, 0, -1, ta, tn, tc⟩], [m]⟩ X' ∧ (∀ k, F' k → F k ∨ w.heap.size ≤ k) ∧ Fr F w w' :=
  pop_any w F tb p1 _ X h (twoOk hW (by show 2 ≤ 10; decide)) [⟨0, 0, 0, -1, ta, tn, tc⟩] ⟨((1 : Nat) : Int), 0, ((7 : Nat) : Int), -1, none, 0, 0⟩ rfl [m] m2 rfl v true _ (fun _ => rfl) (fun hc => by simp at hc)
theorem popOne {w : World} {F : Nat → Prop} {tb : Nat} {X : TB} {bs : Int} {W : List Int} {ta : Option Addr} {tn tc : Nat} {m : Mark} (h : TaskAt w F tb p1 ⟨bs, W, [⟨0, 0, 0, -1, ta, tn, tc⟩], [m]⟩ X) (hW : W.length = 2000) (v : Int) :
    Calls Try.prog 16 #[.pointer (some ⟨tb, 0, none⟩), .int .i64 v, .bool false] w fun e w' => e = .returned (.bool true) ∧ ∃ F' X', TaskAt w' F' tb p1 ⟨bs, W, [], []⟩ X' ∧ (∀ k, F' k → F k ∨ w.heap.size ≤ k) ∧ Fr F w w' :=
  pop_any w F tb p1 _ X h (oneOk hW (by show 1 ≤ 10; decide)) [] ⟨0, 0, 0, -1, ta, tn, tc⟩ rfl [] m rfl v false _ (fun _ => rfl) (fun hc => by simp at hc)
theorem startT (bs : Int) : ∃ W, enterT ⟨bs, List.replicate 2000 0, [], []⟩ 0 7 0 (-1) [] = ⟨bs, W, [⟨0, 0, 0, -1, none, 0, 0⟩], [⟨false, false, ((0 : Nat) : Int)⟩]⟩ ∧ W.length = 2000 ∧ W[2]? = some 0 := by
  refine ⟨clearL (List.replicate 2000 0) 0 7, rfl, ?_, ?_⟩
  · rw [clearL_len, List.length_replicate]
  · rw [clearL_get _ 0 7 (by rw [List.length_replicate]; decide), if_pos (by decide)]
end Go.Proofs.Ytmanoclahcpaoaa
