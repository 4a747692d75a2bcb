/- Frames of seven words, each with its own slots. No program is walked here, but for Set, Slot and Pop that are told again. -/
import Derived.Test.YtmanoclahcpaoaaTmF
import Derived.Test.YtmanoclahcpaoaaTkW
namespace Go.Proofs.Ytmanoclahcpaoaa
open Go.ChangeShapes Go.WideShapes Go.ChangeAt Go.RowKit Go.Maps

theorem clearL_get (l : List Int) (o n : Nat) (hl : o + n ≤ l.length) (k : Nat) : (clearL l o n)[k]? = if o ≤ k ∧ k < o + n then some 0 else l[k]? := by
  unfold clearL
  induction n with
  | zero => simp; intro h h2; omega
  | succ n ih =>
    have ih := ih (by omega)
    have hlen : (clearL l o n).length = l.length := clearL_len l o n
    unfold clearL at hlen
    rw [List.range_succ, List.foldl_append]
    simp only [List.foldl_cons, List.foldl_nil]
    rw [List.getElem?_set]
    by_cases hk : o + n = k
    · subst hk
      rw [if_pos rfl, if_pos (by rw [hlen]; omega), if_pos (by omega)]
    · rw [if_neg hk, ih]
      by_cases h2 : o ≤ k ∧ k < o + n
      · rw [if_pos h2, if_pos (by omega)]
      · rw [if_neg h2, if_neg (by omega)]
/-- one word is set -/
def setT (T : Tk) (o : Nat) (v : Int) : Tk := ⟨T.base, T.words.set o v, T.parts, T.marks⟩
/-- the last frame is gone -/
def popT (T : Tk) : Tk := ⟨T.base, T.words, T.parts.dropLast, T.marks.dropLast⟩
/-- d frames beyond the first one, each but the last with its three slots set -/
structure FrI (T : Tk) (d : Nat) (s : Int) : Prop where
  wl : T.words.length = 1000
  pl : T.parts.length = d + 1
  ml : T.marks.length = d + 1
  pt : ∀ k (hk : k < T.parts.length), T.parts[k].base = ((7 * k : Nat) : Int) ∧ (T.parts[k].fn = ((0 : Nat) : Int) ∨ T.parts[k].fn = ((1 : Nat) : Int)) ∧ (0 < k → T.parts[k].ret = s)
  md : ∀ m ∈ T.marks, m.deferred = false
  wd : ∀ f, f < d → ∀ k, k < 3 → T.words[7 * f + (2 + k)]? = some ((100 * k + f : Nat) : Int)
theorem FrI.inv {T : Tk} {d : Nat} {s : Int} (h : FrI T d s) : Inv T (d + 1) 1000 := ⟨h.wl, h.pl, h.ml, fun k hk => ⟨(h.pt k hk).1, (h.pt k hk).2.1⟩⟩
theorem FrI.start (base s : Int) : FrI (enterT ⟨base, List.replicate 1000 0, [], []⟩ 0 7 0 (-1) []) 0 s := by
  obtain ⟨h1, h2, h3, h4⟩ := Inv.start 1000 base
  refine ⟨h1, h2, h3, fun k hk => ⟨(h4 k hk).1, (h4 k hk).2, fun hk0 => ?_⟩, fun m hm => ?_, fun f hf => absurd hf (by omega)⟩
  · rw [h2] at hk; omega
  · have hm : m ∈ ([⟨false, false, 0⟩] : List Mark) := hm
    simp at hm
    rw [hm]
theorem FrI.set {T : Tk} {d : Nat} {s : Int} (h : FrI T d s) (k : Nat) (v : Int) : FrI (setT T (7 * d + (2 + k)) v) d s := by
  refine ⟨?_, h.pl, h.ml, h.pt, h.md, fun f hf j hj => ?_⟩
  · show (T.words.set _ _).length = 1000
    rw [List.length_set, h.wl]
  · show (T.words.set _ _)[_]? = _
    rw [List.getElem?_set, if_neg (by omega)]
    exact h.wd f hf j hj
theorem setT_same {T : Tk} {d : Nat} {s : Int} (h : FrI T d s) (hd : d ≤ 100) (k : Nat) (hk : k < 3) (v : Int) : (setT T (7 * d + (2 + k)) v).words[7 * d + (2 + k)]? = some v := by
  show (T.words.set _ _)[_]? = _
  rw [List.getElem?_set, if_pos rfl, if_pos (by rw [h.wl]; omega)]
theorem setT_other {T : Tk} {d : Nat} (k j : Nat) (hk : k ≠ j) (v : Int) : (setT T (7 * d + (2 + k)) v).words[7 * d + (2 + j)]? = T.words[7 * d + (2 + j)]? := by
  show (T.words.set _ _)[_]? = _
  rw [List.getElem?_set, if_neg (by omega)]
/-- a frame of two arguments is entered -/
def nextT (T : Tk) (d : Nat) (s a b : Int) : Tk := enterT T (7 * (d + 1)) 7 1 s [a, b]
theorem nextT_words (T : Tk) (d : Nat) (s a b : Int) : (nextT T d s a b).words = ((clearL T.words (7 * (d + 1)) 7).set (7 * (d + 1) + (2 + 0)) a).set (7 * (d + 1) + (2 + 1)) b := rfl
theorem nextT_get {T : Tk} {d : Nat} {s0 : Int} (h : FrI T d s0) (hd : d ≤ 100) (s a b : Int) (k : Nat) : (nextT T d s a b).words[k]? = if k = 7 * (d + 1) + (2 + 1) then some b else if k = 7 * (d + 1) + (2 + 0) then some a else if 7 * (d + 1) ≤ k ∧ k < 7 * (d + 1) + 7 then some 0 else T.words[k]? := by
  have hc := clearL_get T.words (7 * (d + 1)) 7 (by rw [h.wl]; omega) k
  have hl := clearL_len T.words (7 * (d + 1)) 7
  rw [nextT_words, List.getElem?_set, List.getElem?_set]
  by_cases h1 : k = 7 * (d + 1) + (2 + 1)
  · rw [if_pos h1.symm, if_pos (by rw [List.length_set, hl, h.wl]; omega), if_pos h1]
  · rw [if_neg (fun e => h1 e.symm), if_neg h1]
    by_cases h2 : k = 7 * (d + 1) + (2 + 0)
    · rw [if_pos h2.symm, if_pos (by rw [hl, h.wl]; omega), if_pos h2]
    · rw [if_neg (fun e => h2 e.symm), if_neg h2]
      exact hc
theorem FrI.next {T : Tk} {d : Nat} {s : Int} (h : FrI T d s) (hd : d ≤ 100) (a b : Int) (hw : ∀ k, k < 3 → T.words[7 * d + (2 + k)]? = some ((100 * k + d : Nat) : Int)) : FrI (nextT T d s a b) (d + 1) s := by
  have hg := nextT_get h hd s a b
  refine ⟨?_, ?_, ?_, fun k hk => ?_, fun m hm => ?_, fun f hf k hk => ?_⟩
  · rw [nextT_words, List.length_set, List.length_set, clearL_len, h.wl]
  · show (T.parts ++ [_]).length = d + 1 + 1
    rw [List.length_append, h.pl]; rfl
  · show (T.marks ++ [_]).length = d + 1 + 1
    rw [List.length_append, h.ml]; rfl
  · by_cases hkd : k < T.parts.length
    · have e : (nextT T d s a b).parts[k] = T.parts[k] := List.getElem_append_left hkd
      rw [e]
      exact h.pt k hkd
    · have hk2 : k < (T.parts ++ [(⟨(1 : Nat), 0, (7 * (d + 1) : Nat), s, none, 0, 0⟩ : Part)]).length := hk
      rw [List.length_append] at hk2
      have hk3 : k = T.parts.length := by simp at hk2; omega
      subst hk3
      have e : (nextT T d s a b).parts[T.parts.length] = ⟨(1 : Nat), 0, (7 * (d + 1) : Nat), s, none, 0, 0⟩ := by
        show (T.parts ++ [(⟨(1 : Nat), 0, (7 * (d + 1) : Nat), s, none, 0, 0⟩ : Part)])[T.parts.length] = _
        simp
      rw [e, h.pl]
      exact ⟨rfl, .inr rfl, fun _ => rfl⟩
  · have hm : m ∈ T.marks ++ [(⟨false, false, 0⟩ : Mark)] := hm
    rw [List.mem_append] at hm
    rcases hm with hm | hm
    · exact h.md m hm
    · simp at hm
      rw [hm]
  · rw [hg, if_neg (by omega), if_neg (by omega), if_neg (by omega)]
    by_cases hf2 : f < d
    · exact h.wd f hf2 k hk
    · obtain rfl : f = d := by omega
      exact hw k hk
theorem nextT_a {T : Tk} {d : Nat} {s0 : Int} (h : FrI T d s0) (hd : d ≤ 100) (s a b : Int) : (nextT T d s a b).words[7 * (d + 1) + (2 + 0)]? = some a ∧ (nextT T d s a b).words[7 * (d + 1) + (2 + 1)]? = some b ∧ (nextT T d s a b).words[7 * (d + 1) + (2 + 2)]? = some 0 := by
  have hg := nextT_get h hd s a b
  refine ⟨?_, ?_, ?_⟩
  · rw [hg, if_neg (by omega), if_pos rfl]
  · rw [hg, if_pos rfl]
  · rw [hg, if_neg (by omega), if_neg (by omega), if_pos (by omega)]
theorem FrI.pop {T : Tk} {d : Nat} {s : Int} (h : FrI T (d + 1) s) : FrI (popT T) d s ∧ ∃ q m, T.parts = (popT T).parts ++ [q] ∧ T.marks = (popT T).marks ++ [m] ∧ q.ret = s ∧ m.deferred = false := by
  have hpn : T.parts ≠ [] := fun e => by have := h.pl; rw [e] at this; simp at this
  have hmn : T.marks ≠ [] := fun e => by have := h.ml; rw [e] at this; simp at this
  refine ⟨⟨h.wl, ?_, ?_, fun k hk => ?_, fun m hm => ?_, fun f hf k hk => h.wd f (by omega) k hk⟩, T.parts.getLast hpn, T.marks.getLast hmn, (List.dropLast_concat_getLast hpn).symm, (List.dropLast_concat_getLast hmn).symm, ?_, ?_⟩
  · show T.parts.dropLast.length = _
    rw [List.length_dropLast, h.pl]; rfl
  · show T.marks.dropLast.length = _
    rw [List.length_dropLast, h.ml]; rfl
  · have hk2 : k < T.parts.dropLast.length := hk
    have hk3 : k < T.parts.length := by rw [List.length_dropLast] at hk2; omega
    have e : (popT T).parts[k]'hk = T.parts[k] := List.getElem_dropLast hk2
    rw [e]
    exact h.pt k hk3
  · exact h.md m ((List.dropLast_sublist _).subset hm)
  · rw [List.getLast_eq_getElem]
    have hl := h.pl
    exact (h.pt (T.parts.length - 1) (by omega)).2.2 (by omega)
  · exact h.md _ (List.getLast_mem hmn)
theorem FrI.ok {T : Tk} {d : Nat} {s : Int} (h : FrI T d s) (hd : d ≤ 99) : TkOk T := h.inv.ok (by omega) (by omega)
theorem setF {wr : World} {F : Nat → Prop} {tb : Nat} {T : Tk} {X : TB} (h : TaskAt wr F tb p1 T X) {d : Nat} {s : Int} (hI : FrI T d s) (hd : d ≤ 30) (k : Nat) (hk : k < 3) (v : Int) :
    Calls Try.prog 14 #[.pointer (some ⟨tb, 0, none⟩), .int .i64 k, .int .i64 v] wr fun e w' => e = .returned (.bool true) ∧ TaskAt w' F tb p1 (setT T (7 * d + (2 + k)) v) X ∧ Fr F wr w' := by
  have hpl := hI.pl
  have hwl := hI.wl
  obtain ⟨h1, h2, _⟩ := hI.pt d (by omega)
  rcases h2 with h2 | h2
  · exact set_in wr F tb p1 T X h (hI.ok (by omega)) d hpl 0 (by decide) h2 (7 * d) h1 k (by show (k : Int) < 3; omega) (by omega) (by omega) v
  · exact set_in wr F tb p1 T X h (hI.ok (by omega)) d hpl 1 (by decide) h2 (7 * d) h1 k (by show (k : Int) < 3; omega) (by omega) (by omega) v
theorem slotF {wr : World} {F : Nat → Prop} {tb : Nat} {T : Tk} {X : TB} (h : TaskAt wr F tb p1 T X) {d : Nat} {s : Int} (hI : FrI T d s) (hd : d ≤ 30) (k : Nat) (hk : k < 3) (x : Int) (hx : T.words[7 * d + (2 + k)]? = some x) :
    Calls Try.prog 15 #[.pointer (some ⟨tb, 0, none⟩), .int .i64 k] wr fun e w' => e = .returned (.int .i64 x) ∧ Below wr.heap.size wr w' := by
  have hpl := hI.pl
  have hwl := hI.wl
  have hlt : 7 * d + (2 + k) < T.words.length := by omega
  rw [List.getElem?_eq_getElem hlt] at hx
  injection hx with hx
  subst hx
  obtain ⟨h1, h2, _⟩ := hI.pt d (by omega)
  rcases h2 with h2 | h2
  · exact slot_in wr F tb p1 T X h (hI.ok (by omega)) d hpl 0 (by decide) h2 (7 * d) h1 k (by show (k : Int) < 3; omega) (by omega) hlt
  · exact slot_in wr F tb p1 T X h (hI.ok (by omega)) d hpl 1 (by decide) h2 (7 * d) h1 k (by show (k : Int) < 3; omega) (by omega) hlt
/-- what Pop leaves -/
def poppedT (T : Tk) (d s : Nat) (v : Int) (has : Bool) : Tk := if has then setT (popT T) (7 * d + (2 + s)) v else popT T
theorem FrI.popped {T : Tk} {d s : Nat} (h : FrI T (d + 1) s) (hd : d ≤ 30) (hs : s < 3) (v : Int) (has : Bool) : FrI (poppedT T d s v has) d s ∧ ∀ k, k < 3 → (poppedT T d s v has).words[7 * d + (2 + k)]? = some (if k = s ∧ has = true then v else ((100 * k + d : Nat) : Int)) := by
  obtain ⟨h1, _⟩ := h.pop
  have hw : ∀ k, k < 3 → (popT T).words[7 * d + (2 + k)]? = some ((100 * k + d : Nat) : Int) := fun k hk => h.wd d (by omega) k hk
  cases has
  · refine ⟨h1, fun k hk => ?_⟩
    rw [if_neg (by simp)]
    exact hw k hk
  · refine ⟨h1.set s v, fun k hk => ?_⟩
    by_cases hks : k = s
    · subst hks
      rw [if_pos ⟨rfl, rfl⟩]
      exact setT_same h1 (by omega) k hk v
    · rw [if_neg (fun e => hks e.1)]
      exact (setT_other s k (fun e => hks e.symm) v).trans (hw k hk)
theorem popF {w : World} {F : Nat → Prop} {tb : Nat} {T : Tk} {X : TB} (h : TaskAt w F tb p1 T X) {d s : Nat} (hI : FrI T (d + 1) s) (hd : d ≤ 30) (hs : s < 3) (v : Int) (has : Bool) :
    Calls Try.prog 16 #[.pointer (some ⟨tb, 0, none⟩), .int .i64 v, .bool has] w fun e w' => e = .returned (.bool true) ∧ ∃ F' X', TaskAt w' F' tb p1 (poppedT T d s v has) X' ∧ (∀ k, F' k → F k ∨ w.heap.size ≤ k) ∧ Fr F w w' := by
  obtain ⟨h1, q, m, hq, hm, hr, hdf⟩ := hI.pop
  refine pop_any w F tb p1 T X h (hI.ok (by omega)) _ q hq _ m hm v has _ (fun hc => ?_) (fun hc wr F' X' hT => ?_)
  · rw [hr, hdf] at hc
    have : has = false := by
      cases has
      · rfl
      · simp at hc
        try omega
    subst this
    rfl
  · rw [hr, hdf] at hc
    have : has = true := by
      cases has
      · simp at hc
      · rfl
    subst this
    rw [hr]
    exact setF hT h1 hd s hs v
theorem popFin {w : World} {F : Nat → Prop} {tb : Nat} {T : Tk} {X : TB} (h : TaskAt w F tb p1 T X) {s : Int} (hI : FrI T 0 s) (v : Int) :
    Calls Try.prog 16 #[.pointer (some ⟨tb, 0, none⟩), .int .i64 v, .bool false] w fun e w' => e = .returned (.bool true) ∧ ∃ F' X' T', TaskAt w' F' tb p1 T' X' ∧ T'.parts.length = 0 ∧ (∀ k, F' k → F k ∨ w.heap.size ≤ k) ∧ Fr F w w' := by
  obtain ⟨q, hq⟩ : ∃ q, T.parts = [q] := List.length_eq_one_iff.mp hI.pl
  obtain ⟨m, hm⟩ : ∃ m, T.marks = [m] := List.length_eq_one_iff.mp hI.ml
  refine (pop_any w F tb p1 T X h (hI.ok (by omega)) [] q hq [] m hm v false ⟨T.base, T.words, [], []⟩ (fun _ => rfl) (fun hc => by simp at hc)).mono ?_
  rintro e w' ⟨rfl, F', X', h1, h2, h3⟩
  exact ⟨rfl, F', X', _, h1, rfl, h2, h3⟩
theorem enterF {w : World} {F : Nat → Prop} {tb : Nat} {T : Tk} {X : TB} (h : TaskAt w F tb p1 T X) {d s : Nat} (hI : FrI T d s) (hd : d ≤ 30) (a b : Int) (ret : Int) :
    Calls Try.prog 11 #[.pointer (some ⟨tb, 0, none⟩), .int .i64 1, .slice (some ⟨w.heap.size, 0, none⟩) 2 2, .int .i64 ret] (w.alloc (.cells #[.int .i64 a, .int .i64 b] 3)) fun e w' => e = .returned (.bool true) ∧ ∃ F' X', TaskAt w' F' tb p1 (nextT T d ret a b) X' ∧ (∀ q, F' q → F q ∨ w.heap.size ≤ q) ∧ Fr F w w' := by
  have hwa := (Below.refl w.heap.size w).alloc (Nat.le_refl _) (.cells #[.int .i64 a, .int .i64 b] 3)
  have h2 := h.below hwa
  have hpl := hI.pl
  have hwl := hI.wl
  have hia : IntSl (w.alloc (.cells #[.int .i64 a, .int .i64 b] 3)) (fun q => q = w.heap.size) (some ⟨w.heap.size, 0, none⟩) [a, b] := fun jj hj => by
    have hj2 : jj = 0 ∨ jj = 1 := by have : jj < 2 := hj; omega
    rcases hj2 with rfl | rfl
    · exact ⟨_, 0, rfl, rfl, cell_new _ _ _ _ 0⟩
    · exact ⟨_, 0, rfl, rfl, cell_new _ _ _ _ 1⟩
  have hus := hI.inv.used (by omega)
  have := enter_yes _ F tb p1 T X h2 p1_small (hI.ok (by omega)) (by omega) 1 (by decide) (7 * (d + 1)) hus (by rw [w11, hwl]; omega) (fun q => q = w.heap.size) (some ⟨w.heap.size, 0, none⟩) [a, b] 2 hia (fun q hq => ⟨fun hf => by have := h.flt q hf; omega, by simp; omega⟩) rfl (by show ((2 : Nat) : Int) ≤ 3; decide) (by show 2 ≤ 3000; decide) ret
  rw [w11] at this
  refine this.mono ?_
  rintro e w' ⟨rfl, F', X', h3, h4, h5⟩
  refine ⟨rfl, F', X', h3, fun q hq => ?_, (Fr.of_below hwa F).trans h5 (fun _ _ h => h)⟩
  rcases h4 q hq with h | h
  · exact .inl h
  · simp at h
    exact .inr (by omega)
end Go.Proofs.Ytmanoclahcpaoaa
