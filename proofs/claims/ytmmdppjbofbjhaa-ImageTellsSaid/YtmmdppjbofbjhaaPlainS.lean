/- The bytes of a program: whether they may be laid, told list by list; how much bytes can hold. Nothing of the program's text stands here. -/
import Derived.Test.YtmmdppjbofbjhaaPlainR
import Derived.Test.YtmmdppjbofbjhaaRefB
namespace Go.Proofs.Ytmmdppjbofbjhaa

theorem wNums_flag (s : List Int × Bool) (l : List Int) : (wNums s l).2 = (s.2 || badB l) := rfl
theorem badB_one (n : Nat) : badB [(n : Int)] = !decide (n ≤ 255) := by
  have h1 : decide ((n : Int) < 0) = false := decide_eq_false (by omega)
  have h2 : decide ((255 : Int) < (n : Int)) = !decide (n ≤ 255) := by
    by_cases h : n ≤ 255
    · rw [decide_eq_true h]; exact decide_eq_false (by omega)
    · rw [decide_eq_false h]; exact decide_eq_true (by omega)
  unfold badB
  simp only [List.any_cons, List.any_nil, h1, h2, Bool.or_false, Bool.false_or]
theorem wList_flag (s : List Int × Bool) (l : List Int) : (wList s l).2 = (s.2 || !lstOk l) := by
  unfold wList lstOk
  rw [wNums_flag, wNums_flag, badB_one]
  cases s.2 <;> cases decide (l.length ≤ 255) <;> cases badB l <;> rfl
theorem foldS_flag (ls : List (List Int)) : ∀ s, (ls.foldl wList s).2 = (s.2 || !ls.all lstOk) := by
  induction ls with
  | nil => intro s; simp
  | cons x ls ih =>
    intro s
    rw [List.foldl_cons, ih, wList_flag, List.all_cons]
    cases s.2 <;> cases lstOk x <;> cases ls.all lstOk <;> rfl
/-- may a function be laid? -/
def fnOkB (f : Fun) : Bool := lstOk f.args && lstOk f.objects && laid f.code && decide (0 ≤ f.result) && decide (f.result ≤ 255) && decide (0 ≤ f.slots) && decide (f.slots ≤ 255) && decide (f.code.length ≤ 255)
theorem badB_two (a b : Int) : badB [a, b] = !(decide (0 ≤ a) && decide (a ≤ 255) && decide (0 ≤ b) && decide (b ≤ 255)) := by
  have h : ∀ x : Int, (decide (x < 0) || decide (255 < x)) = !(decide (0 ≤ x) && decide (x ≤ 255)) := fun x => by
    by_cases h1 : 0 ≤ x
    · by_cases h2 : x ≤ 255
      · rw [decide_eq_true h1, decide_eq_true h2, decide_eq_false (by omega : ¬ x < 0), decide_eq_false (by omega : ¬ 255 < x)]; rfl
      · rw [decide_eq_true h1, decide_eq_false h2, decide_eq_false (by omega : ¬ x < 0), decide_eq_true (by omega : 255 < x)]; rfl
    · rw [decide_eq_false h1, decide_eq_true (by omega : x < 0)]; rfl
  unfold badB
  simp only [List.any_cons, List.any_nil, h, Bool.or_false]
  cases decide (0 ≤ a) <;> cases decide (a ≤ 255) <;> cases decide (0 ≤ b) <;> cases decide (b ≤ 255) <;> rfl
theorem wFn_flag (s : List Int × Bool) (f : Fun) : (wFn s f).2 = (s.2 || !fnOkB f) := by
  have : (wFn s f).2 = ((wNums (wList (wNums (wList s f.args) [f.result, f.slots]) f.objects) [(f.code.length : Int)]).2 || !laid f.code) := rfl
  rw [this, wNums_flag, wList_flag, wNums_flag, wList_flag, badB_one, badB_two]
  unfold fnOkB
  cases s.2 <;> cases lstOk f.args <;> cases lstOk f.objects <;> cases laid f.code <;> cases decide (0 ≤ f.result) <;> cases decide (f.result ≤ 255) <;> cases decide (0 ≤ f.slots) <;> cases decide (f.slots ≤ 255) <;> cases decide (f.code.length ≤ 255) <;> rfl
theorem foldF_flag (fs : List Fun) : ∀ s, (fs.foldl wFn s).2 = (s.2 || !fs.all fnOkB) := by
  induction fs with
  | nil => intro s; simp
  | cons x fs ih =>
    intro s
    rw [List.foldl_cons, ih, wFn_flag, List.all_cons]
    cases s.2 <;> cases fnOkB x <;> cases fs.all fnOkB <;> rfl
/-- up to the shape k -/
def okS (p : Prg) (k : Nat) : Bool := lstOk p.globals && decide (p.shapes.length ≤ 255) && decide (p.funcs.length ≤ 255) && (p.shapes.take k).all lstOk
def strS (p : Prg) (k : Nat) : List Int := encL p.globals ++ [(p.shapes.length : Int)] ++ (p.shapes.take k).flatMap encL
/-- up to the function k -/
def okF2 (p : Prg) (k : Nat) : Bool := okS p p.shapes.length && (p.funcs.take k).all fnOkB
def strF (p : Prg) (k : Nat) : List Int := strS p p.shapes.length ++ [(p.funcs.length : Int)] ++ (p.funcs.take k).flatMap encF
theorem okS_snoc (p : Prg) (k : Nat) (hk : k < p.shapes.length) : okS p (k + 1) = (okS p k && lstOk p.shapes[k]) := by
  unfold okS
  rw [take_snoc _ k hk, List.all_append]
  simp [Bool.and_assoc]
theorem strS_snoc (p : Prg) (k : Nat) (hk : k < p.shapes.length) : strS p (k + 1) = strS p k ++ encL p.shapes[k] := by
  unfold strS
  rw [take_snoc _ k hk, List.flatMap_append]
  simp
theorem okF2_snoc (p : Prg) (k : Nat) (hk : k < p.funcs.length) : okF2 p (k + 1) = (okF2 p k && fnOkB p.funcs[k]) := by
  unfold okF2
  rw [take_snoc _ k hk, List.all_append]
  simp [Bool.and_assoc]
theorem strF_snoc (p : Prg) (k : Nat) (hk : k < p.funcs.length) : strF p (k + 1) = strF p k ++ encF p.funcs[k] := by
  unfold strF
  rw [take_snoc _ k hk, List.flatMap_append]
  simp
theorem okS_stop (p : Prg) (k n : Nat) (hk : k ≤ n) (h : okS p k = false) : okS p n = false := by
  cases hn : okS p n
  · rfl
  · unfold okS at h hn
    simp only [Bool.and_eq_true] at hn
    rw [hn.1.1.1, hn.1.1.2, hn.1.2] at h
    have h3 : (p.shapes.take k).all lstOk = true := by
      rw [List.all_eq_true] at hn ⊢
      exact fun x hx => hn.2 x (List.mem_of_mem_take (show x ∈ (p.shapes.take n).take k by rw [List.take_take, Nat.min_eq_left hk]; exact hx))
    rw [h3] at h
    cases h
theorem okF2_stop (p : Prg) (k n : Nat) (hk : k ≤ n) (h : okF2 p k = false) : okF2 p n = false := by
  cases hn : okF2 p n
  · rfl
  · unfold okF2 at h hn
    simp only [Bool.and_eq_true] at hn
    rw [hn.1] at h
    have h3 : (p.funcs.take k).all fnOkB = true := by
      rw [List.all_eq_true] at hn ⊢
      exact fun x hx => hn.2 x (List.mem_of_mem_take (show x ∈ (p.funcs.take n).take k by rw [List.take_take, Nat.min_eq_left hk]; exact hx))
    rw [h3] at h
    cases h
theorem okF2_zero (p : Prg) : okF2 p 0 = okS p p.shapes.length := by unfold okF2; simp
/-- may a program be laid? -/
def okPB (p : Prg) : Bool := okF2 p p.funcs.length
theorem strF_all (p : Prg) : strF p p.funcs.length = encP p := by
  unfold strF strS encP
  rw [List.take_length, List.take_length]
theorem wProg_flag (p : Prg) : (wProg p).2 = !okPB p := by
  unfold wProg wMid wHead okPB okF2 okS
  rw [foldF_flag, wNums_flag, foldS_flag, wNums_flag, wList_flag, badB_one, badB_one, List.take_length, List.take_length]
  cases lstOk p.globals <;> cases decide (p.shapes.length ≤ 255) <;> cases decide (p.funcs.length ≤ 255) <;> cases p.shapes.all lstOk <;> cases p.funcs.all fnOkB <;> rfl
theorem bytesS_app (a b : List Int) : bytesS a ++ bytesS b = bytesS (a ++ b) := by
  apply ByteArray.ext
  unfold bytesS
  simp
theorem lstOk_okB (l : List Int) (h : lstOk l = true) : okB l ∧ l.length ≤ 255 := by
  unfold lstOk at h
  simp only [Bool.and_eq_true, Bool.not_eq_true', decide_eq_true_eq] at h
  exact ⟨okB_of l h.2, h.1⟩
/-- how much bytes can hold -/
theorem rList_most (s : RS) : (rList s).1.length ≤ 255 := by
  unfold rList
  rw [rNums_len]
  have := rNum_bd s
  omega
theorem sum_most {α : Type} (g : α → Nat) (m : Nat) (l : List α) (h : ∀ x ∈ l, g x ≤ m) : (l.map g).sum ≤ m * l.length := by
  induction l with
  | nil => simp
  | cons x l ih =>
    have h1 := h x (List.mem_cons_self ..)
    have h2 := ih (fun y hy => h y (List.mem_cons_of_mem _ hy))
    simp only [List.map_cons, List.sum_cons, List.length_cons, Nat.mul_add]
    omega
theorem rShapes_most (s : RS) (n : Nat) : ∀ l ∈ (rShapes s n).1, l.length ≤ 255 := by
  induction n with
  | zero => intro l h; cases h
  | succ n ih =>
    intro l h
    rcases List.mem_append.1 h with h | h
    · exact ih l h
    · rw [List.mem_singleton.1 h]; exact rList_most _
theorem readL_most (b : ByteArray) : (readL b).length * 7 ≤ b.size := by
  unfold readL
  split
  · rw [rdAll_len]; omega
  · simp
theorem rFn_most (s : RS) : fnBulk (rFn s).1 ≤ 765 := by
  unfold fnBulk rFn
  dsimp only
  have h1 := rList_most s
  have h2 := rList_most (rNum (rNum (rList s).2).2).2
  have h3 := rNum_bd (rList (rNum (rNum (rList s).2).2).2).2
  generalize rList (rNum (rNum (rList s).2).2).2 = t at *
  generalize rNum t.2 = u at *
  have h4 := readL_most (rTake u.2 (u.1.toNat * 7)).1
  have h5 : (rTake u.2 (u.1.toNat * 7)).1.size ≤ u.1.toNat * 7 := by
    unfold rTake
    split
    · exact Nat.zero_le _
    · rw [ByteArray.size_extract]; omega
  omega
theorem rFuncs_most (s : RS) (n : Nat) : ∀ f ∈ (rFuncs s n).1, fnBulk f ≤ 765 := by
  induction n with
  | zero => intro l h; cases h
  | succ n ih =>
    intro l h
    rcases List.mem_append.1 h with h | h
    · exact ih l h
    · rw [List.mem_singleton.1 h]; exact rFn_most _
theorem rProg_bulk (b : ByteArray) : bulk (rProg b).1 ≤ 1000000 := by
  have h1 := rList_most (b, false)
  have h2 : ∀ s : RS, (rShapes s (rNum (rList (b, false)).2).1.toNat).1.length ≤ 255 := fun s => by
    rw [rShapes_len]; have := rNum_bd (rList (b, false)).2; omega
  have h3 := sum_most shBulk 255 _ (rShapes_most (rNum (rList (b, false)).2).2 (rNum (rList (b, false)).2).1.toNat)
  have h4 := h2 (rNum (rList (b, false)).2).2
  generalize hs : rShapes (rNum (rList (b, false)).2).2 (rNum (rList (b, false)).2).1.toNat = S at *
  have h5 := sum_most fnBulk 765 _ (rFuncs_most (rNum S.2).2 (rNum S.2).1.toNat)
  have h6 : (rFuncs (rNum S.2).2 (rNum S.2).1.toNat).1.length ≤ 255 := by
    rw [rFuncs_len]; have := rNum_bd S.2; omega
  have hp : (rProg b).1 = ⟨(rList (b, false)).1, S.1, (rFuncs (rNum S.2).2 (rNum S.2).1.toNat).1⟩ := by
    unfold rProg; rw [← hs]
  rw [hp]
  unfold bulk
  dsimp only
  omega
theorem readP_bulk (b : ByteArray) : bulk (readP b) ≤ 1000000 := by
  unfold readP
  split
  · exact rProg_bulk b
  · decide
end Go.Proofs.Ytmmdppjbofbjhaa
