/- The bytes of a program: what is laid is read again. Nothing of the program's text stands here. -/
import Derived.Test.YtmmdppjbofbjhaaOpenP
namespace Go.Proofs.Ytmmdppjbofbjhaa

theorem bytesS_extract (l : List Int) (i j : Nat) : (bytesS l).extract i j = bytesS ((l.drop i).take (j - i)) := by
  apply ByteArray.ext
  unfold bytesS
  simp [List.extract_eq_take_drop, List.map_take, List.map_drop]
theorem rNum_cons (x : Int) (l : List Int) (b : Bool) (h : 0 ≤ x ∧ x < 256) : rNum (bytesS (x :: l), b) = (x, (bytesS l, b)) := by
  unfold rNum
  have hs : ¬ (bytesS (x :: l)).size < 1 := by rw [bytesS_size]; simp
  rw [if_neg hs, gb_bytesS (x :: l) 0 (by simp) (by simpa using h), bytesS_extract, bytesS_size]
  simp
theorem rTake_app (l m : List Int) (b : Bool) : rTake (bytesS (l ++ m), b) l.length = (bytesS l, (bytesS m, b)) := by
  unfold rTake
  rw [if_neg (by rw [bytesS_size]; simp), bytesS_extract, bytesS_extract, bytesS_size]
  simp
def okB (l : List Int) : Prop := ∀ x ∈ l, 0 ≤ x ∧ x < 256
theorem okB_of (l : List Int) (h : badB l = false) : okB l := fun x hx => by
  unfold badB at h
  rw [List.any_eq_false] at h
  have := h x hx
  simp at this
  omega
theorem lowB_ok (l : List Int) (h : okB l) : lowB l = l := by
  unfold lowB
  conv => rhs; rw [← List.map_id l]
  apply List.map_congr_left
  intro x hx
  have := h x hx
  show x % 256 = x
  omega
theorem rNums_app (l : List Int) (m : List Int) (b : Bool) (h : okB l) : rNums (bytesS (l ++ m), b) l.length = (l, (bytesS m, b)) := by
  have key : ∀ k, k ≤ l.length → rNums (bytesS (l ++ m), b) k = (l.take k, (bytesS (l.drop k ++ m), b)) := by
    intro k
    induction k with
    | zero => intro _; simp [rNums]
    | succ k ih =>
      intro hk
      have hk' : k < l.length := by omega
      have hd : l.drop k = l[k] :: l.drop (k + 1) := (List.getElem_cons_drop (h := hk')).symm
      unfold rNums
      rw [ih (by omega), hd, List.cons_append, rNum_cons _ _ _ (h _ (List.getElem_mem hk')), take_snoc l k hk']
  have := key l.length (Nat.le_refl _)
  rw [this]
  simp
theorem rList_app (l m : List Int) (b : Bool) (h : okB l) (hl : l.length ≤ 255) : rList (bytesS ((l.length : Int) :: l ++ m), b) = (l, (bytesS m, b)) := by
  unfold rList
  rw [List.cons_append, rNum_cons _ _ _ (by omega)]
  simp only [Int.toNat_natCast]
  exact rNums_app l m b h
/-- what nums and list lay, if they may -/
theorem wNums_ok (s : List Int × Bool) (l : List Int) (h : (wNums s l).2 = false) : s.2 = false ∧ okB l ∧ (wNums s l).1 = s.1 ++ l := by
  unfold wNums at h ⊢
  simp at h
  have ho := okB_of l h.2
  exact ⟨h.1, ho, by simp [lowB_ok l ho]⟩
theorem wList_ok (s : List Int × Bool) (l : List Int) (h : (wList s l).2 = false) : s.2 = false ∧ okB l ∧ l.length ≤ 255 ∧ (wList s l).1 = s.1 ++ ((l.length : Int) :: l) := by
  unfold wList at h ⊢
  obtain ⟨h1, h2, h3⟩ := wNums_ok _ _ h
  obtain ⟨h4, h5, h6⟩ := wNums_ok _ _ h1
  have := h5 (l.length : Int) (by simp)
  exact ⟨h4, h2, by omega, by rw [h3, h6]; simp⟩
def encL (l : List Int) : List Int := (l.length : Int) :: l
def encF (f : Fun) : List Int := encL f.args ++ [f.result, f.slots] ++ encL f.objects ++ [(f.code.length : Int)] ++ layL f.code
def okF (f : Fun) : Prop := okB f.args ∧ f.args.length ≤ 255 ∧ (0 ≤ f.result ∧ f.result < 256) ∧ (0 ≤ f.slots ∧ f.slots < 256) ∧ okB f.objects ∧ f.objects.length ≤ 255 ∧ f.code.length ≤ 255 ∧ laid f.code = true
theorem wFn_ok (s : List Int × Bool) (f : Fun) (h : (wFn s f).2 = false) : s.2 = false ∧ okF f ∧ (wFn s f).1 = s.1 ++ encF f := by
  unfold wFn at h ⊢
  dsimp only at h ⊢
  simp only [Bool.or_eq_false_iff, Bool.not_eq_false'] at h
  obtain ⟨h1, hlaid⟩ := h
  obtain ⟨h2, h3, h4⟩ := wNums_ok _ _ h1
  obtain ⟨h5, h6, h7, h8⟩ := wList_ok _ _ h2
  obtain ⟨h9, h10, h11⟩ := wNums_ok _ _ h5
  obtain ⟨h12, h13, h14, h15⟩ := wList_ok _ _ h9
  have hr := h10 f.result (by simp)
  have hs := h10 f.slots (by simp)
  have hc := h3 (f.code.length : Int) (by simp)
  refine ⟨h12, ⟨h13, h14, hr, hs, h6, h7, by omega, hlaid⟩, ?_⟩
  rw [h4, h8, h11, h15, if_pos hlaid]
  simp [encF, encL, List.append_assoc]
theorem rFn_app (f : Fun) (m : List Int) (b : Bool) (h : okF f) : rFn (bytesS (encF f ++ m), b) = (f, (bytesS m, b)) := by
  obtain ⟨h1, h2, h3, h4, h5, h6, h7, h8⟩ := h
  unfold rFn
  have e : encF f ++ m = (f.args.length : Int) :: f.args ++ (f.result :: (f.slots :: ((f.objects.length : Int) :: f.objects ++ ((f.code.length : Int) :: (layL f.code ++ m))))) := by simp [encF, encL, List.append_assoc]
  rw [e, rList_app _ _ _ h1 h2]
  dsimp only
  rw [rNum_cons _ _ _ h3]
  dsimp only
  rw [rNum_cons _ _ _ h4]
  dsimp only
  rw [rList_app _ _ _ h5 h6]
  dsimp only
  rw [rNum_cons _ _ _ (by omega)]
  dsimp only
  have hlen : ((f.code.length : Int).toNat * 7) = (layL f.code).length := by rw [layL_len]; simp; omega
  rw [hlen, rTake_app]
  dsimp only
  obtain ⟨r1, r2⟩ := read_lay f.code h8
  rw [r1, r2]
  simp
end Go.Proofs.Ytmmdppjbofbjhaa
