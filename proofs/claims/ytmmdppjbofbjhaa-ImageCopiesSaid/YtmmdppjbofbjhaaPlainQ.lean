/- The bytes of a program: the round trip. Nothing of the program's text stands here. -/
import Derived.Test.YtmmdppjbofbjhaaPlainP
namespace Go.Proofs.Ytmmdppjbofbjhaa

def okL (l : List Int) : Prop := okB l ∧ l.length ≤ 255
theorem foldS_ok (ls : List (List Int)) : ∀ s, (ls.foldl wList s).2 = false → s.2 = false ∧ (∀ l ∈ ls, okL l) ∧ (ls.foldl wList s).1 = s.1 ++ ls.flatMap encL := by
  induction ls with
  | nil => intro s h; exact ⟨h, (fun _ h => by cases h), by simp⟩
  | cons x ls ih =>
    intro s h
    rw [List.foldl_cons] at h ⊢
    obtain ⟨h1, h2, h3⟩ := ih _ h
    obtain ⟨h4, h5, h6, h7⟩ := wList_ok _ _ h1
    refine ⟨h4, fun l hl => ?_, by rw [h3, h7]; simp [encL]⟩
    rcases List.mem_cons.1 hl with rfl | hl
    · exact ⟨h5, h6⟩
    · exact h2 l hl
theorem foldF_ok (fs : List Fun) : ∀ s, (fs.foldl wFn s).2 = false → s.2 = false ∧ (∀ f ∈ fs, okF f) ∧ (fs.foldl wFn s).1 = s.1 ++ fs.flatMap encF := by
  induction fs with
  | nil => intro s h; exact ⟨h, (fun _ h => by cases h), by simp⟩
  | cons x fs ih =>
    intro s h
    rw [List.foldl_cons] at h ⊢
    obtain ⟨h1, h2, h3⟩ := ih _ h
    obtain ⟨h4, h5, h6⟩ := wFn_ok _ _ h1
    refine ⟨h4, fun l hl => ?_, by rw [h3, h6]; simp⟩
    rcases List.mem_cons.1 hl with rfl | hl
    · exact h5
    · exact h2 l hl
theorem rShapes_app (ls : List (List Int)) (m : List Int) (b : Bool) (h : ∀ l ∈ ls, okL l) : rShapes (bytesS (ls.flatMap encL ++ m), b) ls.length = (ls, (bytesS m, b)) := by
  have key : ∀ k, k ≤ ls.length → rShapes (bytesS (ls.flatMap encL ++ m), b) k = (ls.take k, (bytesS ((ls.drop k).flatMap encL ++ m), b)) := by
    intro k
    induction k with
    | zero => intro _; simp [rShapes]
    | succ k ih =>
      intro hk
      have hk' : k < ls.length := by omega
      have hd : ls.drop k = ls[k] :: ls.drop (k + 1) := (List.getElem_cons_drop (h := hk')).symm
      have ho := h _ (List.getElem_mem hk')
      unfold rShapes
      rw [ih (by omega), hd, List.flatMap_cons, List.append_assoc]
      unfold encL
      rw [rList_app _ _ _ ho.1 ho.2, take_snoc ls k hk']
  rw [key ls.length (Nat.le_refl _)]
  simp
theorem rFuncs_app (fs : List Fun) (m : List Int) (b : Bool) (h : ∀ f ∈ fs, okF f) : rFuncs (bytesS (fs.flatMap encF ++ m), b) fs.length = (fs, (bytesS m, b)) := by
  have key : ∀ k, k ≤ fs.length → rFuncs (bytesS (fs.flatMap encF ++ m), b) k = (fs.take k, (bytesS ((fs.drop k).flatMap encF ++ m), b)) := by
    intro k
    induction k with
    | zero => intro _; simp [rFuncs]
    | succ k ih =>
      intro hk
      have hk' : k < fs.length := by omega
      have hd : fs.drop k = fs[k] :: fs.drop (k + 1) := (List.getElem_cons_drop (h := hk')).symm
      unfold rFuncs
      rw [ih (by omega), hd, List.flatMap_cons, List.append_assoc, rFn_app _ _ _ (h _ (List.getElem_mem hk')), take_snoc fs k hk']
  rw [key fs.length (Nat.le_refl _)]
  simp
def encP (p : Prg) : List Int := encL p.globals ++ [(p.shapes.length : Int)] ++ p.shapes.flatMap encL ++ [(p.funcs.length : Int)] ++ p.funcs.flatMap encF
def okP (p : Prg) : Prop := okL p.globals ∧ p.shapes.length ≤ 255 ∧ (∀ l ∈ p.shapes, okL l) ∧ p.funcs.length ≤ 255 ∧ ∀ f ∈ p.funcs, okF f
theorem wProg_ok (p : Prg) (h : (wProg p).2 = false) : okP p ∧ (wProg p).1 = encP p := by
  unfold wProg at h ⊢
  obtain ⟨h1, h2, h3⟩ := foldF_ok _ _ h
  unfold wMid at h1 h3
  obtain ⟨h4, h5, h6⟩ := wNums_ok _ _ h1
  obtain ⟨h7, h8, h9⟩ := foldS_ok _ _ h4
  unfold wHead at h7 h9
  obtain ⟨h10, h11, h12⟩ := wNums_ok _ _ h7
  obtain ⟨_, h14, h15, h16⟩ := wList_ok _ _ h10
  have e1 := h5 (p.funcs.length : Int) (by simp)
  have e2 := h11 (p.shapes.length : Int) (by simp)
  refine ⟨⟨⟨h14, h15⟩, by omega, h8, by omega, h2⟩, ?_⟩
  unfold wMid wHead at *
  rw [h3, h6, h9, h12, h16]
  simp [encP, encL]
theorem rProg_app (p : Prg) (m : List Int) (h : okP p) : rProg (bytesS (encP p ++ m)) = (p, (bytesS m, false)) := by
  obtain ⟨⟨h1, h2⟩, h3, h4, h5, h6⟩ := h
  unfold rProg
  have e : encP p ++ m = (p.globals.length : Int) :: p.globals ++ ((p.shapes.length : Int) :: (p.shapes.flatMap encL ++ ((p.funcs.length : Int) :: (p.funcs.flatMap encF ++ m)))) := by simp [encP, encL]
  rw [e, rList_app _ _ _ h1 h2]
  dsimp only
  rw [rNum_cons _ _ _ (by omega)]
  dsimp only
  rw [Int.toNat_natCast, rShapes_app _ _ _ h4]
  dsimp only
  rw [rNum_cons _ _ _ (by omega)]
  dsimp only
  rw [Int.toNat_natCast, rFuncs_app _ _ _ h6]
end Go.Proofs.Ytmmdppjbofbjhaa
