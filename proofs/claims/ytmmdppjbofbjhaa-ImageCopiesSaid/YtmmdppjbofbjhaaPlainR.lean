/- The bytes of a program: what reads some bytes wholly reads them ahead of others too; so no cut and no addition is a program. Nothing of the program's text stands here. -/
import Derived.Test.YtmmdppjbofbjhaaPlainQ
namespace Go.Proofs.Ytmmdppjbofbjhaa

def Ext {α : Type} (f : RS → α × RS) : Prop := ∀ (b c : ByteArray) (s : Bool), (f (b, s)).2.2 = false → s = false ∧ f (b ++ c, s) = ((f (b, s)).1, ((f (b, s)).2.1 ++ c, false))
theorem Ext.bind {α β : Type} {f : RS → α × RS} {g : α → RS → β × RS} (hf : Ext f) (hg : ∀ a, Ext (g a)) : Ext fun s => g (f s).1 (f s).2 := by
  intro b c s h
  have h2 := hg (f (b, s)).1 (f (b, s)).2.1 c (f (b, s)).2.2 h
  have h1 := hf b c s h2.1
  refine ⟨h1.1, ?_⟩
  have e := h2.2
  rw [h2.1] at e
  show g (f (b ++ c, s)).1 (f (b ++ c, s)).2 = _
  rw [h1.2]
  show g (f (b, s)).1 ((f (b, s)).2.1 ++ c, false) = _
  rw [e]
  have : (f (b, s)).2 = ((f (b, s)).2.1, false) := by rw [← h2.1]
  show _ = ((g (f (b, s)).1 (f (b, s)).2).1, ((g (f (b, s)).1 (f (b, s)).2).2.1 ++ c, false))
  generalize hx : f (b, s) = x at *
  obtain ⟨x1, x2, x3⟩ := x
  have h3 : x3 = false := h2.1
  subst h3
  rfl
theorem Ext.check {α β : Type} {f : RS → α × RS} (hf : Ext f) (h : α → β) (k : α → Bool) : Ext fun s => (h (f s).1, ((f s).2.1, (f s).2.2 || k (f s).1)) := by
  intro b c s hh
  have hh : ((f (b, s)).2.2 || k (f (b, s)).1) = false := hh
  rw [Bool.or_eq_false_iff] at hh
  have h1 := hf b c s hh.1
  refine ⟨h1.1, ?_⟩
  dsimp only
  rw [h1.2]
  simp [hh.2]
theorem Ext.map {α β : Type} {f : RS → α × RS} (hf : Ext f) (h : α → β) : Ext fun s => (h (f s).1, (f s).2) := by
  intro b c s hh
  have h1 := hf b c s hh
  refine ⟨h1.1, ?_⟩
  dsimp only
  rw [h1.2]
theorem Ext.pure {α : Type} (a : α) : Ext fun s => (a, s) := by
  intro b c s h
  have h : s = false := h
  subst h
  exact ⟨rfl, rfl⟩
theorem extract_left (b c : ByteArray) (n : Nat) (hn : n ≤ b.size) : (b ++ c).extract 0 n = b.extract 0 n := by
  apply ByteArray.ext
  simp
  left; omega
theorem extract_right (b c : ByteArray) (n : Nat) (hn : n ≤ b.size) : (b ++ c).extract n (b ++ c).size = b.extract n b.size ++ c := by
  apply ByteArray.ext
  have hs : b.data.size = b.size := rfl
  have hs' : c.data.size = c.size := rfl
  simp [ByteArray.size_append]
  rw [show n - b.size = 0 from by omega]
  have e1 : b.data.extract n (b.size + c.size) = b.data.extract n b.size := by
    apply Array.ext
    · simp
    · intro i h1 h2; simp
  have e2 : c.data.extract 0 c.size = c.data := by rw [← hs']; simp
  rw [e1, e2]
theorem ext_take (n : Nat) : Ext fun s => rTake s n := by
  intro b c s h
  unfold rTake at h ⊢
  dsimp only at h ⊢
  by_cases hn : b.size < n
  · rw [if_pos hn] at h; cases h
  · rw [if_neg hn] at h ⊢
    have h : s = false := h
    subst h
    have h2 : ¬ (b ++ c).size < n := by rw [ByteArray.size_append]; omega
    rw [if_neg h2, extract_left _ _ _ (by omega), extract_right _ _ _ (by omega)]
    exact ⟨rfl, rfl⟩
theorem gb_left (b c : ByteArray) (i : Nat) (h : i < b.size) : gb (b ++ c) i = gb b i := by
  have h' : i < (b ++ c).size := by rw [ByteArray.size_append]; omega
  rw [← gb_get b i h, ← gb_get (b ++ c) i h', ByteArray.getElem_append_left h]
theorem ext_num : Ext rNum := by
  intro b c s h
  unfold rNum at h ⊢
  dsimp only at h ⊢
  by_cases hn : b.size < 1
  · rw [if_pos hn] at h; cases h
  · rw [if_neg hn] at h ⊢
    have h : s = false := h
    subst h
    have h2 : ¬ (b ++ c).size < 1 := by rw [ByteArray.size_append]; omega
    rw [if_neg h2, extract_right _ _ _ (by omega), gb_left _ _ _ (by omega)]
    exact ⟨rfl, rfl⟩
theorem ext_nums (n : Nat) : Ext fun s => rNums s n := by
  induction n with
  | zero => exact Ext.pure []
  | succ n ih => exact ih.bind (g := fun a t => (a ++ [(rNum t).1], (rNum t).2)) fun a => ext_num.map (fun x => a ++ [x])
theorem ext_list : Ext rList := by
  have h : Ext fun s => (fun (a : Int) (t : RS) => rNums t a.toNat) (rNum s).1 (rNum s).2 := ext_num.bind fun a => ext_nums a.toNat
  exact h
def f5 (a : List Int) (r l : Int) (o : List Int) (n : Int) (s : RS) : Fun × RS := (⟨a, r, l, o, readL (rTake s (n.toNat * 7)).1⟩, ((rTake s (n.toNat * 7)).2.1, (rTake s (n.toNat * 7)).2.2 || !readOk (rTake s (n.toNat * 7)).1))
def f4 (a : List Int) (r l : Int) (o : List Int) (s : RS) : Fun × RS := f5 a r l o (rNum s).1 (rNum s).2
def f3 (a : List Int) (r l : Int) (s : RS) : Fun × RS := f4 a r l (rList s).1 (rList s).2
def f2 (a : List Int) (r : Int) (s : RS) : Fun × RS := f3 a r (rNum s).1 (rNum s).2
def f1 (a : List Int) (s : RS) : Fun × RS := f2 a (rNum s).1 (rNum s).2
theorem rFn_f1 (s : RS) : rFn s = f1 (rList s).1 (rList s).2 := by
  unfold f1 f2 f3 f4 f5 rFn
  rfl
theorem ext_f5 (a : List Int) (r l : Int) (o : List Int) (n : Int) : Ext (f5 a r l o n) := by
  have h := (ext_take (n.toNat * 7)).check (fun c => (⟨a, r, l, o, readL c⟩ : Fun)) (fun c => !readOk c)
  exact h
theorem ext_f4 (a : List Int) (r l : Int) (o : List Int) : Ext (f4 a r l o) := by
  have h : Ext fun s => (f5 a r l o) (rNum s).1 (rNum s).2 := ext_num.bind (ext_f5 a r l o)
  exact h
theorem ext_f3 (a : List Int) (r l : Int) : Ext (f3 a r l) := by
  have h : Ext fun s => (f4 a r l) (rList s).1 (rList s).2 := ext_list.bind (ext_f4 a r l)
  exact h
theorem ext_f2 (a : List Int) (r : Int) : Ext (f2 a r) := by
  have h : Ext fun s => (f3 a r) (rNum s).1 (rNum s).2 := ext_num.bind (ext_f3 a r)
  exact h
theorem ext_f1 (a : List Int) : Ext (f1 a) := by
  have h : Ext fun s => (f2 a) (rNum s).1 (rNum s).2 := ext_num.bind (ext_f2 a)
  exact h
theorem ext_fn : Ext rFn := by
  have h : Ext fun s => f1 (rList s).1 (rList s).2 := ext_list.bind ext_f1
  have e : rFn = fun s => f1 (rList s).1 (rList s).2 := funext rFn_f1
  rw [e]
  exact h
theorem ext_shapes (n : Nat) : Ext fun s => rShapes s n := by
  induction n with
  | zero => exact Ext.pure []
  | succ n ih => exact ih.bind (g := fun a t => (a ++ [(rList t).1], (rList t).2)) fun a => ext_list.map (fun x => a ++ [x])
theorem ext_funcs (n : Nat) : Ext fun s => rFuncs s n := by
  induction n with
  | zero => exact Ext.pure []
  | succ n ih => exact ih.bind (g := fun a t => (a ++ [(rFn t).1], (rFn t).2)) fun a => ext_fn.map (fun x => a ++ [x])
def p3 (g : List Int) (sh : List (List Int)) (m : Int) (s : RS) : Prg × RS := (⟨g, sh, (rFuncs s m.toNat).1⟩, (rFuncs s m.toNat).2)
def p2 (g : List Int) (sh : List (List Int)) (s : RS) : Prg × RS := p3 g sh (rNum s).1 (rNum s).2
def p1 (g : List Int) (n : Int) (s : RS) : Prg × RS := p2 g (rShapes s n.toNat).1 (rShapes s n.toNat).2
def p0 (g : List Int) (s : RS) : Prg × RS := p1 g (rNum s).1 (rNum s).2
def pp (s : RS) : Prg × RS := p0 (rList s).1 (rList s).2
theorem rProg_pp (b : ByteArray) : rProg b = pp (b, false) := by
  unfold pp p0 p1 p2 p3 rProg
  rfl
theorem ext_p3 (g : List Int) (sh : List (List Int)) (m : Int) : Ext (p3 g sh m) := by
  have h := (ext_funcs m.toNat).map (fun f => (⟨g, sh, f⟩ : Prg))
  exact h
theorem ext_p2 (g : List Int) (sh : List (List Int)) : Ext (p2 g sh) := by
  have h : Ext fun s => (p3 g sh) (rNum s).1 (rNum s).2 := ext_num.bind (ext_p3 g sh)
  exact h
theorem ext_p1 (g : List Int) (n : Int) : Ext (p1 g n) := by
  have h : Ext fun s => (p2 g) (rShapes s n.toNat).1 (rShapes s n.toNat).2 := (ext_shapes n.toNat).bind (ext_p2 g)
  exact h
theorem ext_p0 (g : List Int) : Ext (p0 g) := by
  have h : Ext fun s => (p1 g) (rNum s).1 (rNum s).2 := ext_num.bind (ext_p1 g)
  exact h
theorem ext_pp : Ext pp := by
  have h : Ext fun s => p0 (rList s).1 (rList s).2 := ext_list.bind ext_p0
  exact h
/-- what reads some bytes wholly reads them ahead of others -/
theorem rProg_ext (b c : ByteArray) (h : (rProg b).2.2 = false) : rProg (b ++ c) = ((rProg b).1, ((rProg b).2.1 ++ c, false)) := by
  rw [rProg_pp] at h ⊢
  rw [rProg_pp]
  exact (ext_pp b c false h).2
/-- bytes of a program, and more: no program -/
theorem added_no (b c : ByteArray) (h : readPOk b = true) (hc : 1 ≤ c.size) : readPOk (b ++ c) = false := by
  unfold readPOk at h ⊢
  simp only [Bool.and_eq_true, Bool.not_eq_true', decide_eq_true_eq] at h
  rw [rProg_ext b c h.1]
  have : ¬ ((rProg b).2.1 ++ c).size < 1 := by rw [ByteArray.size_append]; omega
  simp only [Bool.not_false, Bool.true_and, decide_eq_false this]
/-- bytes of a program, cut: no program -/
theorem cut_no (b : ByteArray) (k : Nat) (h : readPOk b = true) (hk : k < b.size) : readPOk (b.extract 0 k) = false := by
  by_cases hx : readPOk (b.extract 0 k) = true
  · have e : b = b.extract 0 k ++ b.extract k b.size := by
      apply ByteArray.ext
      have hs : b.data.size = b.size := rfl
      simp
    have hs : 1 ≤ (b.extract k b.size).size := by simp; omega
    have := added_no _ _ hx hs
    rw [← e, h] at this
    cases this
  · simpa using hx
theorem laid_ok (p : Prg) (h : okP p) : readPOk (bytesS (encP p)) = true ∧ readP (bytesS (encP p)) = p := by
  have := rProg_app p [] h
  rw [List.append_nil] at this
  have h1 : readPOk (bytesS (encP p)) = true := by
    unfold readPOk
    rw [this]
    simp [bytesS_size]
  refine ⟨h1, ?_⟩
  unfold readP
  rw [if_pos h1, this]
end Go.Proofs.Ytmmdppjbofbjhaa
