/- The bytes of a program: the round trip. Nothing of the program's text stands here. The bytes of a program: what reads some bytes wholly reads them ahead of others too; so no cut and no addition is a program. Nothing of the program's text stands here. Walks: the reference's bytes of numbers and of instructions. Walks: the book's lists: copies, marks; are they still what they were? -/
import Derived.Test.YtmmdppjbofbjhaaEAi
import Derived.Test.YtmmdppjbofbjhaaEAh
import Derived.Test.YtmmdppjbofbjhaaEAg
import Derived.Deep.RegionLaw
import Derived.Deep.RegionHeld3
namespace Go.Proofs.Ytmmdppjbofbjhaa

def okL (l : List Int) : Prop := okB l ∧ l.length ≤ 255
theorem foldS_ok (ls : List (List Int)) : ∀ s, (ls.foldl wList s).2 = false → s.2 = false ∧ (∀ l ∈ ls, okL l) ∧ (ls.foldl wList s).1 = s.1 ++ ls.flatMap encL := by
  induction ls with
  | nil => intro s h; exact ⟨h, (fun _ h => by cases h), by simp⟩
  | cons x ls ih =>
    intro s h
    rw [List.foldl_cons] at h ⊢
    obtain ⟨h1, h2, h3⟩ := ih _ h
    obtain ⟨h4, h5, h6, h7⟩ := wList_ok _ _ h1
    refine ⟨h4, fun l hl => ?_, by rw [h3, h7]; simp [encL]⟩
    rcases List.mem_cons.1 hl with rfl | hl
    · exact ⟨h5, h6⟩
    · exact h2 l hl
theorem foldF_ok (fs : List Fun) : ∀ s, (fs.foldl wFn s).2 = false → s.2 = false ∧ (∀ f ∈ fs, okF f) ∧ (fs.foldl wFn s).1 = s.1 ++ fs.flatMap encF := by
  induction fs with
  | nil => intro s h; exact ⟨h, (fun _ h => by cases h), by simp⟩
  | cons x fs ih =>
    intro s h
    rw [List.foldl_cons] at h ⊢
    obtain ⟨h1, h2, h3⟩ := ih _ h
    obtain ⟨h4, h5, h6⟩ := wFn_ok _ _ h1
    refine ⟨h4, fun l hl => ?_, by rw [h3, h6]; simp⟩
    rcases List.mem_cons.1 hl with rfl | hl
    · exact h5
    · exact h2 l hl
theorem rShapes_app (ls : List (List Int)) (m : List Int) (b : Bool) (h : ∀ l ∈ ls, okL l) : rShapes (bytesS (ls.flatMap encL ++ m), b) ls.length = (ls, (bytesS m, b)) := by
  have key : ∀ k, k ≤ ls.length → rShapes (bytesS (ls.flatMap encL ++ m), b) k = (ls.take k, (bytesS ((ls.drop k).flatMap encL ++ m), b)) := by
    intro k
    induction k with
    | zero => intro _; simp [rShapes]
    | succ k ih =>
      intro hk
      have hk' : k < ls.length := by omega
      have hd : ls.drop k = ls[k] :: ls.drop (k + 1) := (List.getElem_cons_drop (h := hk')).symm
      have ho := h _ (List.getElem_mem hk')
      unfold rShapes
      rw [ih (by omega), hd, List.flatMap_cons, List.append_assoc]
      unfold encL
      rw [rList_app _ _ _ ho.1 ho.2, take_snoc ls k hk']
  rw [key ls.length (Nat.le_refl _)]
  simp
theorem rFuncs_app (fs : List Fun) (m : List Int) (b : Bool) (h : ∀ f ∈ fs, okF f) : rFuncs (bytesS (fs.flatMap encF ++ m), b) fs.length = (fs, (bytesS m, b)) := by
  have key : ∀ k, k ≤ fs.length → rFuncs (bytesS (fs.flatMap encF ++ m), b) k = (fs.take k, (bytesS ((fs.drop k).flatMap encF ++ m), b)) := by
    intro k
    induction k with
    | zero => intro _; simp [rFuncs]
    | succ k ih =>
      intro hk
      have hk' : k < fs.length := by omega
      have hd : fs.drop k = fs[k] :: fs.drop (k + 1) := (List.getElem_cons_drop (h := hk')).symm
      unfold rFuncs
      rw [ih (by omega), hd, List.flatMap_cons, List.append_assoc, rFn_app _ _ _ (h _ (List.getElem_mem hk')), take_snoc fs k hk']
  rw [key fs.length (Nat.le_refl _)]
  simp
def encP (p : Prg) : List Int := encL p.globals ++ [(p.shapes.length : Int)] ++ p.shapes.flatMap encL ++ [(p.funcs.length : Int)] ++ p.funcs.flatMap encF
def okP (p : Prg) : Prop := okL p.globals ∧ p.shapes.length ≤ 255 ∧ (∀ l ∈ p.shapes, okL l) ∧ p.funcs.length ≤ 255 ∧ ∀ f ∈ p.funcs, okF f
theorem wProg_ok (p : Prg) (h : (wProg p).2 = false) : okP p ∧ (wProg p).1 = encP p := by
  unfold wProg at h ⊢
  obtain ⟨h1, h2, h3⟩ := foldF_ok _ _ h
  unfold wMid at h1 h3
  obtain ⟨h4, h5, h6⟩ := wNums_ok _ _ h1
  obtain ⟨h7, h8, h9⟩ := foldS_ok _ _ h4
  unfold wHead at h7 h9
  obtain ⟨h10, h11, h12⟩ := wNums_ok _ _ h7
  obtain ⟨_, h14, h15, h16⟩ := wList_ok _ _ h10
  have e1 := h5 (p.funcs.length : Int) (by simp)
  have e2 := h11 (p.shapes.length : Int) (by simp)
  refine ⟨⟨⟨h14, h15⟩, by omega, h8, by omega, h2⟩, ?_⟩
  unfold wMid wHead at *
  rw [h3, h6, h9, h12, h16]
  simp [encP, encL]
theorem rProg_app (p : Prg) (m : List Int) (h : okP p) : rProg (bytesS (encP p ++ m)) = (p, (bytesS m, false)) := by
  obtain ⟨⟨h1, h2⟩, h3, h4, h5, h6⟩ := h
  unfold rProg
  have e : encP p ++ m = (p.globals.length : Int) :: p.globals ++ ((p.shapes.length : Int) :: (p.shapes.flatMap encL ++ ((p.funcs.length : Int) :: (p.funcs.flatMap encF ++ m)))) := by simp [encP, encL]
  rw [e, rList_app _ _ _ h1 h2]
  dsimp only
  rw [rNum_cons _ _ _ (by omega)]
  dsimp only
  rw [Int.toNat_natCast, rShapes_app _ _ _ h4]
  dsimp only
  rw [rNum_cons _ _ _ (by omega)]
  dsimp only
  rw [Int.toNat_natCast, rFuncs_app _ _ _ h6]
end Go.Proofs.Ytmmdppjbofbjhaa
namespace Go.Proofs.Ytmmdppjbofbjhaa

def Ext {α : Type} (f : RS → α × RS) : Prop := ∀ (b c : ByteArray) (s : Bool), (f (b, s)).2.2 = false → s = false ∧ f (b ++ c, s) = ((f (b, s)).1, ((f (b, s)).2.1 ++ c, false))
theorem Ext.bind {α β : Type} {f : RS → α × RS} {g : α → RS → β × RS} (hf : Ext f) (hg : ∀ a, Ext (g a)) : Ext fun s => g (f s).1 (f s).2 := by
  intro b c s h
  have h2 := hg (f (b, s)).1 (f (b, s)).2.1 c (f (b, s)).2.2 h
  have h1 := hf b c s h2.1
  refine ⟨h1.1, ?_⟩
  have e := h2.2
  rw [h2.1] at e
  show g (f (b ++ c, s)).1 (f (b ++ c, s)).2 = _
  rw [h1.2]
  show g (f (b, s)).1 ((f (b, s)).2.1 ++ c, false) = _
  rw [e]
  have : (f (b, s)).2 = ((f (b, s)).2.1, false) := by rw [← h2.1]
  show _ = ((g (f (b, s)).1 (f (b, s)).2).1, ((g (f (b, s)).1 (f (b, s)).2).2.1 ++ c, false))
  generalize hx : f (b, s) = x at *
  obtain ⟨x1, x2, x3⟩ := x
  have h3 : x3 = false := h2.1
  subst h3
  rfl
theorem Ext.check {α β : Type} {f : RS → α × RS} (hf : Ext f) (h : α → β) (k : α → Bool) : Ext fun s => (h (f s).1, ((f s).2.1, (f s).2.2 || k (f s).1)) := by
  intro b c s hh
  have hh : ((f (b, s)).2.2 || k (f (b, s)).1) = false := hh
  rw [Bool.or_eq_false_iff] at hh
  have h1 := hf b c s hh.1
  refine ⟨h1.1, ?_⟩
  dsimp only
  rw [h1.2]
  simp [hh.2]
theorem Ext.map {α β : Type} {f : RS → α × RS} (hf : Ext f) (h : α → β) : Ext fun s => (h (f s).1, (f s).2) := by
  intro b c s hh
  have h1 := hf b c s hh
  refine ⟨h1.1, ?_⟩
  dsimp only
  rw [h1.2]
theorem Ext.pure {α : Type} (a : α) : Ext fun s => (a, s) := by
  intro b c s h
  have h : s = false := h
  subst h
  exact ⟨rfl, rfl⟩
theorem extract_left (b c : ByteArray) (n : Nat) (hn : n ≤ b.size) : (b ++ c).extract 0 n = b.extract 0 n := by
  apply ByteArray.ext
  simp
  left; omega
theorem extract_right (b c : ByteArray) (n : Nat) (hn : n ≤ b.size) : (b ++ c).extract n (b ++ c).size = b.extract n b.size ++ c := by
  apply ByteArray.ext
  have hs : b.data.size = b.size := rfl
  have hs' : c.data.size = c.size := rfl
  simp [ByteArray.size_append]
  rw [show n - b.size = 0 from by omega]
  have e1 : b.data.extract n (b.size + c.size) = b.data.extract n b.size := by
    apply Array.ext
    · simp
    · intro i h1 h2; simp
  have e2 : c.data.extract 0 c.size = c.data := by rw [← hs']; simp
  rw [e1, e2]
theorem ext_take (n : Nat) : Ext fun s => rTake s n := by
  intro b c s h
  unfold rTake at h ⊢
  dsimp only at h ⊢
  by_cases hn : b.size < n
  · rw [if_pos hn] at h; cases h
  · rw [if_neg hn] at h ⊢
    have h : s = false := h
    subst h
    have h2 : ¬ (b ++ c).size < n := by rw [ByteArray.size_append]; omega
    rw [if_neg h2, extract_left _ _ _ (by omega), extract_right _ _ _ (by omega)]
    exact ⟨rfl, rfl⟩
theorem gb_left (b c : ByteArray) (i : Nat) (h : i < b.size) : gb (b ++ c) i = gb b i := by
  have h' : i < (b ++ c).size := by rw [ByteArray.size_append]; omega
  rw [← gb_get b i h, ← gb_get (b ++ c) i h', ByteArray.getElem_append_left h]
theorem ext_num : Ext rNum := by
  intro b c s h
  unfold rNum at h ⊢
  dsimp only at h ⊢
  by_cases hn : b.size < 1
  · rw [if_pos hn] at h; cases h
  · rw [if_neg hn] at h ⊢
    have h : s = false := h
    subst h
    have h2 : ¬ (b ++ c).size < 1 := by rw [ByteArray.size_append]; omega
    rw [if_neg h2, extract_right _ _ _ (by omega), gb_left _ _ _ (by omega)]
    exact ⟨rfl, rfl⟩
theorem ext_nums (n : Nat) : Ext fun s => rNums s n := by
  induction n with
  | zero => exact Ext.pure []
  | succ n ih => exact ih.bind (g := fun a t => (a ++ [(rNum t).1], (rNum t).2)) fun a => ext_num.map (fun x => a ++ [x])
theorem ext_list : Ext rList := by
  have h : Ext fun s => (fun (a : Int) (t : RS) => rNums t a.toNat) (rNum s).1 (rNum s).2 := ext_num.bind fun a => ext_nums a.toNat
  exact h
def f5 (a : List Int) (r l : Int) (o : List Int) (n : Int) (s : RS) : Fun × RS := (⟨a, r, l, o, readL (rTake s (n.toNat * 7)).1⟩, ((rTake s (n.toNat * 7)).2.1, (rTake s (n.toNat * 7)).2.2 || !readOk (rTake s (n.toNat * 7)).1))
def f4 (a : List Int) (r l : Int) (o : List Int) (s : RS) : Fun × RS := f5 a r l o (rNum s).1 (rNum s).2
def f3 (a : List Int) (r l : Int) (s : RS) : Fun × RS := f4 a r l (rList s).1 (rList s).2
def f2 (a : List Int) (r : Int) (s : RS) : Fun × RS := f3 a r (rNum s).1 (rNum s).2
def f1 (a : List Int) (s : RS) : Fun × RS := f2 a (rNum s).1 (rNum s).2
theorem rFn_f1 (s : RS) : rFn s = f1 (rList s).1 (rList s).2 := by
  unfold f1 f2 f3 f4 f5 rFn
  rfl
theorem ext_f5 (a : List Int) (r l : Int) (o : List Int) (n : Int) : Ext (f5 a r l o n) := by
  have h := (ext_take (n.toNat * 7)).check (fun c => (⟨a, r, l, o, readL c⟩ : Fun)) (fun c => !readOk c)
  exact h
theorem ext_f4 (a : List Int) (r l : Int) (o : List Int) : Ext (f4 a r l o) := by
  have h : Ext fun s => (f5 a r l o) (rNum s).1 (rNum s).2 := ext_num.bind (ext_f5 a r l o)
  exact h
theorem ext_f3 (a : List Int) (r l : Int) : Ext (f3 a r l) := by
  have h : Ext fun s => (f4 a r l) (rList s).1 (rList s).2 := ext_list.bind (ext_f4 a r l)
  exact h
theorem ext_f2 (a : List Int) (r : Int) : Ext (f2 a r) := by
  have h : Ext fun s => (f3 a r) (rNum s).1 (rNum s).2 := ext_num.bind (ext_f3 a r)
  exact h
theorem ext_f1 (a : List Int) : Ext (f1 a) := by
  have h : Ext fun s => (f2 a) (rNum s).1 (rNum s).2 := ext_num.bind (ext_f2 a)
  exact h
theorem ext_fn : Ext rFn := by
  have h : Ext fun s => f1 (rList s).1 (rList s).2 := ext_list.bind ext_f1
  have e : rFn = fun s => f1 (rList s).1 (rList s).2 := funext rFn_f1
  rw [e]
  exact h
theorem ext_shapes (n : Nat) : Ext fun s => rShapes s n := by
  induction n with
  | zero => exact Ext.pure []
  | succ n ih => exact ih.bind (g := fun a t => (a ++ [(rList t).1], (rList t).2)) fun a => ext_list.map (fun x => a ++ [x])
theorem ext_funcs (n : Nat) : Ext fun s => rFuncs s n := by
  induction n with
  | zero => exact Ext.pure []
  | succ n ih => exact ih.bind (g := fun a t => (a ++ [(rFn t).1], (rFn t).2)) fun a => ext_fn.map (fun x => a ++ [x])
def p3 (g : List Int) (sh : List (List Int)) (m : Int) (s : RS) : Prg × RS := (⟨g, sh, (rFuncs s m.toNat).1⟩, (rFuncs s m.toNat).2)
def p2 (g : List Int) (sh : List (List Int)) (s : RS) : Prg × RS := p3 g sh (rNum s).1 (rNum s).2
def p1 (g : List Int) (n : Int) (s : RS) : Prg × RS := p2 g (rShapes s n.toNat).1 (rShapes s n.toNat).2
def p0 (g : List Int) (s : RS) : Prg × RS := p1 g (rNum s).1 (rNum s).2
def pp (s : RS) : Prg × RS := p0 (rList s).1 (rList s).2
theorem rProg_pp (b : ByteArray) : rProg b = pp (b, false) := by
  unfold pp p0 p1 p2 p3 rProg
  rfl
theorem ext_p3 (g : List Int) (sh : List (List Int)) (m : Int) : Ext (p3 g sh m) := by
  have h := (ext_funcs m.toNat).map (fun f => (⟨g, sh, f⟩ : Prg))
  exact h
theorem ext_p2 (g : List Int) (sh : List (List Int)) : Ext (p2 g sh) := by
  have h : Ext fun s => (p3 g sh) (rNum s).1 (rNum s).2 := ext_num.bind (ext_p3 g sh)
  exact h
theorem ext_p1 (g : List Int) (n : Int) : Ext (p1 g n) := by
  have h : Ext fun s => (p2 g) (rShapes s n.toNat).1 (rShapes s n.toNat).2 := (ext_shapes n.toNat).bind (ext_p2 g)
  exact h
theorem ext_p0 (g : List Int) : Ext (p0 g) := by
  have h : Ext fun s => (p1 g) (rNum s).1 (rNum s).2 := ext_num.bind (ext_p1 g)
  exact h
theorem ext_pp : Ext pp := by
  have h : Ext fun s => p0 (rList s).1 (rList s).2 := ext_list.bind ext_p0
  exact h
/-- what reads some bytes wholly reads them ahead of others -/
theorem rProg_ext (b c : ByteArray) (h : (rProg b).2.2 = false) : rProg (b ++ c) = ((rProg b).1, ((rProg b).2.1 ++ c, false)) := by
  rw [rProg_pp] at h ⊢
  rw [rProg_pp]
  exact (ext_pp b c false h).2
/-- bytes of a program, and more: no program -/
theorem added_no (b c : ByteArray) (h : readPOk b = true) (hc : 1 ≤ c.size) : readPOk (b ++ c) = false := by
  unfold readPOk at h ⊢
  simp only [Bool.and_eq_true, Bool.not_eq_true', decide_eq_true_eq] at h
  rw [rProg_ext b c h.1]
  have : ¬ ((rProg b).2.1 ++ c).size < 1 := by rw [ByteArray.size_append]; omega
  simp only [Bool.not_false, Bool.true_and, decide_eq_false this]
/-- bytes of a program, cut: no program -/
theorem cut_no (b : ByteArray) (k : Nat) (h : readPOk b = true) (hk : k < b.size) : readPOk (b.extract 0 k) = false := by
  by_cases hx : readPOk (b.extract 0 k) = true
  · have e : b = b.extract 0 k ++ b.extract k b.size := by
      apply ByteArray.ext
      have hs : b.data.size = b.size := rfl
      simp
    have hs : 1 ≤ (b.extract k b.size).size := by simp; omega
    have := added_no _ _ hx hs
    rw [← e, h] at this
    cases this
  · simpa using hx
theorem laid_ok (p : Prg) (h : okP p) : readPOk (bytesS (encP p)) = true ∧ readP (bytesS (encP p)) = p := by
  have := rProg_app p [] h
  rw [List.append_nil] at this
  have h1 : readPOk (bytesS (encP p)) = true := by
    unfold readPOk
    rw [this]
    simp [bytesS_size]
  refine ⟨h1, ?_⟩
  unfold readP
  rw [if_pos h1, this]
end Go.Proofs.Ytmmdppjbofbjhaa
namespace Go.Proofs.Ytmmdppjbofbjhaa
open Go.ChangeShapes Go.WideShapes Go.ChangeAt Go.RowKit

/-- may the reference lay these numbers? -/
def lstOk (l : List Int) : Bool := decide (l.length ≤ 255) && !badB l
def lstRes (l : List Int) : Value := if lstOk l then .tuple #[.string (bytesS (encL l)), .bool true] else .tuple #[.string ⟨#[]⟩, .bool false]
theorem badB_snoc (t : List Int) (x : Int) : badB (t ++ [x]) = (badB t || (decide (x < 0) || decide (255 < x))) := by simp [badB]
theorem lst_no (l : List Int) (k : Nat) (hk : k < l.length) (h : l[k] < 0 ∨ 255 < l[k]) : lstRes l = .tuple #[.string ⟨#[]⟩, .bool false] := by
  have : badB l = true := by
    unfold badB
    rw [List.any_eq_true]
    exact ⟨l[k], List.getElem_mem hk, by simpa using h⟩
  simp [lstRes, lstOk, this]
set_option maxRecDepth 100000 in
set_option maxHeartbeats 1600000 in
theorem rlst_any (w : World) (D : Nat → Prop) (a : Option Addr) (l : List Int) (c : Nat) (hsl : IntSl w D a l) (hn : l.length ≤ 1000000) :
    Calls Try.prog 117 #[.slice a l.length c] w fun e w' => e = .returned (lstRes l) ∧ Below w.heap.size w w' := by
  by_cases h255 : l.length ≤ 255
  case neg =>
    have hr : lstRes l = .tuple #[.string ⟨#[]⟩, .bool false] := by simp [lstRes, lstOk, h255]
    rw [hr]
    clear hr hsl
    go_enter Try.func117, Try.ntmps117
    go_wp2_with fail
    go_ret2
    exact ⟨rfl, Below.refl _ _⟩
  have e256 : (l.length : Int) % 256 = l.length := by omega
  have HE := Lib.hid e256; clear e256
  have HSL := Lib.hid hsl; clear hsl
  go_enter Try.func117, Try.ntmps117
  go_wp2_with fail
  have hown0 : Own u8E (w.alloc (.cells #[.int .u8 (l.length : Int)] 5)) w.heap.size (.slice (some ⟨w.heap.size, 0, none⟩) 1 1) ((l.length : Int) :: l.take 0) :=
    own_new u8E w [(l.length : Int)] _ rfl (by unfold maxLen; simp)
  have HO0 := Lib.hid hown0; clear hown0
  go_loopw [4, 5] (fun v i wr => ∃ k : Nat, k ≤ l.length ∧ i = .int .i64 k ∧ Own u8E wr w.heap.size v ((l.length : Int) :: l.take k) ∧ Below w.heap.size w wr ∧ badB (l.take k) = false) (fun _ i _ => l.length - (intOf i).toNat)
  case atStart => exact ⟨0, Nat.zero_le _, rfl, HO0.out, (Below.refl _ _).alloc (Nat.le_refl _) _, rfl⟩
  case round =>
    obtain ⟨k, hk, rfl, hown, hB, hbad⟩ := hrel
    by_cases hlt : k < l.length
    · obtain ⟨b, o, rfl, _, hx⟩ := HSL.out k hlt
      have hx := below_cell hB hx
      have hno := lst_no l k hlt
      have hsn := take_snoc l k hlt
      have hbs := badB_snoc (l.take k) l[k]
      generalize l[k] = x at *
      have HNO := Lib.hid hno; clear hno
      have HSN := Lib.hid hsn; clear hsn
      have HBS := Lib.hid hbs; clear hbs
      have HOWN := Lib.hid hown; clear hown
      have HB := Lib.hid hB; clear hB
      have HBAD := Lib.hid hbad; clear hbad
      by_cases hx0 : x < 0
      · go_wp2_with fail
        go_ret2
        exact ⟨by rw [HNO.out (.inl hx0)]; rfl, HB.out⟩
      by_cases hx1 : 255 < x
      · go_wp2_with fail
        go_ret2
        exact ⟨by rw [HNO.out (.inr hx1)]; rfl, HB.out⟩
      have hx2 : 0 ≤ x := by omega
      have hx3 : x ≤ 255 := by omega
      have hx4 : x % 256 = x := by omega
      have HX4 := Lib.hid hx4; clear hx4
      clear hx0 hx1
      go_wp2_with (at_builtin; refine append_own u8E rfl (.tmp 31) (.tmp 37) rfl w.heap.size ((l.length : Int) :: l.take k) [x] _ rfl (HOWN.out.alloc _) wr.heap.size 0 1 rfl (CellsAt.new _ _ _ _) ?c1 ?c2 ?_)
      case c1 => simp; omega
      case c2 => have := HB.out.size; simp; omega
      intro v2 w2 hown2 hg2
      have hB2 := Lib.hid (below_grown (HB.out.alloc HB.out.size _) (HOWN.out.alloc _) hg2 (by have := HB.out.size; simp; omega) (Nat.le_refl _))
      have HO2 := Lib.hid hown2; clear hown2
      clear hg2 hx
      go_wp2_with fail
      go_roundw
      case rel =>
        refine ⟨k + 1, by omega, by go_num, ?_, hB2.out, ?_⟩
        · rw [HSN.out]; exact HO2.out
        · rw [HSN.out, HBS.out, HBAD.out]; simp; omega
      case measure => simp [intOf]; omega
    · have hk' : k = l.length := by omega
      subst hk'
      rw [List.take_length] at hown hbad
      have hcv := own_str hown
      have hres : lstRes l = .tuple #[.string (bytesS ((l.length : Int) :: l)), .bool true] := by simp [lstRes, lstOk, hbad, h255, encL]
      have HR := Lib.hid hres
      have HB := Lib.hid hB
      clear hres hB hown hbad
      go_wp2_with fail
      go_ret2
      exact ⟨by rw [HR.out]; rfl, HB.out⟩

theorem step_append_str {ops : Array Oper} {o : Oper} {a : Act} {w : World} {K : Act → World → Prop} {Q : Exit → Act → World → Prop} {F : Prop} (hgd : o.guard = none) (sl x : Operand)
    (ho : o.op = .call { callee := .builtin .append, args := #[sl, x], argTypes := #[29, 9] })
    (B : Nat) (l : List Int) (v : Value) (hs : a.eval sl = v) (hown : Own u8E w B v l) (s : ByteArray) (hx : a.eval x = .string s)
    (hlen : l.length + s.size ≤ 100000000) (hB : B ≤ w.heap.size)
    (h : ∀ v' w', Own u8E w' B v' (l ++ strInts s) → w.grownBy w' v.ownBlock → Fresh w v v' → K (a.put o.dst v') w') : if Region.wanted o (yielded ops a.tmps) = true then Oper.wp Try.prog o a w K Q else F := by
  have hw : Region.wanted o (yielded ops a.tmps) = true := by simp [Region.wanted, hgd]
  rw [if_pos hw]
  obtain ⟨v', w', hr, h2, h3, h4⟩ := run_append_str w o.type B l v hown s hlen hB
  unfold Oper.wp execOp
  simp only [ho, resolve, invoke, builtin, Sem.run_bind, Sem.run_pure, Result.andThen_ok, List.map_toArray, List.map_cons, List.map_nil, hs, hx, hr]
  exact h v' w' h2 h3 h4
theorem bytes4_ints (v : Int) : strInts (bytes4 v) = [byteOf v 0, byteOf v 1, byteOf v 2, byteOf v 3] ∧ (bytes4 v).size = 4 := by
  have h : ∀ k, 0 ≤ byteOf v k ∧ byteOf v k < 256 := fun k => by unfold byteOf; omega
  refine ⟨strInts_bytesS _ (fun x hx => ?_), bytesS_size _⟩
  simp at hx
  rcases hx with rfl | rfl | rfl | rfl <;> exact h _
def rlcRes (l : List Ins) : Value := if laid l then .tuple #[.string (bytesS (layL l)), .bool true] else .tuple #[.string ⟨#[]⟩, .bool false]
theorem rlcRes_no (l : List Ins) (k : Nat) (hk : k < l.length) (h : rightB l[k] = false) : rlcRes l = .tuple #[.string ⟨#[]⟩, .bool false] := by
  have : laid l = false := by
    unfold laid
    rw [List.all_eq_false]
    exact ⟨l[k], List.getElem_mem hk, by simp [h]⟩
  simp [rlcRes, this]
set_option maxRecDepth 100000 in
set_option maxHeartbeats 4000000 in
theorem rlayCode_any (l : List Ins) (a : Option Addr) (c : Nat) (w : World) (hl : l.length ≤ 100000) (hc : InsSl w a l) :
    Calls Try.prog 37 #[.slice a l.length c] w fun e w' => e = .returned (rlcRes l) ∧ Below w.heap.size w w' := by
  have HC := Lib.hid hc; clear hc
  go_enter Try.func37, Try.ntmps37
  go_wp2_with fail
  go_loopw [4, 5] (fun v i wr => ∃ k : Nat, k ≤ l.length ∧ i = .int .i64 k ∧ Own u8E wr w.heap.size v (layL (l.take k)) ∧ Below w.heap.size w wr ∧ laid (l.take k) = true) (fun _ i _ => l.length - (intOf i).toNat)
  case atStart => exact ⟨0, Nat.zero_le _, rfl, Own.nil _ _ _, Below.refl _ _, rfl⟩
  case round =>
    obtain ⟨k, hk, rfl, hown, hB, hlaid⟩ := hrel
    by_cases hlt : k < l.length
    · have hx := HC.out.below hB k hlt
      obtain ⟨b, o, rfl, hx0, hx1, hx2, hx3⟩ := hx
      have hno := rlcRes_no l k hlt
      have hsn := take_snoc l k hlt
      have hll : (layL (l.take k)).length = 7 * k := by rw [layL_len, List.length_take]; omega
      generalize l[k] = x at *
      obtain ⟨xop, xa, xb, xc⟩ := x
      dsimp only at hx0 hx1 hx2 hx3
      have kn := fun w => rknown_any w xop
      unfold RKnownSaid at kn
      have o1 := rof_any xb
      have un := unused_any ⟨xop, xa, xb, xc⟩
      have un : ∀ w, Calls Try.prog 89 #[.agg #[.int .i64 xop, .int .i64 xa, .int .i64 xb, .int .i64 xc]] w fun e w' => e = .returned (.bool (unusedB ⟨xop, xa, xb, xc⟩)) ∧ Below w.heap.size w w' := un
      have hr : rightB ⟨xop, xa, xb, xc⟩ = (knownS xop && decide (0 ≤ xa) && decide (xa ≤ 255) && decide (0 ≤ xc) && decide (xc ≤ 255) && decide (wrap32 xb = xb) && unusedB ⟨xop, xa, xb, xc⟩) := rfl
      rw [hr] at hno
      have q0 : ∀ W : BelowW (wr.alloc (.cells #[.int .i64 xop, .int .i64 xa, .int .i64 xb, .int .i64 xc] 58)), W.val.cell? ⟨wr.heap.size, 0, none⟩ = some (.int .i64 xop) := fun W => W.cell (cell_new ..)
      have q1 : ∀ W : BelowW (wr.alloc (.cells #[.int .i64 xop, .int .i64 xa, .int .i64 xb, .int .i64 xc] 58)), W.val.cell? ⟨wr.heap.size, 1, none⟩ = some (.int .i64 xa) := fun W => W.cell (cell_new ..)
      have q2 : ∀ W : BelowW (wr.alloc (.cells #[.int .i64 xop, .int .i64 xa, .int .i64 xb, .int .i64 xc] 58)), W.val.cell? ⟨wr.heap.size, 2, none⟩ = some (.int .i64 xb) := fun W => W.cell (cell_new ..)
      have q3 : ∀ W : BelowW (wr.alloc (.cells #[.int .i64 xop, .int .i64 xa, .int .i64 xb, .int .i64 xc] 58)), W.val.cell? ⟨wr.heap.size, 3, none⟩ = some (.int .i64 xc) := fun W => W.cell (cell_new ..)
      have hB4 := w32_bd xb
      have rb := rbytes_any xb
      generalize hu : unusedB ⟨xop, xa, xb, xc⟩ = ub at *
      generalize hwb : wrap32 xb = b' at *
      generalize hkn : knownS xop = kn0 at *
      have HU := Lib.hid hu; have HWB := Lib.hid hwb; have HKN := Lib.hid hkn
      have OF := Lib.hid o1; have UN := Lib.hid un; have KN := Lib.hid kn
      clear hu hwb hkn o1 un kn
      have HNO := Lib.hid hno; clear hno
      have HSN := Lib.hid hsn; clear hsn
      have HLL := Lib.hid hll; clear hll
      have HOWN := Lib.hid hown; clear hown
      have HB := Lib.hid hB; clear hB
      have HLAID := Lib.hid hlaid; clear hlaid
      have HR := Lib.hid hr; clear hr
      have RB := Lib.hid rb; clear rb
      cases kn0
      · skip
        have hno := HNO.out (by first | (simp [*]; done) | (simp; intros; omega))
        have HNO2 := Lib.hid hno
        clear hno
        go_wp2_with fail
        refine wp_region_below (by kernel_rfl) (by kernel_rfl) ?_
        repeat (go_big_quiet_step (first | (go_at_call 44; exact Calls.below_same ((KN.out _).mono fun _ _ ⟨a, b⟩ => ⟨a, b⟩)) | (go_at_call 26; exact Calls.below_same ((OF.out _).mono fun _ _ ⟨a, b⟩ => ⟨a, b⟩)) | (go_at_call 89; exact Calls.below_of (UN.out _))))
        refine wpQuiet_nil ?_
        rintro _ ⟨W2, rfl⟩
        have HB2 := Lib.hid ((HB.out.alloc HB.out.size (.cells #[.int .i64 xop, .int .i64 xa, .int .i64 xb, .int .i64 xc] 58)).trans (W2.2.mono (by have := HB.out.size; simp; omega)))
        go_wp2_with fail
        go_ret2
        exact ⟨by rw [HNO2.out]; rfl, HB2.out⟩
      by_cases h1 : xa < 0
      · skip
        have hno := HNO.out (by first | (simp [*]; done) | (simp; intros; omega))
        have HNO2 := Lib.hid hno
        clear hno
        go_wp2_with fail
        refine wp_region_below (by kernel_rfl) (by kernel_rfl) ?_
        repeat (go_big_quiet_step (first | (go_at_call 44; exact Calls.below_same ((KN.out _).mono fun _ _ ⟨a, b⟩ => ⟨a, b⟩)) | (go_at_call 26; exact Calls.below_same ((OF.out _).mono fun _ _ ⟨a, b⟩ => ⟨a, b⟩)) | (go_at_call 89; exact Calls.below_of (UN.out _))))
        refine wpQuiet_nil ?_
        rintro _ ⟨W2, rfl⟩
        have HB2 := Lib.hid ((HB.out.alloc HB.out.size (.cells #[.int .i64 xop, .int .i64 xa, .int .i64 xb, .int .i64 xc] 58)).trans (W2.2.mono (by have := HB.out.size; simp; omega)))
        go_wp2_with fail
        go_ret2
        exact ⟨by rw [HNO2.out]; rfl, HB2.out⟩
      have h1' : decide (xa < 0) = false := by simpa using h1
      by_cases h2 : 255 < xa
      · skip
        have hno := HNO.out (by first | (simp [*]; done) | (simp; intros; omega))
        have HNO2 := Lib.hid hno
        clear hno
        go_wp2_with fail
        refine wp_region_below (by kernel_rfl) (by kernel_rfl) ?_
        repeat (go_big_quiet_step (first | (go_at_call 44; exact Calls.below_same ((KN.out _).mono fun _ _ ⟨a, b⟩ => ⟨a, b⟩)) | (go_at_call 26; exact Calls.below_same ((OF.out _).mono fun _ _ ⟨a, b⟩ => ⟨a, b⟩)) | (go_at_call 89; exact Calls.below_of (UN.out _))))
        refine wpQuiet_nil ?_
        rintro _ ⟨W2, rfl⟩
        have HB2 := Lib.hid ((HB.out.alloc HB.out.size (.cells #[.int .i64 xop, .int .i64 xa, .int .i64 xb, .int .i64 xc] 58)).trans (W2.2.mono (by have := HB.out.size; simp; omega)))
        go_wp2_with fail
        go_ret2
        exact ⟨by rw [HNO2.out]; rfl, HB2.out⟩
      have h2' : decide (255 < xa) = false := by simpa using h2
      by_cases h3 : xc < 0
      · skip
        have hno := HNO.out (by first | (simp [*]; done) | (simp; intros; omega))
        have HNO2 := Lib.hid hno
        clear hno
        go_wp2_with fail
        refine wp_region_below (by kernel_rfl) (by kernel_rfl) ?_
        repeat (go_big_quiet_step (first | (go_at_call 44; exact Calls.below_same ((KN.out _).mono fun _ _ ⟨a, b⟩ => ⟨a, b⟩)) | (go_at_call 26; exact Calls.below_same ((OF.out _).mono fun _ _ ⟨a, b⟩ => ⟨a, b⟩)) | (go_at_call 89; exact Calls.below_of (UN.out _))))
        refine wpQuiet_nil ?_
        rintro _ ⟨W2, rfl⟩
        have HB2 := Lib.hid ((HB.out.alloc HB.out.size (.cells #[.int .i64 xop, .int .i64 xa, .int .i64 xb, .int .i64 xc] 58)).trans (W2.2.mono (by have := HB.out.size; simp; omega)))
        go_wp2_with fail
        go_ret2
        exact ⟨by rw [HNO2.out]; rfl, HB2.out⟩
      have h3' : decide (xc < 0) = false := by simpa using h3
      by_cases h4 : 255 < xc
      · skip
        have hno := HNO.out (by first | (simp [*]; done) | (simp; intros; omega))
        have HNO2 := Lib.hid hno
        clear hno
        go_wp2_with fail
        refine wp_region_below (by kernel_rfl) (by kernel_rfl) ?_
        repeat (go_big_quiet_step (first | (go_at_call 44; exact Calls.below_same ((KN.out _).mono fun _ _ ⟨a, b⟩ => ⟨a, b⟩)) | (go_at_call 26; exact Calls.below_same ((OF.out _).mono fun _ _ ⟨a, b⟩ => ⟨a, b⟩)) | (go_at_call 89; exact Calls.below_of (UN.out _))))
        refine wpQuiet_nil ?_
        rintro _ ⟨W2, rfl⟩
        have HB2 := Lib.hid ((HB.out.alloc HB.out.size (.cells #[.int .i64 xop, .int .i64 xa, .int .i64 xb, .int .i64 xc] 58)).trans (W2.2.mono (by have := HB.out.size; simp; omega)))
        go_wp2_with fail
        go_ret2
        exact ⟨by rw [HNO2.out]; rfl, HB2.out⟩
      have h4' : decide (255 < xc) = false := by simpa using h4
      by_cases h5 : b' = xb
      case neg =>
        have h5' : (b' != xb) = true := by simpa using h5
        have hno := HNO.out (by first | (simp [*]; done) | (simp; intros; omega))
        have HNO2 := Lib.hid hno
        clear hno
        go_wp2_with fail
        refine wp_region_below (by kernel_rfl) (by kernel_rfl) ?_
        repeat (go_big_quiet_step (first | (go_at_call 44; exact Calls.below_same ((KN.out _).mono fun _ _ ⟨a, b⟩ => ⟨a, b⟩)) | (go_at_call 26; exact Calls.below_same ((OF.out _).mono fun _ _ ⟨a, b⟩ => ⟨a, b⟩)) | (go_at_call 89; exact Calls.below_of (UN.out _))))
        refine wpQuiet_nil ?_
        rintro _ ⟨W2, rfl⟩
        have HB2 := Lib.hid ((HB.out.alloc HB.out.size (.cells #[.int .i64 xop, .int .i64 xa, .int .i64 xb, .int .i64 xc] 58)).trans (W2.2.mono (by have := HB.out.size; simp; omega)))
        go_wp2_with fail
        go_ret2
        exact ⟨by rw [HNO2.out]; rfl, HB2.out⟩
      have h5 := h5.symm
      subst h5
      cases ub
      · skip
        have hno := HNO.out (by first | (simp [*]; done) | (simp; intros; omega))
        have HNO2 := Lib.hid hno
        clear hno
        go_wp2_with fail
        refine wp_region_below (by kernel_rfl) (by kernel_rfl) ?_
        repeat (go_big_quiet_step (first | (go_at_call 44; exact Calls.below_same ((KN.out _).mono fun _ _ ⟨a, b⟩ => ⟨a, b⟩)) | (go_at_call 26; exact Calls.below_same ((OF.out _).mono fun _ _ ⟨a, b⟩ => ⟨a, b⟩)) | (go_at_call 89; exact Calls.below_of (UN.out _))))
        refine wpQuiet_nil ?_
        rintro _ ⟨W2, rfl⟩
        have HB2 := Lib.hid ((HB.out.alloc HB.out.size (.cells #[.int .i64 xop, .int .i64 xa, .int .i64 xb, .int .i64 xc] 58)).trans (W2.2.mono (by have := HB.out.size; simp; omega)))
        go_wp2_with fail
        go_ret2
        exact ⟨by rw [HNO2.out]; rfl, HB2.out⟩
      go_wp2_with fail
      refine wp_region_below (by kernel_rfl) (by kernel_rfl) ?_
      repeat (go_big_quiet_step (first | (go_at_call 44; exact Calls.below_same ((KN.out _).mono fun _ _ ⟨a, b⟩ => ⟨a, b⟩)) | (go_at_call 26; exact Calls.below_same ((OF.out _).mono fun _ _ ⟨a, b⟩ => ⟨a, b⟩)) | (go_at_call 89; exact Calls.below_of (UN.out _))))
      refine wpQuiet_nil ?_
      rintro _ ⟨W2, rfl⟩
      have HB2 := Lib.hid ((HB.out.alloc HB.out.size (.cells #[.int .i64 xop, .int .i64 xa, .int .i64 xb, .int .i64 xc] 58)).trans (W2.2.mono (by have := HB.out.size; simp; omega)))
      have hown2 : Own u8E W2.val w.heap.size _ (layL (l.take k)) := Own.below (HOWN.out.alloc (.cells #[.int .i64 xop, .int .i64 xa, .int .i64 xb, .int .i64 xc] 58)) W2.2
      have k0 := q0 W2
      have k1 := q1 W2
      have k2 := q2 W2
      have k3 := q3 W2
      have hlt2 : wr.heap.size < W2.val.heap.size := World.block_lt k0
      generalize W2.val = w2 at *
      have hin : 0 ≤ xa ∧ xa ≤ 255 ∧ 0 ≤ xc ∧ xc ≤ 255 := by omega
      have HIN := Lib.hid hin; clear hin
      clear q0 q1 q2 q3 hx0 hx1 hx2 hx3 h1 h1' h2 h2' h3 h3' h4 h4'
      have b4 := bytes4_ints xb
      have HOWN2 := Lib.hid hown2; clear hown2
      have B4 := Lib.hid b4; clear b4
      go_wp2_with fail
      go_region_held3 (fun w' => w'.cell? ⟨wr.heap.size, 0, none⟩ = some (.int .i64 xop) ∧ w'.cell? ⟨wr.heap.size, 1, none⟩ = some (.int .i64 xa) ∧ w'.cell? ⟨wr.heap.size, 2, none⟩ = some (.int .i64 xb) ∧ w'.cell? ⟨wr.heap.size, 3, none⟩ = some (.int .i64 xc)) (first | go_keep | exact ⟨kk0, kk1, kk2, kk3⟩) (first | (refine step_append_fresh u8E rfl (.tmp 54) (.tmp 64) rfl w.heap.size (layL (l.take k)) [xop % 256, xa % 256, xc % 256] _ rfl (HOWN2.out.drew.alloc _) w2.heap.size 0 3 rfl (CellsAt.new _ _ _ _) (by have := HLL.out; simp; omega) (by have := HB2.out.size; simp; omega) ?_; intro v3 w3 hown3 hg3 hf3; have kk0 := cell_grown hg3 ((cell_under _ _ hlt2).trans k0) (fun e => absurd (World.ownsRow.lt HOWN.out _ e).2 (Nat.lt_irrefl _)); have kk1 := cell_grown hg3 ((cell_under _ _ hlt2).trans k1) (fun e => absurd (World.ownsRow.lt HOWN.out _ e).2 (Nat.lt_irrefl _)); have kk2 := cell_grown hg3 ((cell_under _ _ hlt2).trans k2) (fun e => absurd (World.ownsRow.lt HOWN.out _ e).2 (Nat.lt_irrefl _)); have kk3 := cell_grown hg3 ((cell_under _ _ hlt2).trans k3) (fun e => absurd (World.ownsRow.lt HOWN.out _ e).2 (Nat.lt_irrefl _))) | (refine step_append_str rfl (.tmp 65) (.tmp 68) rfl w.heap.size (layL (l.take k) ++ [xop % 256, xa % 256, xc % 256]) _ rfl (hown3.alloc _) (bytes4 xb) rfl (by rw [B4.out.2]; have := HLL.out; simp; omega) (by have := HB2.out.size; have := hg3.size; simp at *; omega) ?_; intro v5 w5 hown5 hg5 hf5; have kk0 := cell_grown hg5 ((cell_under _ _ (World.block_lt kk0)).trans kk0) (fun e => (hf3 _ e).elim (fun e => absurd (World.ownsRow.lt HOWN.out _ e).2 (Nat.lt_irrefl _)) (fun h => by simp at h; omega)); have kk1 := cell_grown hg5 ((cell_under _ _ (World.block_lt kk1)).trans kk1) (fun e => (hf3 _ e).elim (fun e => absurd (World.ownsRow.lt HOWN.out _ e).2 (Nat.lt_irrefl _)) (fun h => by simp at h; omega)); have kk2 := cell_grown hg5 ((cell_under _ _ (World.block_lt kk2)).trans kk2) (fun e => (hf3 _ e).elim (fun e => absurd (World.ownsRow.lt HOWN.out _ e).2 (Nat.lt_irrefl _)) (fun h => by simp at h; omega)); have kk3 := cell_grown hg5 ((cell_under _ _ (World.block_lt kk3)).trans kk3) (fun e => (hf3 _ e).elim (fun e => absurd (World.ownsRow.lt HOWN.out _ e).2 (Nat.lt_irrefl _)) (fun h => by simp at h; omega))) | (go_at_call 32; refine (RB.out _).mono ?_; rintro e w4 ⟨rfl, rfl⟩))
      have hB3 := below_grown ((HB2.out.drew).alloc HB2.out.size _) (HOWN2.out.drew.alloc _) hg3 (by have := HB2.out.size; simp; omega) (Nat.le_refl _)
      have hB5 := below_grown (hB3.alloc hB3.size _) (hown3.alloc _) hg5 (by have := hB3.size; simp; omega) (Nat.le_refl _)
      rw [B4.out.1] at hown5
      have HB5 := Lib.hid hB5; clear hB5
      have HOWN5 := Lib.hid hown5; clear hown5
      clear hB3 hown3 hg3 hg5 hf3 hf5 k0 k1 k2 k3
      go_wp2_with fail
      go_roundw
      case rel =>
        refine ⟨k + 1, by omega, by go_num, ?_, HB5.out, ?_⟩
        · rw [HSN.out, layL_snoc]
          have h := HOWN5.out
          rw [List.append_assoc] at h
          exact h
        · rw [HSN.out, laid_snoc, HLAID.out, HR.out]; have := HIN.out; simp; omega
      case measure => simp [intOf]; omega
    · have hk' : k = l.length := by omega
      subst hk'
      rw [List.take_length] at hown hlaid
      have hcv := own_str hown
      have hres : rlcRes l = .tuple #[.string (bytesS (layL l)), .bool true] := by simp [rlcRes, hlaid]
      have HR := Lib.hid hres
      have HB := Lib.hid hB
      clear hres hB hown hlaid
      go_wp2_with fail
      go_ret2
      exact ⟨by rw [HR.out]; rfl, HB.out⟩
end Go.Proofs.Ytmmdppjbofbjhaa
namespace Go.Proofs.Ytmmdppjbofbjhaa
open Go.ChangeShapes Go.WideShapes Go.ChangeAt Go.RowKit

def intsE : Elem Try.prog Hd where
  e := 63
  t := 43
  size := 1
  bytes := 24
  zero := .slice none 0 0
  enc := fun h => [h.val]
  ht := Try.underlying43
  info := by kernel_rfl
  hzs := rfl
  hsz := by decide
  hby := by decide
  henc := fun _ => rfl
  hone := fun x u h => by simp at h; subst h; rfl
def inssE : Elem Try.prog Hd where
  e := 35
  t := 44
  size := 1
  bytes := 24
  zero := .slice none 0 0
  enc := fun h => [h.val]
  ht := Try.underlying44
  info := by kernel_rfl
  hzs := rfl
  hsz := by decide
  hby := by decide
  henc := fun _ => rfl
  hone := fun x u h => by simp at h; subst h; rfl
/-- a mark -/
def mkInts (i k : Nat) : Int := -1000000 * (i : Int) - (k : Int) - 7
def mkInstrs (i k : Nat) : Ins := ⟨-1000 * (i : Int) - (k : Int) - 1, 0, 0, 0⟩
def marks {α : Type} (mk : Nat → Nat → α) (i f n : Nat) : List α := (List.range n).map fun t => mk i (f + t)
theorem marks_succ {α : Type} (mk : Nat → Nat → α) (i f n : Nat) : marks mk i f (n + 1) = marks mk i f n ++ [mk i (f + n)] := by simp [marks, List.range_succ]
theorem marks_len {α : Type} (mk : Nat → Nat → α) (i f n : Nat) : (marks mk i f n).length = n := by simp [marks]
theorem marks_add {α : Type} (mk : Nat → Nat → α) (i n m : Nat) : marks mk i 0 (n + m) = marks mk i 0 n ++ marks mk i n m := by
  induction m with
  | zero => simp [marks]
  | succ m ih => rw [← Nat.add_assoc, marks_succ, ih, marks_succ, List.append_assoc, Nat.zero_add]
theorem marks_get {α : Type} (mk : Nat → Nat → α) (i f n j : Nat) (h : j < (marks mk i f n).length) : (marks mk i f n)[j] = mk i (f + j) := by simp [marks]

set_option maxRecDepth 100000 in
set_option maxHeartbeats 1600000 in
theorem markInts_any (i f n : Nat) (w : World) (hi : i ≤ 1000) (hf : f ≤ 1000000) (hn : n ≤ 1000000) :
    Calls Try.prog 154 #[.int .i64 i, .int .i64 f, .int .i64 n] w fun e w' => ∃ v, e = .returned v ∧ Own intE w' w.heap.size v (marks mkInts i f n) ∧ Below w.heap.size w w' := by
  go_enter Try.func154, Try.ntmps154
  go_wp2_with fail
  go_loopw [7, 8] (fun v k wr => ∃ t : Nat, t ≤ n ∧ k = .int .i64 ((f + t : Nat) : Int) ∧ Own intE wr w.heap.size v (marks mkInts i f t) ∧ Below w.heap.size w wr) (fun _ k _ => f + n - (intOf k).toNat)
  case atStart => exact ⟨0, Nat.zero_le _, rfl, Own.nil _ _ _, Below.refl _ _⟩
  case round =>
    obtain ⟨t, ht, rfl, hown, hB⟩ := hrel
    have hlen := marks_len mkInts i f t
    by_cases hlt : t < n
    · have hlt' : ((f + t : Nat) : Int) < (f : Int) + (n : Int) := by omega
      have hms := marks_succ mkInts i f t
      have hmk : mkInts i (f + t) = (-1000000*(i:Int)-((f+t:Nat):Int)-7) := rfl
      rw [hmk] at hms
      generalize hk : f + t = k at *
      have hk0 : (k : Int) ≤ 2000000 := by omega
      have HK := Lib.hid hk; clear hk hmk
      have HMS := Lib.hid hms; clear hms
      have HOWN := Lib.hid hown; clear hown
      have HB := Lib.hid hB; clear hB
      have HLEN := Lib.hid hlen; clear hlen
      go_wp2_with (at_builtin; refine append_own intE rfl (.tmp 17) (.tmp 23) rfl w.heap.size (marks mkInts i f t) [(-1000000*(i:Int)-(k:Int)-7)] _ rfl (HOWN.out.alloc _) wr.heap.size 0 1 rfl (CellsAt.new _ _ _ _) ?c1 ?c2 ?_)
      case c1 => rw [HLEN.out]; simp; omega
      case c2 => have := HB.out.size; simp; omega
      intro v2 w2 hown2 hg2
      have hB2 := Lib.hid (below_grown (HB.out.alloc HB.out.size _) (HOWN.out.alloc _) hg2 (by have := HB.out.size; simp; omega) (Nat.le_refl _))
      have HO2 := Lib.hid hown2; clear hown2 hg2
      go_wp2_with fail
      go_roundw
      case rel => exact ⟨t + 1, by omega, by have := HK.out; first | go_num | (rw [← Nat.add_assoc, this]; go_num), by rw [HMS.out]; exact HO2.out, hB2.out⟩
      case measure => have := HK.out; simp [intOf]; omega
    · have hk' : t = n := by omega
      subst hk'
      have hge : ¬ ((f + t : Nat) : Int) < (f : Int) + (t : Int) := by omega
      have hP : ∀ v, Own intE wr w.heap.size v (marks mkInts i f t) → ∃ v', Ending.returned v = .returned v' ∧ Own intE wr w.heap.size v' (marks mkInts i f t) ∧ Below w.heap.size w wr := fun v hv => ⟨v, rfl, hv, hB⟩
      have HP := Lib.hid (hP _ hown)
      clear hP hown hB hlen hlt
      go_wp2_with fail
      go_ret
      exact HP.out
set_option maxRecDepth 100000 in
set_option maxHeartbeats 1600000 in
theorem markInstrs_any (i f n : Nat) (w : World) (hi : i ≤ 1000) (hf : f ≤ 1000000) (hn : n ≤ 1000000) :
    Calls Try.prog 155 #[.int .i64 i, .int .i64 f, .int .i64 n] w fun e w' => ∃ v, e = .returned v ∧ Own insE w' w.heap.size v (marks mkInstrs i f n) ∧ Below w.heap.size w w' := by
  go_enter Try.func155, Try.ntmps155
  go_wp2_with fail
  go_loopw [7, 8] (fun v k wr => ∃ t : Nat, t ≤ n ∧ k = .int .i64 ((f + t : Nat) : Int) ∧ Own insE wr w.heap.size v (marks mkInstrs i f t) ∧ Below w.heap.size w wr) (fun _ k _ => f + n - (intOf k).toNat)
  case atStart => exact ⟨0, Nat.zero_le _, rfl, Own.nil _ _ _, Below.refl _ _⟩
  case round =>
    obtain ⟨t, ht, rfl, hown, hB⟩ := hrel
    have hlen := marks_len mkInstrs i f t
    by_cases hlt : t < n
    · have hlt' : ((f + t : Nat) : Int) < (f : Int) + (n : Int) := by omega
      have hms := marks_succ mkInstrs i f t
      have hmk : mkInstrs i (f + t) = (⟨-1000*(i:Int)-((f+t:Nat):Int)-1,0,0,0⟩:Ins) := rfl
      rw [hmk] at hms
      generalize hk : f + t = k at *
      have hk0 : (k : Int) ≤ 2000000 := by omega
      have HK := Lib.hid hk; clear hk hmk
      have HMS := Lib.hid hms; clear hms
      have HOWN := Lib.hid hown; clear hown
      have HB := Lib.hid hB; clear hB
      have HLEN := Lib.hid hlen; clear hlen
      go_wp2_with (at_builtin; refine append_own insE rfl (.tmp 17) (.tmp 24) rfl w.heap.size (marks mkInstrs i f t) [(⟨-1000*(i:Int)-(k:Int)-1,0,0,0⟩:Ins)] _ rfl (HOWN.out.alloc _) wr.heap.size 0 1 rfl (CellsAt.new _ _ _ _) ?c1 ?c2 ?_)
      case c1 => rw [HLEN.out]; simp; omega
      case c2 => have := HB.out.size; simp; omega
      intro v2 w2 hown2 hg2
      have hB2 := Lib.hid (below_grown (HB.out.alloc HB.out.size _) (HOWN.out.alloc _) hg2 (by have := HB.out.size; simp; omega) (Nat.le_refl _))
      have HO2 := Lib.hid hown2; clear hown2 hg2
      go_wp2_with fail
      go_roundw
      case rel => exact ⟨t + 1, by omega, by have := HK.out; first | go_num | (rw [← Nat.add_assoc, this]; go_num), by rw [HMS.out]; exact HO2.out, hB2.out⟩
      case measure => have := HK.out; simp [intOf]; omega
    · have hk' : t = n := by omega
      subst hk'
      have hge : ¬ ((f + t : Nat) : Int) < (f : Int) + (t : Int) := by omega
      have hP : ∀ v, Own insE wr w.heap.size v (marks mkInstrs i f t) → ∃ v', Ending.returned v = .returned v' ∧ Own insE wr w.heap.size v' (marks mkInstrs i f t) ∧ Below w.heap.size w wr := fun v hv => ⟨v, rfl, hv, hB⟩
      have HP := Lib.hid (hP _ hown)
      clear hP hown hB hlen hlt
      go_wp2_with fail
      go_ret
      exact HP.out

theorem run_append_none {P : Program} {α : Type} (E : Elem P α) (w : World) (ty : TypeId) (b : Option Addr) (c : Nat) : (Builtin.append_ #[E.t, E.t] ty #[.slice none 0 0, .slice b 0 c]).run P w = .ok (.slice none 0 0) w := by
  obtain ⟨i0, hi, hz0, hz1, hz2⟩ := info_parts E.info
  cases b with
  | none => simp [Builtin.append_, run_underlying E.ht, sizeOf, typeInfo, hi, Builtin.lenOf, Builtin.firstCells]
  | some a =>
    have hf := run_firstCells_some (P := P) w i0.size 0 a 0 c [] (by simp) (by simp)
    simp [Builtin.append_, run_underlying E.ht, sizeOf, typeInfo, hi, Builtin.lenOf, hf]
theorem append_none_any {P : Program} {α : Type} (E : Elem P α) {ops : Array Oper} {rest : List Oper} {o : Oper} {a : Act} {Q : Exit → Act → World → Prop} {w : World} (hgd : o.guard = none) (s x : Operand)
    (ho : o.op = .call { callee := .builtin .append, args := #[s, x], argTypes := #[E.t, E.t] }) (hs : a.eval s = .slice none 0 0) (b : Option Addr) (c : Nat) (hx : a.eval x = .slice b 0 c)
    (h : wpList P ops Q rest (a.put o.dst (.slice none 0 0)) w) : wpList P ops Q (o :: rest) a w :=
  wpList_plain hgd fun _ hK => by
    have hr := run_append_none E w o.type b c
    unfold Oper.wp execOp
    simp only [ho, resolve, invoke, builtin, Sem.run_bind, Sem.run_pure, Result.andThen_ok, List.map_toArray, List.map_cons, List.map_nil, hs, hx, hr]
    exact hK _ _ h
theorem int_map (l : List Int) : l.flatMap intE.enc = l.map (Value.int .i64) := by
  induction l with
  | nil => rfl
  | cons x l ih => rw [List.flatMap_cons, ih]; rfl
theorem sl_cellsInts {w : World} {D : Nat → Prop} {a : Option Addr} {l : List Int} (h : IntSl w D a l) (hn : 1 ≤ l.length) : ∃ b o, a = some ⟨b, o, none⟩ ∧ CellsAt w b o (l.flatMap intE.enc) := by
  obtain ⟨b, o, rfl, _, _⟩ := h 0 (by omega)
  refine ⟨b, o, rfl, fun j u hj => ?_⟩
  rw [int_map] at hj
  rcases Nat.lt_or_ge j l.length with hlt | hge
  · obtain ⟨b', o', h1, _, h3⟩ := h j hlt
    injection h1 with h1
    injection h1 with h1 h2 _
    subst h1 h2
    rw [List.getElem?_map, List.getElem?_eq_getElem hlt] at hj
    injection hj with hj
    rw [← hj]; exact h3
  · rw [List.getElem?_eq_none (by simpa using hge)] at hj; cases hj
theorem sl_cellsInstrs {w : World} {D : Nat → Prop} {a : Option Addr} {l : List Ins} (h : InsSlD w D a l) (hn : 1 ≤ l.length) : ∃ b o, a = some ⟨b, o, none⟩ ∧ CellsAt w b o (l.flatMap insE.enc) := by
  obtain ⟨b, o, rfl, _, _⟩ := h 0 (by omega)
  refine ⟨b, o, rfl, fun j u hj => ?_⟩
  have hlen := insE.len l
  rcases Nat.lt_or_ge (j / 4) l.length with hlt | hge
  · obtain ⟨b', o', h1, _, h3⟩ := h (j / 4) hlt
    injection h1 with h1
    injection h1 with h1 h2 _
    subst h1 h2
    have hf := flat_cells l (j / 4) (j % 4) hlt (by omega)
    have ej : j / 4 * 4 + j % 4 = j := by omega
    rw [ej] at hf
    have hj : (l.flatMap Ins.cells)[j]? = some u := hj
    rw [hf] at hj
    obtain ⟨q0, q1, q2, q3⟩ := h3
    have hr : j % 4 < 4 := by omega
    have eo : o + j = o + j / 4 * 4 + j % 4 := by omega
    rw [eo]
    generalize j % 4 = r at *
    match r, hr, hj with
    | 0, _, hj => injection hj with hj; rw [← hj]; exact q0
    | 1, _, hj => injection hj with hj; rw [← hj]; exact q1
    | 2, _, hj => injection hj with hj; rw [← hj]; exact q2
    | 3, _, hj => injection hj with hj; rw [← hj]; exact q3
  · have : l.length * 4 ≤ j := by omega
    rw [List.getElem?_eq_none (by rw [hlen]; exact this)] at hj; cases hj
set_option maxRecDepth 100000 in
set_option maxHeartbeats 1600000 in
theorem copyInts_any (w : World) (a : Option Addr) (l : List Int) (c : Nat) (D : Nat → Prop) (hsl : IntSl w D a l) (hn : l.length ≤ 1000000) :
    Calls Try.prog 112 #[.slice a l.length c] w fun e w' => ∃ v, e = .returned v ∧ Own intE w' w.heap.size v l ∧ Below w.heap.size w w' := by
  by_cases h0 : l.length = 0
  · have hl : l = [] := List.length_eq_zero_iff.1 h0
    subst hl
    go_enter Try.func112, Try.ntmps112
    go_wp2_with (at_builtin; refine append_none_any intE rfl _ _ rfl rfl _ _ rfl ?_)
    go_wp2_with fail
    go_ret
    exact ⟨_, rfl, Own.nil _ _ _, Below.refl _ _⟩
  · obtain ⟨b, o, rfl, hcells⟩ := sl_cellsInts hsl (by omega)
    have HCELLS := Lib.hid hcells; clear hcells
    have HSL := Lib.hid hsl; clear hsl
    go_enter Try.func112, Try.ntmps112
    go_wp2_with (at_builtin; refine append_own intE rfl (.const (.slice none 0 0)) (.tmp 3) rfl w.heap.size [] l _ rfl (Own.nil _ _ _) b o c rfl HCELLS.out ?c1 ?c2 ?_)
    case c1 => simp; omega
    case c2 => exact Nat.le_refl _
    intro v2 w2 hown2 hg2
    have hB2 := Lib.hid (below_grown (Below.refl w.heap.size w) (Own.nil intE w w.heap.size) hg2 (Nat.le_refl _) (Nat.le_refl _))
    have HO2 := Lib.hid hown2; clear hown2 hg2
    go_wp2_with fail
    go_ret
    exact ⟨_, rfl, HO2.out, hB2.out⟩
set_option maxRecDepth 100000 in
set_option maxHeartbeats 1600000 in
theorem copyInstrs_any (w : World) (a : Option Addr) (l : List Ins) (c : Nat) (D : Nat → Prop) (hsl : InsSlD w D a l) (hn : l.length ≤ 1000000) :
    Calls Try.prog 87 #[.slice a l.length c] w fun e w' => ∃ v, e = .returned v ∧ Own insE w' w.heap.size v l ∧ Below w.heap.size w w' := by
  by_cases h0 : l.length = 0
  · have hl : l = [] := List.length_eq_zero_iff.1 h0
    subst hl
    go_enter Try.func87, Try.ntmps87
    go_wp2_with (at_builtin; refine append_none_any insE rfl _ _ rfl rfl _ _ rfl ?_)
    go_wp2_with fail
    go_ret
    exact ⟨_, rfl, Own.nil _ _ _, Below.refl _ _⟩
  · obtain ⟨b, o, rfl, hcells⟩ := sl_cellsInstrs hsl (by omega)
    have HCELLS := Lib.hid hcells; clear hcells
    have HSL := Lib.hid hsl; clear hsl
    go_enter Try.func87, Try.ntmps87
    go_wp2_with (at_builtin; refine append_own insE rfl (.const (.slice none 0 0)) (.tmp 3) rfl w.heap.size [] l _ rfl (Own.nil _ _ _) b o c rfl HCELLS.out ?c1 ?c2 ?_)
    case c1 => simp; omega
    case c2 => exact Nat.le_refl _
    intro v2 w2 hown2 hg2
    have hB2 := Lib.hid (below_grown (Below.refl w.heap.size w) (Own.nil insE w w.heap.size) hg2 (Nat.le_refl _) (Nat.le_refl _))
    have HO2 := Lib.hid hown2; clear hown2 hg2
    go_wp2_with fail
    go_ret
    exact ⟨_, rfl, HO2.out, hB2.out⟩

/-- the book's block -/
def bkObj (cs : Array Value) : Obj := .cells cs 49
/-- two fields of the book: heads of lists, and of their copies -/
def Two (w : World) (p i0 i1 : Nat) (v v' : Value) : Prop := w.cell? ⟨p, i0, none⟩ = some v ∧ w.cell? ⟨p, i1, none⟩ = some v'
set_option maxRecDepth 100000 in
set_option maxHeartbeats 3200000 in
theorem stillInts_any (w : World) (p B : Nat) (X X' : Nat → Prop) (v v' : Value) (hs hs' : List Hd) (ls : List (List Int)) (h2 : Two w p 0 1 v v') (hF : Fam intE intsE w B X v hs ls) (hF' : Fam intE intsE w B X' v' hs' ls)
    (hn : ls.length ≤ 1000) (hl : ∀ l ∈ ls, l.length ≤ 100000) :
    Calls Try.prog 90 #[.pointer (some ⟨p, 0, none⟩)] w fun e w' => e = .returned (.bool true) ∧ ∃ n, w' = w.drewN n := by
  obtain ⟨q0, q1⟩ := h2
  obtain ⟨a, c, rfl⟩ := hF.slice
  obtain ⟨a', c', rfl⟩ := hF'.slice
  have HF := Lib.hid hF; clear hF
  have HF' := Lib.hid hF'; clear hF'
  have HL := Lib.hid hl; clear hl
  go_enter Try.func90, Try.ntmps90
  go_wp2_with fail
  go_loopw [3] (fun i wr => ∃ k : Nat, k ≤ ls.length ∧ i = .int .i64 k ∧ ∃ n, wr = w.drewN n) (fun i _ => ls.length - (intOf i).toNat)
  case atStart => exact ⟨0, Nat.zero_le _, rfl, 0, rfl⟩
  case round =>
    obtain ⟨k, hk, rfl, n, hwr⟩ := hrel
    have r0 : wr.cell? ⟨p, 0, none⟩ = some (.slice a ls.length c) := by rw [hwr]; exact q0
    have r1 : wr.cell? ⟨p, 1, none⟩ = some (.slice a' ls.length c') := by rw [hwr]; exact q1
    by_cases hlt : k < ls.length
    · obtain ⟨g, c2, he, _, hj, hc, ho⟩ := HF.out.head rfl (fun _ => rfl) k hlt
      obtain ⟨g', c2', he', _, hj', hc', ho'⟩ := HF'.out.head rfl (fun _ => rfl) k hlt
      injection he with e1 e2 e3
      injection he' with e1' e2' e3'
      subst e1 e3 e1' e3'
      obtain ⟨x, y, hx, hsl⟩ := own_int ho
      obtain ⟨x', y', hx', hsl'⟩ := own_int ho'
      rw [hx] at hc
      rw [hx'] at hc'
      have hc : wr.cell? ⟨g, k, none⟩ = some (.slice x ls[k].length y) := by rw [hwr]; exact hc
      have hc' : wr.cell? ⟨g', k, none⟩ = some (.slice x' ls[k].length y') := by rw [hwr]; exact hc'
      have hlk := HL.out _ (List.getElem_mem hlt)
      have sm := fun m => sameInts_any (wr.drewN m) _ _ x x' ls[k] ls[k] y y' (show IntSl (wr.drewN m) _ x ls[k] from by rw [hwr]; exact hsl) (show IntSl (wr.drewN m) _ x' ls[k] from by rw [hwr]; exact hsl') (by omega) (by omega)
      rw [show decide (ls[k] = ls[k]) = true from by simp] at sm
      clear hx hx' hsl hsl' ho ho' hj hj'
      generalize ls[k] = l at *
      have SM := Lib.hid sm; clear sm
      have HWR := Lib.hid hwr; clear hwr
      go_wp2_with fail
      go_quiet ((go_at_call 54; exact Calls.quiet_of (SM.out _)))
      go_wp2_with fail
      go_roundw
      case rel => exact ⟨k + 1, by omega, by go_num, by rw [HWR.out]; exact ⟨_, by first | rfl | (simp; rfl)⟩⟩
      case measure => simp [intOf]; omega
    · skip
      have HWR := Lib.hid hwr; clear hwr
      go_wp2_with fail
      go_ret
      exact ⟨rfl, by rw [HWR.out]; exact ⟨_, rfl⟩⟩
set_option maxRecDepth 100000 in
set_option maxHeartbeats 3200000 in
theorem stillInstrs_any (w : World) (p B : Nat) (X X' : Nat → Prop) (v v' : Value) (hs hs' : List Hd) (ls : List (List Ins)) (h2 : Two w p 2 3 v v') (hF : Fam insE inssE w B X v hs ls) (hF' : Fam insE inssE w B X' v' hs' ls)
    (hn : ls.length ≤ 1000) (hl : ∀ l ∈ ls, l.length ≤ 100000) :
    Calls Try.prog 91 #[.pointer (some ⟨p, 0, none⟩)] w fun e w' => e = .returned (.bool true) ∧ ∃ n, w' = w.drewN n := by
  obtain ⟨q0, q1⟩ := h2
  obtain ⟨a, c, rfl⟩ := hF.slice
  obtain ⟨a', c', rfl⟩ := hF'.slice
  have HF := Lib.hid hF; clear hF
  have HF' := Lib.hid hF'; clear hF'
  have HL := Lib.hid hl; clear hl
  go_enter Try.func91, Try.ntmps91
  go_wp2_with fail
  go_loopw [3] (fun i wr => ∃ k : Nat, k ≤ ls.length ∧ i = .int .i64 k ∧ ∃ n, wr = w.drewN n) (fun i _ => ls.length - (intOf i).toNat)
  case atStart => exact ⟨0, Nat.zero_le _, rfl, 0, rfl⟩
  case round =>
    obtain ⟨k, hk, rfl, n, hwr⟩ := hrel
    have r0 : wr.cell? ⟨p, 2, none⟩ = some (.slice a ls.length c) := by rw [hwr]; exact q0
    have r1 : wr.cell? ⟨p, 3, none⟩ = some (.slice a' ls.length c') := by rw [hwr]; exact q1
    by_cases hlt : k < ls.length
    · obtain ⟨g, c2, he, _, hj, hc, ho⟩ := HF.out.head rfl (fun _ => rfl) k hlt
      obtain ⟨g', c2', he', _, hj', hc', ho'⟩ := HF'.out.head rfl (fun _ => rfl) k hlt
      injection he with e1 e2 e3
      injection he' with e1' e2' e3'
      subst e1 e3 e1' e3'
      obtain ⟨x, y, hx, hsl⟩ := own_insD ho
      obtain ⟨x', y', hx', hsl'⟩ := own_insD ho'
      rw [hx] at hc
      rw [hx'] at hc'
      have hc : wr.cell? ⟨g, k, none⟩ = some (.slice x ls[k].length y) := by rw [hwr]; exact hc
      have hc' : wr.cell? ⟨g', k, none⟩ = some (.slice x' ls[k].length y') := by rw [hwr]; exact hc'
      have hlk := HL.out _ (List.getElem_mem hlt)
      have sm := fun m => sameInstrs_any (wr.drewN m) _ _ x x' ls[k] ls[k] y y' (show InsSlD (wr.drewN m) _ x ls[k] from by rw [hwr]; exact hsl) (show InsSlD (wr.drewN m) _ x' ls[k] from by rw [hwr]; exact hsl') (by omega) (by omega)
      rw [show decide (ls[k] = ls[k]) = true from by simp] at sm
      clear hx hx' hsl hsl' ho ho' hj hj'
      generalize ls[k] = l at *
      have SM := Lib.hid sm; clear sm
      have HWR := Lib.hid hwr; clear hwr
      go_wp2_with fail
      go_quiet ((go_at_call 41; exact Calls.quiet_of (SM.out _)))
      go_wp2_with fail
      go_roundw
      case rel => exact ⟨k + 1, by omega, by go_num, by rw [HWR.out]; exact ⟨_, by first | rfl | (simp; rfl)⟩⟩
      case measure => simp [intOf]; omega
    · skip
      have HWR := Lib.hid hwr; clear hwr
      go_wp2_with fail
      go_ret
      exact ⟨rfl, by rw [HWR.out]; exact ⟨_, rfl⟩⟩
end Go.Proofs.Ytmmdppjbofbjhaa
