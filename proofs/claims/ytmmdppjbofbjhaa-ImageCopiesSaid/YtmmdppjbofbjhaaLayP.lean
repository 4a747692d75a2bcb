/- Walk: image.Lay: a program's bytes. -/
import Derived.Test.YtmmdppjbofbjhaaWriterC
namespace Go.Proofs.Ytmmdppjbofbjhaa
open Go.ChangeShapes Go.WideShapes Go.ChangeAt Go.RowKit

def ShSl (w : World) (D : Nat → Prop) (a : Option Addr) (l : List (List Int)) : Prop := ∀ j (hj : j < l.length), ∃ b o, a = some ⟨b, o, none⟩ ∧ D b ∧ ∃ a' c', w.cell? ⟨b, o + j, none⟩ = some (.slice a' l[j].length c') ∧ IntSl w D a' l[j]
theorem ShSl.fr {F : Nat → Prop} {w w' : World} {D : Nat → Prop} {a : Option Addr} {l : List (List Int)} (h : ShSl w D a l) (hf : Fr F w w') (hd : ∀ k, D k → ¬ F k) : ShSl w' D a l := fun j hj => by
  obtain ⟨b, o, h1, h2, a', c', h3, h4⟩ := h j hj
  exact ⟨b, o, h1, h2, a', c', hf.cell h3 (hd b h2), h4.fr hf hd⟩
def FnSl (w : World) (D : Nat → Prop) (a : Option Addr) (l : List Fun) : Prop := ∀ j (hj : j < l.length), ∃ b o, a = some ⟨b, o, none⟩ ∧ D b ∧ ∃ c0 c1 c2 c3 c4, w.cell? ⟨b, o + j * 5, none⟩ = some c0 ∧ w.cell? ⟨b, o + j * 5 + 1, none⟩ = some c1 ∧ w.cell? ⟨b, o + j * 5 + 2, none⟩ = some c2 ∧ w.cell? ⟨b, o + j * 5 + 3, none⟩ = some c3 ∧ w.cell? ⟨b, o + j * 5 + 4, none⟩ = some c4 ∧ FunVal w D l[j] c0 c1 c2 c3 c4
theorem FnSl.fr {F : Nat → Prop} {w w' : World} {D : Nat → Prop} {a : Option Addr} {l : List Fun} (h : FnSl w D a l) (hf : Fr F w w') (hd : ∀ k, D k → ¬ F k) : FnSl w' D a l := fun j hj => by
  obtain ⟨b, o, h1, h2, c0, c1, c2, c3, c4, q0, q1, q2, q3, q4, h4⟩ := h j hj
  have hn := hd b h2
  exact ⟨b, o, h1, h2, c0, c1, c2, c3, c4, hf.cell q0 hn, hf.cell q1 hn, hf.cell q2 hn, hf.cell q3 hn, hf.cell q4 hn, h4.fr hf hd⟩
/-- a program's three cells -/
def PrgVal (w : World) (D : Nat → Prop) (p : Prg) (c0 c1 c2 : Value) : Prop :=
  (∃ a c, c0 = .slice a p.globals.length c ∧ IntSl w D a p.globals) ∧ (∃ a c, c1 = .slice a p.shapes.length c ∧ ShSl w D a p.shapes) ∧ ∃ a c, c2 = .slice a p.funcs.length c ∧ FnSl w D a p.funcs
theorem PrgVal.fr {F : Nat → Prop} {w w' : World} {D : Nat → Prop} {p : Prg} {c0 c1 c2 : Value} (h : PrgVal w D p c0 c1 c2) (hf : Fr F w w') (hd : ∀ k, D k → ¬ F k) : PrgVal w' D p c0 c1 c2 := by
  obtain ⟨⟨a, c, h1, h2⟩, ⟨a', c', h3, h4⟩, a'', c'', h5, h6⟩ := h
  exact ⟨⟨a, c, h1, h2.fr hf hd⟩, ⟨a', c', h3, h4.fr hf hd⟩, a'', c'', h5, h6.fr hf hd⟩
theorem PrgVal.dom {w : World} {D D' : Nat → Prop} {p : Prg} {c0 c1 c2 : Value} (h : PrgVal w D p c0 c1 c2) (hd : ∀ k, D k → D' k) : PrgVal w D' p c0 c1 c2 := by
  have hi : ∀ {a : Option Addr} {l : List Int}, IntSl w D a l → IntSl w D' a l := fun h j hj => by
    obtain ⟨b, o, h1, h2, h3⟩ := h j hj
    exact ⟨b, o, h1, hd b h2, h3⟩
  obtain ⟨⟨a, c, h1, h2⟩, ⟨a', c', h3, h4⟩, a'', c'', h5, h6⟩ := h
  refine ⟨⟨a, c, h1, hi h2⟩, ⟨a', c', h3, fun j hj => ?_⟩, a'', c'', h5, fun j hj => ?_⟩
  · obtain ⟨b, o, g1, g2, x, y, g3, g4⟩ := h4 j hj
    exact ⟨b, o, g1, hd b g2, x, y, g3, hi g4⟩
  · obtain ⟨b, o, g1, g2, c0, c1, c2, c3, c4, q0, q1, q2, q3, q4, e1, e2, ⟨x0, y0, e3, e4⟩, ⟨x1, y1, e5, e6⟩, x2, y2, e7, e8⟩ := h6 j hj
    refine ⟨b, o, g1, hd b g2, c0, c1, c2, c3, c4, q0, q1, q2, q3, q4, e1, e2, ⟨x0, y0, e3, hi e4⟩, ⟨x1, y1, e5, hi e6⟩, x2, y2, e7, fun i hi => ?_⟩
    obtain ⟨b', o', r1, r2, r3⟩ := e8 i hi
    exact ⟨b', o', r1, hd b' r2, r3⟩

def shBulk (f : List Int) : Nat := f.length
def fnBulk (f : Fun) : Nat := f.args.length + f.objects.length + f.code.length
/-- how many elements a program has -/
def bulk (p : Prg) : Nat := p.globals.length + p.shapes.length + p.funcs.length + (p.shapes.map shBulk).sum + (p.funcs.map fnBulk).sum
theorem sum_take {α : Type} (g : α → Nat) (l : List α) (k : Nat) (hk : k < l.length) : ((l.take k).map g).sum + g l[k] ≤ (l.map g).sum := by
  have h1 : ((l.take (k + 1)).map g).sum = ((l.take k).map g).sum + g l[k] := by
    rw [take_snoc l k hk, List.map_append, List.sum_append]; simp
  have h2 : (l.map g).sum = ((l.take (k + 1)).map g).sum + ((l.drop (k + 1)).map g).sum := by
    rw [← List.sum_append, ← List.map_append, List.take_append_drop]
  omega
theorem shapes_len (l : List (List Int)) : ∀ s, (l.foldl wList s).1.length = s.1.length + l.length + (l.map shBulk).sum := by
  induction l with
  | nil => intro s; simp
  | cons x l ih => intro s; rw [List.foldl_cons, ih, wList_len]; simp [shBulk]; omega
theorem wFn_len (s : List Int × Bool) (f : Fun) : (wFn s f).1.length ≤ s.1.length + 5 + 7 * fnBulk f := by
  have : (wFn s f).1.length = (wNums (wList (wNums (wList s f.args) [f.result, f.slots]) f.objects) [(f.code.length : Int)]).1.length + (if laid f.code then layL f.code else []).length := by
    exact List.length_append ..
  rw [this, wNums_len, wList_len, wNums_len, wList_len]
  unfold fnBulk
  have h2 : (if laid f.code then layL f.code else []).length ≤ 7 * f.code.length := by
    split
    · rw [layL_len]; exact Nat.le_refl _
    · exact Nat.zero_le _
  simp; omega
theorem funcs_len (l : List Fun) : ∀ s, (l.foldl wFn s).1.length ≤ s.1.length + 5 * l.length + 7 * (l.map fnBulk).sum := by
  induction l with
  | nil => intro s; simp
  | cons x l ih =>
    intro s
    rw [List.foldl_cons]
    have h1 := ih (wFn s x)
    have h2 := wFn_len s x
    simp at *; omega
def wHead (p : Prg) : List Int × Bool := wNums (wList ([], false) p.globals) [(p.shapes.length : Int)]
def wMid (p : Prg) : List Int × Bool := wNums (p.shapes.foldl wList (wHead p)) [(p.funcs.length : Int)]
def wProg (p : Prg) : List Int × Bool := p.funcs.foldl wFn (wMid p)
def layPRes (p : Prg) : Value := if (wProg p).2 then .tuple #[.string ⟨#[]⟩, .int .i64 1] else .tuple #[.string (bytesS (wProg p).1), .int .i64 0]
theorem wHead_len (p : Prg) : (wHead p).1.length = p.globals.length + 2 := by
  unfold wHead; rw [wNums_len, wList_len]; simp; omega
theorem wMid_len (p : Prg) : (wMid p).1.length = p.globals.length + p.shapes.length + (p.shapes.map shBulk).sum + 3 := by
  unfold wMid; rw [wNums_len, shapes_len, wHead_len]; simp; omega
theorem st_fn {wa w : World} {B p : Nat} {v v1 : Value} {s : List Int × Bool} (h : St wa B p v w v1 s) {D : Nat → Prop} (hD : Dom wa p v D) {f : Fun} {c0 c1 c2 c3 c4 : Value} (hf : FunVal wa D f c0 c1 c2 c3 c4)
    (hlen : s.1.length + f.args.length + f.objects.length + 7 * f.code.length ≤ 900000) (hcode : f.code.length ≤ 100000) :
    Calls Try.prog 116 #[.pointer (some ⟨p, 0, none⟩), .agg #[c0, c1, c2, c3, c4]] w fun e w' => e = .returned (.tuple #[]) ∧ ∃ v', St wa B p v w' v' (wFn s f) :=
  (fn_any w B p v1 s h.1 D f c0 c1 c2 c3 c4 (hf.fr h.2.1 (wr_clear hD)) (wr_dom hD h.2.1 h.2.2) hlen hcode).mono fun _ _ ⟨he, v', hp⟩ => ⟨he, v', h.trans hp⟩

set_option maxRecDepth 100000 in
set_option maxHeartbeats 3200000 in
theorem layP_any (w : World) (D : Nat → Prop) (pr : Prg) (c0 c1 c2 : Value) (hv : PrgVal w D pr c0 c1 c2) (hD : ∀ k, D k → k < w.heap.size) (hbulk : bulk pr ≤ 3000) :
    Calls Try.prog 58 #[.agg #[c0, c1, c2]] w fun e w' => e = .returned (layPRes pr) ∧ Below w.heap.size w w' := by
  obtain ⟨⟨a0, n0, rfl, hs0⟩, ⟨a1, n1, rfl, hs1⟩, a2, n2, rfl, hs2⟩ := hv
  unfold bulk at hbulk
  have hfr0 : Fr (fun _ => False) w ((w.alloc (.cells #[.slice a0 pr.globals.length n0, .slice a1 pr.shapes.length n1, .slice a2 pr.funcs.length n2] 71)).alloc (wrBlock (.slice none 0 0) false)) := ((Fr.refl _ _).alloc _).alloc _
  have hs0 := hs0.fr hfr0 (fun _ _ h => h)
  have hs1 := hs1.fr hfr0 (fun _ _ h => h)
  have hs2 := hs2.fr hfr0 (fun _ _ h => h)
  have hbox0 : ∀ j u, (#[Value.slice a0 pr.globals.length n0, .slice a1 pr.shapes.length n1, .slice a2 pr.funcs.length n2])[j]? = some u → ((w.alloc (.cells #[.slice a0 pr.globals.length n0, .slice a1 pr.shapes.length n1, .slice a2 pr.funcs.length n2] 71)).alloc (wrBlock (.slice none 0 0) false)).cell? ⟨w.heap.size, j, none⟩ = some u := fun j u hj => by
    rw [cell_under _ _ (by simp), cell_new]; exact hj
  have hwr : Wr ((w.alloc (.cells #[.slice a0 pr.globals.length n0, .slice a1 pr.shapes.length n1, .slice a2 pr.funcs.length n2] 71)).alloc (wrBlock (.slice none 0 0) false)) w.heap.size (w.heap.size + 1) (.slice none 0 0) [] false := by
    refine ⟨?_, Own.nil _ _ _, fun h => by simp [Value.ownBlock] at h, Nat.le_succ _⟩
    have := heap_new (w.alloc (.cells #[.slice a0 pr.globals.length n0, .slice a1 pr.shapes.length n1, .slice a2 pr.funcs.length n2] 71)) (wrBlock (.slice none 0 0) false)
    simpa using this
  have hsize : ((w.alloc (.cells #[.slice a0 pr.globals.length n0, .slice a1 pr.shapes.length n1, .slice a2 pr.funcs.length n2] 71)).alloc (wrBlock (.slice none 0 0) false)).heap.size = w.heap.size + 2 := by simp
  have hunf : wrBlock (.slice none 0 0) false = .cells #[.slice none 0 0, .bool false] 133 := rfl
  rw [hunf] at hfr0 hs0 hs1 hs2 hbox0 hwr hsize
  clear hunf
  generalize hwa : (w.alloc (.cells #[.slice a0 pr.globals.length n0, .slice a1 pr.shapes.length n1, .slice a2 pr.funcs.length n2] 71)).alloc (.cells #[.slice none 0 0, .bool false] 133) = wa at *
  have hdom : Dom wa (w.heap.size + 1) (.slice none 0 0) (fun k => D k ∨ k = w.heap.size) := by
    rintro k (hk | rfl)
    · have := hD k hk
      exact ⟨by omega, fun h => by simp [Value.ownBlock] at h, by omega⟩
    · exact ⟨by omega, fun h => by simp [Value.ownBlock] at h, by omega⟩
  have hdomD : Dom wa (w.heap.size + 1) (.slice none 0 0) D := fun k hk => hdom k (.inl hk)
  have hst0 : St wa w.heap.size (w.heap.size + 1) (.slice none 0 0) wa (.slice none 0 0) ([], false) := St.refl hwr
  have box : ∀ w1 v1 t, St wa w.heap.size (w.heap.size + 1) (.slice none 0 0) w1 v1 t → w1.cell? ⟨w.heap.size, 0, none⟩ = some (.slice a0 pr.globals.length n0) ∧ w1.cell? ⟨w.heap.size, 1, none⟩ = some (.slice a1 pr.shapes.length n1) ∧ w1.cell? ⟨w.heap.size, 2, none⟩ = some (.slice a2 pr.funcs.length n2) := fun w1 v1 t h =>
    ⟨h.keep hdom (.inr rfl) (hbox0 0 _ rfl), h.keep hdom (.inr rfl) (hbox0 1 _ rfl), h.keep hdom (.inr rfl) (hbox0 2 _ rfl)⟩
  have l1 := st_list hst0 hdomD n0 hs0 (by simp; omega)
  have l2 := fun w1 v1 (h : St wa w.heap.size (w.heap.size + 1) (.slice none 0 0) w1 v1 (wList ([], false) pr.globals)) => st_nums h [(pr.shapes.length : Int)] (by rw [wList_len]; simp; omega)
  have l3 := fun k (hk : k < pr.shapes.length) w1 v1 (h : St wa w.heap.size (w.heap.size + 1) (.slice none 0 0) w1 v1 ((pr.shapes.take k).foldl wList (wHead pr))) =>
    (show ∃ b o, a1 = some ⟨b, o, none⟩ ∧ ∃ a' c', w1.cell? ⟨b, o + k, none⟩ = some (.slice a' pr.shapes[k].length c') ∧ ∀ (ob : Obj), Calls Try.prog 114 #[.pointer (some ⟨w.heap.size + 1, 0, none⟩), .slice a' pr.shapes[k].length c'] (w1.alloc ob) fun e w' => e = .returned (.tuple #[]) ∧ ∃ v', St wa w.heap.size (w.heap.size + 1) (.slice none 0 0) w' v' ((pr.shapes.take (k + 1)).foldl wList (wHead pr)) from by
      obtain ⟨b, o, h1, h2, a', c', h3, h4⟩ := hs1 k hk
      refine ⟨b, o, h1, a', c', h.keep hdomD h2 h3, fun ob => ?_⟩
      rw [take_snoc _ k hk, List.foldl_append, List.foldl_cons, List.foldl_nil]
      refine st_list (h.alloc ob) hdomD c' h4 ?_
      rw [shapes_len, wHead_len]
      have := sum_take shBulk pr.shapes k hk
      have h5 : ((pr.shapes.take k).length) ≤ pr.shapes.length := List.length_take_le' _ _
      unfold shBulk at *
      omega)
  have l4 := fun w1 v1 (h : St wa w.heap.size (w.heap.size + 1) (.slice none 0 0) w1 v1 (pr.shapes.foldl wList (wHead pr))) => st_nums h [(pr.funcs.length : Int)] (by rw [shapes_len, wHead_len]; simp; omega)
  have l5 := fun k (hk : k < pr.funcs.length) w1 v1 (h : St wa w.heap.size (w.heap.size + 1) (.slice none 0 0) w1 v1 ((pr.funcs.take k).foldl wFn (wMid pr))) =>
    (show ∃ b o, a2 = some ⟨b, o, none⟩ ∧ ∃ c0 c1 c2 c3 c4, w1.cell? ⟨b, o + k * 5, none⟩ = some c0 ∧ w1.cell? ⟨b, o + k * 5 + 1, none⟩ = some c1 ∧ w1.cell? ⟨b, o + k * 5 + 2, none⟩ = some c2 ∧ w1.cell? ⟨b, o + k * 5 + 3, none⟩ = some c3 ∧ w1.cell? ⟨b, o + k * 5 + 4, none⟩ = some c4 ∧
        (∃ x0 y0 z0 x3 y3 z3 x4 y4 z4 r s, c0 = .slice x0 y0 z0 ∧ c1 = .int .i64 r ∧ c2 = .int .i64 s ∧ c3 = .slice x3 y3 z3 ∧ c4 = .slice x4 y4 z4) ∧
        ∀ (ob : Obj), Calls Try.prog 116 #[.pointer (some ⟨w.heap.size + 1, 0, none⟩), .agg #[c0, c1, c2, c3, c4]] (w1.alloc ob) fun e w' => e = .returned (.tuple #[]) ∧ ∃ v', St wa w.heap.size (w.heap.size + 1) (.slice none 0 0) w' v' ((pr.funcs.take (k + 1)).foldl wFn (wMid pr)) from by
      obtain ⟨b, o, h1, h2, c0, c1, c2, c3, c4, q0, q1, q2, q3, q4, h4⟩ := hs2 k hk
      refine ⟨b, o, h1, c0, c1, c2, c3, c4, h.keep hdomD h2 q0, h.keep hdomD h2 q1, h.keep hdomD h2 q2, h.keep hdomD h2 q3, h.keep hdomD h2 q4, ?_, fun ob => ?_⟩
      · obtain ⟨e1, e2, ⟨x0, z0, e3, _⟩, ⟨x3, z3, e4, _⟩, x4, z4, e5, _⟩ := h4
        exact ⟨x0, _, z0, x3, _, z3, x4, _, z4, _, _, e3, e1, e2, e4, e5⟩
      rw [take_snoc _ k hk, List.foldl_append, List.foldl_cons, List.foldl_nil]
      have h6 := funcs_len (pr.funcs.take k) (wMid pr)
      rw [wMid_len] at h6
      have := sum_take fnBulk pr.funcs k hk
      have h5 : ((pr.funcs.take k).length) ≤ pr.funcs.length := List.length_take_le' _ _
      have h7 : fnBulk pr.funcs[k] = pr.funcs[k].args.length + pr.funcs[k].objects.length + pr.funcs[k].code.length := rfl
      refine st_fn (h.alloc ob) hdomD h4 ?_ ?_
      · omega
      · omega)
  have fin : ∀ w1 v1 t, St wa w.heap.size (w.heap.size + 1) (.slice none 0 0) w1 v1 t → Below w.heap.size w w1 := fun w1 v1 t h => by
    have h1 : Below w.heap.size w wa := by rw [← hwa]; exact ((Below.refl _ _).alloc (Nat.le_refl _) _).alloc (by simp) _
    refine h1.trans (h.2.1.below (by omega) (fun k hk => ?_))
    rcases hk with rfl | hk
    · omega
    · simp [Value.ownBlock] at hk
  have hb1 : pr.shapes.length ≤ 3000 := by omega
  have hb2 : pr.funcs.length ≤ 3000 := by omega
  clear hs0 hs1 hs2 hfr0 hdom hdomD hst0 hbox0 hD hbulk hwr hsize
  have HWA := Lib.hid hwa; clear hwa
  have BOX := Lib.hid box; clear box
  have L1 := Lib.hid l1; clear l1
  have L2 := Lib.hid l2; clear l2
  have L3 := Lib.hid l3; clear l3
  have L4 := Lib.hid l4; clear l4
  have L5 := Lib.hid l5; clear l5
  have FIN := Lib.hid fin; clear fin
  go_enter Try.func58, Try.ntmps58
  go_wp2_with fail
  rw [HWA.out]
  refine L1.out.mono ?_
  rintro e w1 ⟨rfl, v1, hst1⟩
  obtain ⟨_, q1, _⟩ := BOX.out _ _ _ hst1
  have L2' := Lib.hid (L2.out _ _ hst1)
  clear hst1
  go_wp2_with fail
  refine L2'.out.mono ?_
  rintro e w2 ⟨rfl, v2, hst2⟩
  clear q1
  obtain ⟨_, q1, _⟩ := BOX.out _ _ _ hst2
  have HST2 := Lib.hid hst2; clear hst2
  go_wp2_with fail
  clear q1
  go_loopw [24] (fun i wr => ∃ k : Nat, k ≤ pr.shapes.length ∧ i = .int .i64 k ∧ ∃ v', St wa w.heap.size (w.heap.size + 1) (.slice none 0 0) wr v' ((pr.shapes.take k).foldl wList (wHead pr))) (fun i _ => pr.shapes.length - (intOf i).toNat)
  case atStart => exact ⟨0, Nat.zero_le _, rfl, v2, HST2.out⟩
  case round =>
    obtain ⟨k, hk, rfl, v3, hst3⟩ := hrel
    by_cases hlt : k < pr.shapes.length
    · obtain ⟨b, o, rfl, a', c', hq, hcall⟩ := L3.out k hlt _ _ hst3
      have HC := Lib.hid hcall
      clear hcall hst3
      go_wp2_with fail
      refine (HC.out _).mono ?_
      rintro e w4 ⟨rfl, v4, hst4⟩
      have HST4 := Lib.hid hst4; clear hst4 hq
      go_wp2_with fail
      go_roundw
      case rel => exact ⟨k + 1, by omega, by go_num, v4, HST4.out⟩
      case measure => simp [intOf]; omega
    · have hk' : k = pr.shapes.length := by omega
      subst hk'
      rw [List.take_length] at hst3
      obtain ⟨_, _, q2⟩ := BOX.out _ _ _ hst3
      have L4' := Lib.hid (L4.out _ _ hst3)
      clear hst3
      go_wp2_with fail
      refine L4'.out.mono ?_
      rintro e w4 ⟨rfl, v4, hst4⟩
      clear q2
      obtain ⟨_, _, q2⟩ := BOX.out _ _ _ hst4
      have HST4 := Lib.hid hst4; clear hst4
      go_wp2_with fail
      clear q2
      go_loopw [42] (fun i wr => ∃ k : Nat, k ≤ pr.funcs.length ∧ i = .int .i64 k ∧ ∃ v', St wa w.heap.size (w.heap.size + 1) (.slice none 0 0) wr v' ((pr.funcs.take k).foldl wFn (wMid pr))) (fun i _ => pr.funcs.length - (intOf i).toNat)
      case atStart => exact ⟨0, Nat.zero_le _, rfl, v4, HST4.out⟩
      case round =>
        obtain ⟨k, hk, rfl, v5, hst5⟩ := hrel
        by_cases hlt : k < pr.funcs.length
        · obtain ⟨b, o, rfl, c0, c1, c2, c3, c4, p0, p1, p2, p3, p4, ⟨x0, y0, z0, x3, y3, z3, x4, y4, z4, r, s, rfl, rfl, rfl, rfl, rfl⟩, hcall⟩ := L5.out k hlt _ _ hst5
          have HC := Lib.hid hcall
          clear hcall hst5
          go_wp2_with fail
          refine (HC.out _).mono ?_
          rintro e w6 ⟨rfl, v6, hst6⟩
          have HST6 := Lib.hid hst6; clear hst6 p0 p1 p2 p3 p4
          go_wp2_with fail
          go_roundw
          case rel => exact ⟨k + 1, by omega, by go_num, v6, HST6.out⟩
          case measure => simp [intOf]; omega
        · have hk' : k = pr.funcs.length := by omega
          subst hk'
          rw [List.take_length] at hst5
          obtain ⟨q0, q1, _, _⟩ := two_cells (show _ = some (Obj.cells #[v5, .bool (wProg pr).2] 133) from hst5.1.1)
          have hcv := own_str hst5.1.2.1
          have hF := FIN.out _ _ _ hst5
          have hres : layPRes pr = if (wProg pr).2 then .tuple #[.string ⟨#[]⟩, .int .i64 1] else .tuple #[.string (bytesS (wProg pr).1), .int .i64 0] := rfl
          have hw1 : pr.funcs.foldl wFn (wMid pr) = wProg pr := rfl
          rw [hw1] at hcv
          clear hst5 hw1
          generalize wProg pr = t at *
          obtain ⟨t1, t2⟩ := t
          dsimp only at q1 hcv hres
          cases t2
          all_goals
            have HF := Lib.hid hF
            have HR := Lib.hid hres
            clear hF hres
            go_wp2_with fail
            go_ret2
            exact ⟨by rw [HR.out]; rfl, HF.out⟩
end Go.Proofs.Ytmmdppjbofbjhaa
