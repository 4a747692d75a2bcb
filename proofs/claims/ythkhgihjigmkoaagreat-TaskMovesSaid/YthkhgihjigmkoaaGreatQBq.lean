/- Walk: TaskNeeds, behind its first call. Frames of seven words, each with its own slots. No program is walked here, but for Set, Slot and Pop that are told again. TaskMoves, plainly: the frames, one round after the other; each call at such a task. TaskMoves: each call at such a task. -/
import Derived.Test.YthkhgihjigmkoaaGreatQAs
import Derived.Test.YthkhgihjigmkoaaGreatQAo
import Derived.Test.YthkhgihjigmkoaaGreatQBp
set_option linter.unusedVariables false
set_option linter.unusedSimpArgs false
namespace Go.Proofs.YthkhgihjigmkoaaGreat.Tk
open Go.ChangeShapes Go.WideShapes Go.ChangeAt Go.RowKit Go.Maps
theorem w10 : wordsN p1 (0 : Nat) = 7 := by decide
theorem w11 : wordsN p1 (1 : Nat) = 7 := by decide
/-- d frames of seven words -/
def Inv (T : Tk) (d wl : Nat) : Prop := T.words.length = wl ∧ T.parts.length = d ∧ T.marks.length = d ∧ ∀ k (hk : k < T.parts.length), T.parts[k].base = ((7 * k : Nat) : Int) ∧ (T.parts[k].fn = ((0 : Nat) : Int) ∨ T.parts[k].fn = ((1 : Nat) : Int))
theorem Inv.ok {T : Tk} {d wl : Nat} (h : Inv T d wl) (hd : d ≤ 100) (hw : wl ≤ 1000) : TkOk T := by
  obtain ⟨h1, h2, h3, h4⟩ := h
  refine ⟨by omega, by omega, by omega, fun q hq => ?_⟩
  obtain ⟨k, hk, rfl⟩ := List.getElem_of_mem hq
  rw [(h4 k hk).1]
  omega
theorem Inv.used {T : Tk} {d wl : Nat} (h : Inv T d wl) (hd : 1 ≤ d) : usedN p1 T = ((7 * d : Nat) : Int) := by
  obtain ⟨h1, h2, h3, h4⟩ := h
  obtain ⟨n, rfl⟩ : ∃ n, d = n + 1 := ⟨d - 1, by omega⟩
  rw [usedN_last h2, (h4 n (by omega)).1]
  rcases (h4 n (by omega)).2 with e | e
  · rw [e, w10]; omega
  · rw [e, w11]; omega
theorem Inv.start (wl : Nat) (base : Int) : Inv (enterT ⟨base, List.replicate wl 0, [], []⟩ 0 7 0 (-1) []) 1 wl := by
  refine ⟨?_, rfl, rfl, fun k hk => ?_⟩
  · show (setArgs (clearL (List.replicate wl 0) 0 7) 0 [] 0).length = wl
    rw [setArgs_len, clearL_len, List.length_replicate]
  · have hk2 : k < 1 := hk
    obtain rfl : k = 0 := by omega
    exact ⟨rfl, .inl rfl⟩
theorem Inv.step {T : Tk} {d wl : Nat} (h : Inv T d wl) (al : List Int) : Inv (enterT T (7 * d) 7 1 (-1) al) (d + 1) wl := by
  obtain ⟨h1, h2, h3, h4⟩ := h
  refine ⟨?_, ?_, ?_, fun k hk => ?_⟩
  · show (setArgs (clearL T.words (7 * d) 7) (7 * d) al al.length).length = wl
    rw [setArgs_len, clearL_len, h1]
  · show (T.parts ++ [_]).length = d + 1
    rw [List.length_append, h2]; rfl
  · show (T.marks ++ [_]).length = d + 1
    rw [List.length_append, h3]; rfl
  · by_cases hkd : k < T.parts.length
    · have e : (enterT T (7 * d) 7 1 (-1) al).parts[k] = T.parts[k] := List.getElem_append_left hkd
      rw [e]
      exact h4 k hkd
    · have hk2 : k < (T.parts ++ [(⟨(1 : Nat), 0, (7 * d : Nat), -1, none, 0, 0⟩ : Part)]).length := hk
      rw [List.length_append] at hk2
      have hk3 : k = T.parts.length := by simp at hk2; omega
      subst hk3
      have e : (enterT T (7 * d) 7 1 (-1) al).parts[T.parts.length] = ⟨(1 : Nat), 0, (7 * d : Nat), -1, none, 0, 0⟩ := by
        show (T.parts ++ [(⟨(1 : Nat), 0, (7 * d : Nat), -1, none, 0, 0⟩ : Part)])[T.parts.length] = _
        simp
      rw [e, h2]
      exact ⟨rfl, .inr rfl⟩
end Go.Proofs.YthkhgihjigmkoaaGreat.Tk
namespace Go.Proofs.YthkhgihjigmkoaaGreat.Tk
open Go.ChangeShapes Go.WideShapes Go.ChangeAt Go.RowKit Go.Maps
theorem clearL_get (l : List Int) (o n : Nat) (hl : o + n ≤ l.length) (k : Nat) : (clearL l o n)[k]? = if o ≤ k ∧ k < o + n then some 0 else l[k]? := by
  unfold clearL
  induction n with
  | zero => simp; intro h h2; omega
  | succ n ih =>
    have ih := ih (by omega)
    have hlen : (clearL l o n).length = l.length := clearL_len l o n
    unfold clearL at hlen
    rw [List.range_succ, List.foldl_append]
    simp only [List.foldl_cons, List.foldl_nil]
    rw [List.getElem?_set]
    by_cases hk : o + n = k
    · subst hk
      rw [if_pos rfl, if_pos (by rw [hlen]; omega), if_pos (by omega)]
    · rw [if_neg hk, ih]
      by_cases h2 : o ≤ k ∧ k < o + n
      · rw [if_pos h2, if_pos (by omega)]
      · rw [if_neg h2, if_neg (by omega)]
/-- one word is set -/
def setT (T : Tk) (o : Nat) (v : Int) : Tk := ⟨T.base, T.words.set o v, T.parts, T.marks⟩
end Go.Proofs.YthkhgihjigmkoaaGreat.Tk
namespace Go.Proofs.YthkhgihjigmkoaaGreat.Tk
open Go.ChangeShapes Go.WideShapes Go.ChangeAt Go.RowKit Go.Maps
/-- d frames that stand at 1, with their places, and one on top that stands at pc -/
structure MI (T : Tk) (d wl : Nat) (v pc : Int) : Prop where
  wlen : T.words.length = wl
  pl : T.parts.length = d + 1
  ml : T.marks.length = d + 1
  big : 7 * (d + 1) ≤ wl
  pt : ∀ k (hk : k < T.parts.length), T.parts[k].base = ((7 * k : Nat) : Int) ∧ T.parts[k].fn = (((if k = 0 then 0 else 1) : Nat) : Int) ∧ T.parts[k].tn = 0 ∧ (k < d → T.parts[k].pc = 1) ∧ (k = d → T.parts[k].pc = pc)
  wd : ∀ k, k < d → T.words[7 * k + 4]? = some (T.base + ((7 * k + 5 : Nat) : Int)) ∧ T.words[7 * k + 6]? = some (IntKind.i64.wrap (v + (k : Int)))
theorem fn01 (k : Nat) : (if k = 0 then 0 else 1) < p1.funcs.length := by show (if k = 0 then 0 else 1) < 2; split <;> omega
theorem w01 (k : Nat) : wordsN p1 (((if k = 0 then 0 else 1) : Nat) : Int) = 7 := by split <;> decide
theorem f01 (k : Nat) : (p1.funcs[if k = 0 then 0 else 1]'(fn01 k)).slots = 3 ∧ (p1.funcs[if k = 0 then 0 else 1]'(fn01 k)).objects = [0] := by
  by_cases h : k = 0
  · simp [h, p1]
  · simp [h, p1]
theorem MI.inv {T : Tk} {d wl : Nat} {v pc : Int} (h : MI T d wl v pc) : Inv T (d + 1) wl := ⟨h.wlen, h.pl, h.ml, fun k hk => ⟨(h.pt k hk).1, by
  rw [(h.pt k hk).2.1]
  by_cases e : k = 0
  · rw [if_pos e]; exact .inl rfl
  · rw [if_neg e]; exact .inr rfl⟩⟩
theorem MI.ok {T : Tk} {d wl : Nat} {v pc : Int} (h : MI T d wl v pc) (hd : d ≤ 30) (hw : wl ≤ 1000) : TkOk T := h.inv.ok (by omega) hw
theorem MI.used {T : Tk} {d wl : Nat} {v pc : Int} (h : MI T d wl v pc) : usedN p1 T = ((7 * (d + 1) : Nat) : Int) := h.inv.used (by omega)
theorem MI.ins {T : Tk} {d wl : Nat} {v pc : Int} (h : MI T d wl v pc) : ∀ q ∈ T.parts, ∃ j : Nat, j < p1.funcs.length ∧ q.fn = j := fun q hq => by
  obtain ⟨k, hk, rfl⟩ := List.getElem_of_mem hq
  exact ⟨_, fn01 k, (h.pt k hk).2.1⟩
theorem MI.start (wl : Nat) (hwl : 7 ≤ wl) (base v : Int) : MI (enterT ⟨base, List.replicate wl 0, [], []⟩ 0 7 0 (-1) []) 0 wl v 0 where
  wlen := by
    show (setArgs (clearL (List.replicate wl 0) 0 7) 0 [] 0).length = wl
    rw [setArgs_len, clearL_len, List.length_replicate]
  pl := rfl
  ml := rfl
  big := by omega
  pt := fun k hk => by
    have hk2 : k < 1 := hk
    obtain rfl : k = 0 := by omega
    exact ⟨rfl, rfl, rfl, fun h => absurd h (Nat.not_lt_zero _), fun _ => rfl⟩
  wd := fun k hk => absurd hk (Nat.not_lt_zero _)
/-- the bits of a frame's places -/
def bitD (d k : Nat) : Nat := if k < d then 4 else 0
theorem bit4 (k : Nat) : (4 : Nat).testBit k = true ↔ k = 2 := by
  have := @Nat.testBit_two_pow 2 k
  rw [show (4 : Nat) = 2 ^ 2 from rfl, this]
  constructor
  · intro h; have := of_decide_eq_true h; omega
  · rintro rfl; rfl
theorem bitD_hit {d k j : Nat} : (bitD d k).testBit j = true ↔ k < d ∧ j = 2 := by
  unfold bitD
  split
  · next h => rw [bit4]; exact ⟨fun e => ⟨h, e⟩, fun e => e.2⟩
  · next h => simp [h]
theorem hit_iff {T : Tk} {d wl : Nat} {v pc : Int} (h : MI T d wl v pc) (o : Nat) : hitS T (bitD d) T.parts.length 0 o ↔ ∃ k, k < d ∧ o = 7 * k + 4 := by
  have hpl := h.pl
  constructor
  · rintro ⟨k, j, hk, _, h2, h3⟩
    obtain ⟨h4, rfl⟩ := bitD_hit.1 h2
    rw [(h.pt k hk).1] at h3
    exact ⟨k, h4, by omega⟩
  · rintro ⟨k, hk, rfl⟩
    exact ⟨k, 2, by omega, .inl (by omega), bitD_hit.2 ⟨hk, rfl⟩, by rw [(h.pt k (by omega)).1]; omega⟩
theorem MI.other {T : Tk} {d wl : Nat} {v pc : Int} (h : MI T d wl v pc) {nb : Int} {n : Nat} {L : List Int} (hm : MvL T (bitD d) nb n T.parts.length 0 L) (o : Nat) (hn : o < n) (hw : o < wl) (ho : ∀ k, k < d → o ≠ 7 * k + 4) : L[o]? = T.words[o]? := by
  rw [(hm.2 o hn).2 (fun hh => by obtain ⟨k, hk, e⟩ := (hit_iff h o).1 hh; exact ho k hk e)]
  have hwl := h.wlen
  rw [List.getD_eq_getElem?_getD, List.getElem?_eq_getElem (by omega)]
  rfl
theorem MI.place {T : Tk} {d wl : Nat} {v pc : Int} (h : MI T d wl v pc) {nb : Int} {n : Nat} {L : List Int} (hm : MvL T (bitD d) nb n T.parts.length 0 L) (hn : 7 * (d + 1) ≤ n) (k : Nat) (hk : k < d) : L[7 * k + 4]? = some (nb + ((7 * k + 5 : Nat) : Int)) := by
  have hwl := h.wlen
  have hbig := h.big
  rw [(hm.2 _ (by omega)).1 ((hit_iff h _).2 ⟨k, hk, rfl⟩)]
  rw [List.getD_eq_getElem?_getD, (h.wd k hk).1]
  simp only [Option.getD_some]
  unfold movedI
  rw [if_pos (by omega), if_pos (by omega)]
  congr 1
  omega
theorem MI.move {T : Tk} {d wl : Nat} {v pc : Int} (h : MI T d wl v pc) {nb : Int} {n : Nat} {L : List Int} (hm : MvL T (bitD d) nb n T.parts.length 0 L) (hn : 7 * (d + 1) ≤ n) : MI ⟨nb, L, T.parts, T.marks⟩ d n v pc where
  wlen := hm.1
  pl := h.pl
  ml := h.ml
  big := hn
  pt := h.pt
  wd := fun k hk => by
    have hbig := h.big
    refine ⟨h.place hm hn k hk, ?_⟩
    have := h.other hm (7 * k + 6) (by omega) (by omega) (fun j hj => by omega)
    exact this.trans (h.wd k hk).2
theorem MI.split {T : Tk} {d wl : Nat} {v pc : Int} (h : MI T d wl v pc) : ∃ P q, T.parts = P ++ [q] ∧ P.length = d := by
  have hne : T.parts ≠ [] := fun e => by have := h.pl; rw [e] at this; cases this
  have hd := List.dropLast_concat_getLast hne
  exact ⟨_, _, hd.symm, by rw [List.length_dropLast, h.pl]; rfl⟩
theorem MI.goto {T : Tk} {d wl : Nat} {v pc : Int} (h : MI T d wl v pc) {P : List Part} {q : Part} (hP : T.parts = P ++ [q]) (hl : P.length = d) (x : Int) : MI ⟨T.base, T.words, P ++ [⟨q.fn, x, q.base, q.ret, q.ta, q.tn, q.tc⟩], T.marks⟩ d wl v x where
  wlen := h.wlen
  pl := by show (P ++ [_]).length = d + 1; rw [List.length_append, hl]; rfl
  ml := h.ml
  big := h.big
  pt := fun k hk => by
    have hk2 : k < (P ++ [(⟨q.fn, x, q.base, q.ret, q.ta, q.tn, q.tc⟩ : Part)]).length := hk
    have hk3 : k < T.parts.length := by rw [hP]; simpa using hk2
    obtain ⟨h1, h2, h3, h4, h5⟩ := h.pt k hk3
    have e0 : T.parts[k] = (P ++ [q])[k]'(by simpa using hk2) := by simp only [hP]
    rcases Nat.lt_or_ge k P.length with hlt | hge
    · have e1 : (P ++ [(⟨q.fn, x, q.base, q.ret, q.ta, q.tn, q.tc⟩ : Part)])[k] = T.parts[k] := by rw [e0, List.getElem_append_left hlt, List.getElem_append_left hlt]
      show ((P ++ [(⟨q.fn, x, q.base, q.ret, q.ta, q.tn, q.tc⟩ : Part)])[k]).base = _ ∧ ((P ++ [(⟨q.fn, x, q.base, q.ret, q.ta, q.tn, q.tc⟩ : Part)])[k]).fn = _ ∧ ((P ++ [(⟨q.fn, x, q.base, q.ret, q.ta, q.tn, q.tc⟩ : Part)])[k]).tn = 0 ∧ (k < d → ((P ++ [(⟨q.fn, x, q.base, q.ret, q.ta, q.tn, q.tc⟩ : Part)])[k]).pc = 1) ∧ (k = d → ((P ++ [(⟨q.fn, x, q.base, q.ret, q.ta, q.tn, q.tc⟩ : Part)])[k]).pc = x)
      rw [e1]
      exact ⟨h1, h2, h3, h4, fun e => by omega⟩
    · have hkd : k = P.length := by simp at hk2; omega
      subst hkd
      have e2 : T.parts[P.length] = q := by rw [e0]; simp
      rw [e2] at h1 h2 h3
      have e1 : (P ++ [(⟨q.fn, x, q.base, q.ret, q.ta, q.tn, q.tc⟩ : Part)])[P.length] = ⟨q.fn, x, q.base, q.ret, q.ta, q.tn, q.tc⟩ := by simp
      show ((P ++ [(⟨q.fn, x, q.base, q.ret, q.ta, q.tn, q.tc⟩ : Part)])[P.length]).base = _ ∧ ((P ++ [(⟨q.fn, x, q.base, q.ret, q.ta, q.tn, q.tc⟩ : Part)])[P.length]).fn = _ ∧ ((P ++ [(⟨q.fn, x, q.base, q.ret, q.ta, q.tn, q.tc⟩ : Part)])[P.length]).tn = 0 ∧ (P.length < d → ((P ++ [(⟨q.fn, x, q.base, q.ret, q.ta, q.tn, q.tc⟩ : Part)])[P.length]).pc = 1) ∧ (P.length = d → ((P ++ [(⟨q.fn, x, q.base, q.ret, q.ta, q.tn, q.tc⟩ : Part)])[P.length]).pc = x)
      rw [e1]
      exact ⟨h1, h2, h3, fun e => by omega, fun _ => rfl⟩
  wd := h.wd
theorem MI.set {T : Tk} {d wl : Nat} {v pc : Int} (h : MI T d wl v pc) (o : Nat) (ho : 7 * d ≤ o) (x : Int) : MI (setT T o x) d wl v pc where
  wlen := by show (T.words.set o x).length = wl; rw [List.length_set, h.wlen]
  pl := h.pl
  ml := h.ml
  big := h.big
  pt := h.pt
  wd := fun k hk => by
    obtain ⟨h1, h2⟩ := h.wd k hk
    refine ⟨?_, ?_⟩
    · show (T.words.set o x)[7 * k + 4]? = _
      rw [List.getElem?_set_ne (by omega)]; exact h1
    · show (T.words.set o x)[7 * k + 6]? = _
      rw [List.getElem?_set_ne (by omega)]; exact h2
/-- a task behind an Enter of the second function -/
def nextM (T : Tk) (d : Nat) (a b : Int) : Tk := enterT T (7 * (d + 1)) 7 1 0 [a, b]
theorem MI.enter {T : Tk} {d wl : Nat} {v : Int} (h : MI T d wl v 1) (hn : 7 * (d + 2) ≤ wl) (a b : Int) (h4 : T.words[7 * d + 4]? = some (T.base + ((7 * d + 5 : Nat) : Int))) (h6 : T.words[7 * d + 6]? = some (IntKind.i64.wrap (v + (d : Int)))) : MI (nextM T d a b) (d + 1) wl v 0 := by
  have hw : (nextM T d a b).words = ((clearL T.words (7 * (d + 1)) 7).set (7 * (d + 1) + (2 + 0)) a).set (7 * (d + 1) + (2 + 1)) b := rfl
  have hold : ∀ o, o < 7 * (d + 1) → (nextM T d a b).words[o]? = T.words[o]? := fun o ho => by
    rw [hw, List.getElem?_set_ne (by omega), List.getElem?_set_ne (by omega), clearL_get T.words _ _ (by rw [h.wlen]; omega) o, if_neg (by omega)]
  refine ⟨?_, ?_, ?_, hn, fun k hk => ?_, fun k hk => ?_⟩
  · rw [hw, List.length_set, List.length_set, clearL_len, h.wlen]
  · show (T.parts ++ [_]).length = d + 1 + 1
    rw [List.length_append, h.pl]; rfl
  · show (T.marks ++ [_]).length = d + 1 + 1
    rw [List.length_append, h.ml]; rfl
  · by_cases hkd : k < T.parts.length
    · have e : (nextM T d a b).parts[k] = T.parts[k] := List.getElem_append_left hkd
      rw [e]
      obtain ⟨h1, h2, h3, h5, h7⟩ := h.pt k hkd
      have hpl := h.pl
      refine ⟨h1, h2, h3, fun _ => ?_, fun e => by omega⟩
      rcases Nat.lt_or_ge k d with h8 | h8
      · exact h5 h8
      · exact h7 (by omega)
    · have hk2 : k < (T.parts ++ [(⟨(1 : Nat), 0, (7 * (d + 1) : Nat), 0, none, 0, 0⟩ : Part)]).length := hk
      rw [List.length_append] at hk2
      have hk3 : k = T.parts.length := by simp at hk2; omega
      subst hk3
      have e : (nextM T d a b).parts[T.parts.length] = ⟨(1 : Nat), 0, (7 * (d + 1) : Nat), 0, none, 0, 0⟩ := by
        show (T.parts ++ [(⟨(1 : Nat), 0, (7 * (d + 1) : Nat), 0, none, 0, 0⟩ : Part)])[T.parts.length] = _
        simp
      rw [e, h.pl]
      exact ⟨rfl, by rw [if_neg (by omega)], rfl, fun h => absurd h (Nat.lt_irrefl _), fun _ => rfl⟩
  · rw [hold _ (by omega), hold _ (by omega)]
    by_cases hf2 : k < d
    · exact h.wd k hf2
    · obtain rfl : k = d := by omega
      exact ⟨h4, h6⟩
end Go.Proofs.YthkhgihjigmkoaaGreat.Tk
namespace Go.Proofs.YthkhgihjigmkoaaGreat.Tk
open Go.ChangeShapes Go.WideShapes Go.ChangeAt Go.RowKit Go.Maps
theorem tO_len {i q : Nat} {K : List Int} (h : tblF (tO i) q = some K) : K.length ≤ 16 := by
  unfold tblF tO at h
  split at h
  · rcases q with _ | _ | q
    · injection h with h; rw [← h]; decide
    · injection h with h; rw [← h]; decide
    · cases h
  · rcases q with _ | _ | q
    · injection h with h; rw [← h]; decide
    · injection h with h; rw [← h]; decide
    · cases h
theorem plF {w : World} {B mb b nm : Nat} {V : Nat → Prop} {Ms : Nat → Flo} (hMs : ∀ i, i < pO.funcs.length → Ms i = tblF (tO i)) (h : MapsAt w B mb b nm V (allM pO.funcs.length Ms)) (i q : Nat) (hi : i ≤ 1) (hq : q ≤ 1) :
    Calls Tryz.prog 49 #[.pointer (some ⟨mb, 0, none⟩), .int .i64 i, .int .i64 q] w fun e w' => e = .returned (.int .u16 ((if q = 1 then 4 else 0 : Nat) : Int)) ∧ Below w.heap.size w w' := by
  have hI : i64B (i : Int) ∧ i64B (q : Int) := ⟨⟨by omega, by omega⟩, ⟨by omega, by omega⟩⟩
  have hcl : ∀ x K, allM pO.funcs.length Ms x = some K → K.length ≤ 16 := fun x K hx => by
    unfold allM at hx
    split at hx
    · next h1 =>
      split at hx
      · rw [hMs _ (by have := h1.2; omega)] at hx
        exact tO_len hx
      · cases hx
    · cases hx
  have := mplaces_any w B mb b nm V _ h (i : Int) (q : Int) hI hcl
  have e : allM pO.funcs.length Ms ⟨((i : Int), (q : Int)), hI⟩ = tblF (tO i) q := by
    unfold allM
    have hl : pO.funcs.length = 2 := rfl
    rw [if_pos (by rw [hl]; simp; omega), if_pos (by simp)]
    simp only [Int.toNat_natCast]
    rw [hMs i (by rw [hl]; omega)]
  rw [e] at this
  have hi2 : i = 0 ∨ i = 1 := by omega
  have hq2 : q = 0 ∨ q = 1 := by omega
  rcases hi2 with rfl | rfl <;> rcases hq2 with rfl | rfl <;> exact this
set_option maxRecDepth 100000 in
theorem move_less (w : World) (F : Nat → Prop) (tb : Nat) (p : TPrg) (T : Tk) (X : TB) (h : TaskAt w F tb p T X) (hp : PSmall p) (ht : TkOk T) (mv : Value) (s n : Int) (hn : n < usedN p T) :
    Calls Tryz.prog 14 #[.pointer (some ⟨tb, 0, none⟩), mv, .int .i64 s, .int .i64 n] w fun e w' => e = .returned (.bool false) ∧ Below w.heap.size w w' := by
  have us := used_any w F tb p T X h hp ht
  generalize usedN p T = un at *
  clear h ht hp
  have US := Lib.hid us; clear us
  go_enter Tryz.func14, Tryz.ntmps14
  go_wp2_with fail
  refine US.out.mono ?_
  rintro e w1 ⟨rfl, hb1⟩
  have HB1 := Lib.hid hb1; clear hb1
  go_wp2_with fail
  go_ret
  exact ⟨rfl, HB1.out⟩
theorem moveF {w : World} {F : Nat → Prop} {tb : Nat} {T : Tk} {X : TB} (h : TaskAt w F tb p1 T X) {d wl : Nat} {v : Int} (hI : MI T d wl v 0) (hd : d ≤ 30) (hwl : wl ≤ 1000) (hB : baseOk T.base) {B mb b nm : Nat} {V : Nat → Prop} {Ms : Nat → Flo} (hMs : ∀ i, i < pO.funcs.length → Ms i = tblF (tO i)) (hM : ∀ wr, Below w.heap.size w wr → MapsAt wr B mb b nm V (allM pO.funcs.length Ms)) (serial : Nat) (hs : serial ≤ 100000) (n : Nat) (hn : 7 * (d + 1) ≤ n) (hn2 : n ≤ 4096) :
    Calls Tryz.prog 14 #[.pointer (some ⟨tb, 0, none⟩), .pointer (some ⟨mb, 0, none⟩), .int .i64 serial, .int .i64 n] w fun e w' => e = .returned (.bool true) ∧ ∃ L F' X', MvL T (bitD d) (1073741824 + (serial : Int) * 8192) n T.parts.length 0 L ∧ TaskAt w' F' tb p1 ⟨1073741824 + (serial : Int) * 8192, L, T.parts, T.marks⟩ X' ∧ (∀ k, F' k → F k ∨ w.heap.size ≤ k) ∧ Fr F w w' := by
  have hwn := hI.wlen
  have hbig := hI.big
  refine move_any w F tb p1 T X h p1_small (hI.ok hd hwl) hB (by omega) (by omega) _ (bitD d) (fun wr hw k hk => ?_) (fun k _ => by unfold bitD; split <;> omega) serial hs n (by omega) hn2 (by rw [hI.used]; omega) (fun k hk j hj => ?_)
  · obtain ⟨_, h2, _, h4, h5⟩ := hI.pt k hk
    have hpl := hI.pl
    rw [h2]
    rcases Nat.lt_or_ge k d with hkd | hkd
    · rw [h4 hkd]
      have := plF hMs (hM wr hw) (if k = 0 then 0 else 1) 1 (by split <;> omega) (Nat.le_refl _)
      unfold bitD
      rw [if_pos hkd]
      exact this
    · rw [h5 (by omega)]
      have := plF hMs (hM wr hw) (if k = 0 then 0 else 1) 0 (by split <;> omega) (by omega)
      unfold bitD
      rw [if_neg (show ¬ k < d by omega)]
      exact this
  · obtain ⟨hkd, rfl⟩ := bitD_hit.1 hj
    obtain ⟨h1, h2, _⟩ := hI.pt k hk
    refine ⟨_, fn01 k, h2, by rw [(f01 k).1]; decide, ?_, ?_⟩
    · rw [h1]; omega
    · rw [h1]; omega
theorem gotoF {w : World} {F : Nat → Prop} {tb : Nat} {T : Tk} {X : TB} (h : TaskAt w F tb p1 T X) {d wl : Nat} {v pc : Int} (hI : MI T d wl v pc) (hd : d ≤ 30) (x : Int) :
    Calls Tryz.prog 16 #[.pointer (some ⟨tb, 0, none⟩), .int .i64 x] w fun e w' => e = .returned (.tuple #[]) ∧ ∃ T', TaskAt w' F tb p1 T' X ∧ MI T' d wl v x ∧ T'.base = T.base ∧ T'.words = T.words ∧ Fr F w w' := by
  obtain ⟨P, q, hP, hl⟩ := hI.split
  have hpl := hI.pl
  refine (goto_any w F tb p1 T X h (by omega) P q hP x).mono ?_
  rintro e w' ⟨rfl, h1, h2⟩
  exact ⟨rfl, _, h1, hI.goto hP hl x, rfl, rfl, h2⟩
theorem objO01 (k : Nat) : objO p1 (p1.funcs[if k = 0 then 0 else 1]'(fn01 k)) 0 = (5, 2) := by
  by_cases h : k = 0
  · subst h; decide
  · have e : (p1.funcs[if k = 0 then 0 else 1]'(fn01 k)) = p1.funcs[1]'(by decide) := by congr 1; rw [if_neg h]
    rw [e]; decide
theorem atN01 (k : Nat) : atN p1 (p1.funcs[if k = 0 then 0 else 1]'(fn01 k)) 0 = 5 ∧ atN p1 (p1.funcs[if k = 0 then 0 else 1]'(fn01 k)) 1 = 7 := by
  by_cases h : k = 0
  · subst h; decide
  · have e : (p1.funcs[if k = 0 then 0 else 1]'(fn01 k)) = p1.funcs[1]'(by decide) := by congr 1; rw [if_neg h]
    rw [e]; decide
theorem placeF {w : World} {F : Nat → Prop} {tb : Nat} {T : Tk} {X : TB} (h : TaskAt w F tb p1 T X) {d wl : Nat} {v pc : Int} (hI : MI T d wl v pc) (hd : d ≤ 30) (hwl : wl ≤ 1000) (hB : baseOk T.base) :
    Calls Tryz.prog 17 #[.pointer (some ⟨tb, 0, none⟩), .int .i64 0] w fun e w' => e = .returned (.int .i64 (T.base + ((7 * d + 5 : Nat) : Int))) ∧ Below w.heap.size w w' := by
  have hpl := hI.pl
  have hwn := hI.wlen
  have hbig := hI.big
  obtain ⟨h1, h2, _⟩ := hI.pt d (by omega)
  have := tkPlace_any w F tb p1 T X h p1_small (hI.ok hd hwl) hB d hpl _ (fn01 d) h2 0 ⟨by decide, by decide⟩
  unfold placeN at this
  rw [objO01, h1] at this
  simp only at this
  rw [if_neg (by decide), if_pos (by omega)] at this
  have e : T.base + ((((7 * d : Nat) : Int)) + 5) = T.base + ((7 * d + 5 : Nat) : Int) := by omega
  rw [e] at this
  exact this
theorem setM {w : World} {F : Nat → Prop} {tb : Nat} {T : Tk} {X : TB} (h : TaskAt w F tb p1 T X) {d wl : Nat} {v pc : Int} (hI : MI T d wl v pc) (hd : d ≤ 30) (hwl : wl ≤ 1000) (k : Nat) (hk : k < 3) (x : Int) :
    Calls Tryz.prog 18 #[.pointer (some ⟨tb, 0, none⟩), .int .i64 k, .int .i64 x] w fun e w' => e = .returned (.bool true) ∧ TaskAt w' F tb p1 (setT T (7 * d + (2 + k)) x) X ∧ Fr F w w' := by
  have hpl := hI.pl
  have hwn := hI.wlen
  have hbig := hI.big
  obtain ⟨h1, h2, _⟩ := hI.pt d (by omega)
  exact set_in w F tb p1 T X h (hI.ok hd hwl) d hpl _ (fn01 d) h2 (7 * d) h1 k (by rw [(f01 d).1]; omega) (by omega) (by omega) x
theorem within01 {T : Tk} {d wl : Nat} {v pc : Int} (hI : MI T d wl v pc) (k : Nat) (hk : k ≤ d) : withinR p1 T (T.base + ((7 * k + 6 : Nat) : Int)) := by
  have hpl := hI.pl
  have hwn := hI.wlen
  have hbig := hI.big
  obtain ⟨h1, h2, _⟩ := hI.pt k (by omega)
  obtain ⟨h3, h4⟩ := atN01 k
  refine ⟨by omega, by omega, T.parts[k]'(by omega), List.getElem_mem _, _, fn01 k, h2, 0, by rw [(f01 k).2]; decide, ?_, ?_⟩
  · rw [h3, h1]; omega
  · rw [h4, h1]; omega
theorem putF {w : World} {F : Nat → Prop} {tb : Nat} {T : Tk} {X : TB} (h : TaskAt w F tb p1 T X) {d wl : Nat} {v pc : Int} (hI : MI T d wl v pc) (hd : d ≤ 30) (hwl : wl ≤ 1000) (hB : baseOk T.base) (a : Int) (ha : a = T.base + ((7 * d + 6 : Nat) : Int)) (x : Int) :
    Calls Tryz.prog 19 #[.pointer (some ⟨tb, 0, none⟩), .int .i64 a, .int .i64 x] w fun e w' => e = .returned (.bool true) ∧ TaskAt w' F tb p1 (setT T (7 * d + 6) x) X ∧ Fr F w w' := by
  have hwn := hI.wlen
  have hbig := hI.big
  subst ha
  exact put_in w F tb p1 T X h p1_small (hI.ok hd hwl) hI.ins hB _ (within01 hI d (Nat.le_refl _)) (7 * d + 6) (by omega) (by omega) x
theorem wordF {w : World} {F : Nat → Prop} {tb : Nat} {T : Tk} {X : TB} (h : TaskAt w F tb p1 T X) {d wl : Nat} {v pc : Int} (hI : MI T d wl v pc) (hd : d ≤ 30) (hwl : wl ≤ 1000) (hB : baseOk T.base) (k : Nat) (hk : k < d) (a : Int) (ha : a = T.base + ((7 * k + 6 : Nat) : Int)) :
    Calls Tryz.prog 24 #[.pointer (some ⟨tb, 0, none⟩), .int .i64 a] w fun e w' => e = .returned (.tuple #[.int .i64 (IntKind.i64.wrap (v + (k : Int))), .bool true]) ∧ Below w.heap.size w w' := by
  have hwn := hI.wlen
  have hbig := hI.big
  subst ha
  have := word_in w F tb p1 T X h p1_small (hI.ok hd hwl) hI.ins hB _ (within01 hI k (Nat.le_of_lt hk)) (7 * k + 6) (by omega) (by omega)
  have h6 := (hI.wd k hk).2
  rw [List.getElem?_eq_getElem (by omega)] at h6
  injection h6 with h6
  rw [h6] at this
  exact this
theorem needF {w : World} {F : Nat → Prop} {tb : Nat} {T : Tk} {X : TB} (h : TaskAt w F tb p1 T X) {d wl : Nat} {v pc : Int} (hI : MI T d wl v pc) (hd : d ≤ 30) (hwl : wl ≤ 1000) :
    Calls Tryz.prog 15 #[.pointer (some ⟨tb, 0, none⟩), .int .i64 1] w fun e w' => e = .returned (.int .i64 (7 * (d + 2) : Nat)) ∧ Below w.heap.size w w' := by
  have := need_any w F tb p1 T X h p1_small (hI.ok hd hwl) 1
  have e1 : wordsN p1 (1 : Int) = 7 := by decide
  rw [hI.used, e1] at this
  rw [show (((7 * (d + 1) : Nat) : Int) + ((7 : Nat) : Int)) = ((7 * (d + 2) : Nat) : Int) from by omega] at this
  exact this
theorem enterM {w : World} {F : Nat → Prop} {tb : Nat} {T : Tk} {X : TB} (h : TaskAt w F tb p1 T X) {d wl : Nat} {v pc : Int} (hI : MI T d wl v pc) (hd : d ≤ 30) (hwl : wl ≤ 1000) (hn : 7 * (d + 2) ≤ wl) (a b : Int) :
    Calls Tryz.prog 20 #[.pointer (some ⟨tb, 0, none⟩), .int .i64 1, .slice (some ⟨w.heap.size, 0, none⟩) 2 2, .int .i64 0] (w.alloc (.cells #[.int .i64 a, .int .i64 b] 3)) fun e w' => e = .returned (.bool true) ∧ ∃ F' X', TaskAt w' F' tb p1 (nextM T d a b) X' ∧ (∀ q, F' q → F q ∨ w.heap.size ≤ q) ∧ Fr F w w' := by
  have hwa := (Below.refl w.heap.size w).alloc (Nat.le_refl _) (.cells #[.int .i64 a, .int .i64 b] 3)
  have h2 := h.below hwa
  have hpl := hI.pl
  have hwn := hI.wlen
  have hia : IntSl (w.alloc (.cells #[.int .i64 a, .int .i64 b] 3)) (fun q => q = w.heap.size) (some ⟨w.heap.size, 0, none⟩) [a, b] := fun jj hj => by
    have hj2 : jj = 0 ∨ jj = 1 := by have : jj < 2 := hj; omega
    rcases hj2 with rfl | rfl
    · exact ⟨_, 0, rfl, rfl, cell_new _ _ _ _ 0⟩
    · exact ⟨_, 0, rfl, rfl, cell_new _ _ _ _ 1⟩
  have hus := hI.used
  have := enter_yes _ F tb p1 T X h2 p1_small (hI.ok hd hwl) (by omega) 1 (by decide) (7 * (d + 1)) hus (by rw [w11, hwn]; omega) (fun q => q = w.heap.size) (some ⟨w.heap.size, 0, none⟩) [a, b] 2 hia (fun q hq => ⟨fun hf => by have := h.flt q hf; omega, by simp; omega⟩) rfl (by show ((2 : Nat) : Int) ≤ 3; decide) (by show 2 ≤ 3000; decide) 0
  rw [w11] at this
  refine this.mono ?_
  rintro e w' ⟨rfl, F', X', h3, h4, h5⟩
  refine ⟨rfl, F', X', h3, fun q hq => ?_, (Fr.of_below hwa F).trans h5 (fun _ _ h => h)⟩
  rcases h4 q hq with h | h
  · exact .inl h
  · simp at h
    exact .inr (by omega)
theorem lifeF {w : World} {F : Nat → Prop} {tb : Nat} {T : Tk} {X : TB} (h : TaskAt w F tb p1 T X) {d wl : Nat} {v pc : Int} (hI : MI T d wl v pc) (hd : d ≤ 30) (hwl : wl ≤ 1000) :
    Calls Tryz.prog 21 #[.pointer (some ⟨tb, 0, none⟩)] w fun e w' => ∃ (fr : List SpotV) (vv : Value) (g1 : Option Addr) (g2 g3 : Nat), e = .returned (.agg #[.int .i64 0, .int .i64 T.base, .int .i64 wl, vv, .slice g1 g2 g3, .slice none 0 0, .bool false]) ∧ Own spotE w' w.heap.size vv fr ∧ fr.length = d + 1 ∧ (∀ s ∈ fr, s.n7 = 3) ∧ RowsF w' w.heap.size 3 fr (fun k => subW T.words (7 * k + 2) 3) (fun k => subW T.words (7 * k + 5) 2) ∧ Below w.heap.size w w' := by
  have hpl := hI.pl
  have hml := hI.ml
  have hwn := hI.wlen
  have hbig := hI.big
  have := life2_any w F tb p1 T X h (by omega) (fun q hq => by obtain ⟨k, hk, rfl⟩ := List.getElem_of_mem hq; exact (hI.pt k hk).2.2.1) 3 (fun k => subW T.words (7 * k + 2) 3) (fun k => subW T.words (7 * k + 5) 2) (fun wr hw k hk => by
    obtain ⟨h1, h2, _⟩ := hI.pt k hk
    have hs := spot2_any wr F tb p1 T X (h.below hw) p1_small (hI.ok hd hwl) k hk (by omega) _ (fn01 k) h2 3 (f01 k).1 (7 * k) h1 (by rw [w01, hwn]; omega)
    rw [w01] at hs
    refine hs.mono ?_
    rintro e w' ⟨x0, x1, x2, b3, b4, x5, b6, a7, c7, a8, n8, c8, rfl, r1, r2, r3⟩
    exact ⟨⟨x0, x1, x2, b3, b4, x5, b6, a7, 3, c7, a8, n8, c8⟩, rfl, r1, r2, r3⟩)
  rw [hwn, hpl] at this
  exact this
end Go.Proofs.YthkhgihjigmkoaaGreat.Tk
