/- The book that keeps lists of instructions: a plainer telling of its put and of what it answers at the end. -/
import Derived.Test.YtmmdppjbofbjhaaBookF
import Derived.Test.YtmmdppjbofbjhaaBookG
import Derived.Test.YtmmdppjbofbjhaaBox
namespace Go.Proofs.Ytmmdppjbofbjhaa
open Go.RowKit

def bk0 : Array Value := #[.slice none 0 0, .slice none 0 0, .slice none 0 0, .slice none 0 0, .slice none 0 0, .slice none 0 0, .slice none 0 0, .slice none 0 0, .slice none 0 0, .slice none 0 0]
def bkI (v v' : Value) : Array Value := #[.slice none 0 0, .slice none 0 0, v, v', .slice none 0 0, .slice none 0 0, .slice none 0 0, .slice none 0 0, .slice none 0 0, .slice none 0 0]
/-- the book at p, with n lists of instructions, all of it between p and m -/
def BkI (w : World) (p m n : Nat) : Prop :=
  ∃ v v' X Y hs ls, Bk w p (bkI v v') ∧ Kept insE inssE w p X Y v v' hs ls ∧ (∀ k, X k → p < k ∧ k < m) ∧ (∀ k, Y k → p < k ∧ k < m) ∧ ls.length = n ∧ (∀ l ∈ ls, l.length ≤ 100000) ∧ p < m ∧ m ≤ w.heap.size
theorem BkI.new (w : World) : BkI (w.alloc (.cells bk0 49)) w.heap.size (w.heap.size + 1) 0 :=
  ⟨.slice none 0 0, .slice none 0 0, fun _ => False, fun _ => False, [], [], heap_new w _, ⟨Fam.nil _ _ _ _ _, ⟨_, Fam.nil _ _ _ _ _⟩, fun _ h => h.elim, fun _ h => h.elim, fun _ h => h.elim⟩, fun _ h => h.elim, fun _ h => h.elim, rfl, (by simp), by omega, by simp⟩
theorem BkI.fr {F : Nat → Prop} {w w' : World} {p m n : Nat} (h : BkI w p m n) (hf : Fr F w w') (hd : ∀ k, p ≤ k → k < m → ¬ F k) : BkI w' p m n := by
  obtain ⟨v, v', X, Y, hs, ls, hb, hK, hX, hY, h1, h2, h3, h4⟩ := h
  obtain ⟨hF, ⟨hs', hF'⟩, hxy, hxw, hyw⟩ := hK
  have hz := hf.size
  refine ⟨v, v', X, Y, hs, ls, hf.heap hb (hd p (Nat.le_refl _) h3), ⟨hF.fr hf (fun k hk => hd k (by have := hX k hk; omega) (hX k hk).2), ⟨hs', hF'.fr hf (fun k hk => hd k (by have := hY k hk; omega) (hY k hk).2)⟩, hxy, fun k hk => by have := hxw k hk; omega, fun k hk => by have := hyw k hk; omega⟩, hX, hY, h1, h2, h3, by omega⟩
theorem BkI.below {w w' : World} {p m n : Nat} (h : BkI w p m n) (hb : Below w.heap.size w w') : BkI w' p m n := h.fr (Fr.of_below hb (fun _ => False)) (fun _ _ _ h => h)
/-- one more list is put -/
theorem BkI.add {w : World} {p m n : Nat} (h : BkI w p m n) (hn : n < 250) {a : Option Addr} {l : List Ins} {c : Nat} (hx : Own insE w m (.slice a l.length c) l) (hl : l.length ≤ 100000) :
    Calls Try.prog 40 #[.pointer (some ⟨p, 0, none⟩), .slice a l.length c] w fun e w' => e = .returned (.tuple #[]) ∧ BkI w' p w'.heap.size (n + 1) ∧ Fr (fun k => p ≤ k ∧ k < m) w w' := by
  obtain ⟨v, v', X, Y, hs, ls, hb, hK, hX, hY, h1, h2, h3, h4⟩ := h
  have hb2 : ∀ k, (Value.slice a l.length c).ownBlock = some k → m ≤ k ∧ k < w.heap.size := fun k hk => hx.lt hk
  refine (addInstrs_any w p p X Y (bkI v v') v v' hs ls a l c hb rfl rfl hK (hx.base (fun k hk => by have := hb2 k hk; omega)) (fun k hk => ⟨fun h => by have := hX k h; have := hb2 k hk; omega, fun h => by have := hY k h; have := hb2 k hk; omega, by have := hb2 k hk; omega⟩) (fun h => by have := hX p h; omega) (fun h => by have := hY p h; omega) (Nat.le_refl _) (by omega) hl).mono ?_
  rintro e w' ⟨u, u', X', Y', he, bk, k, hx', hy', hf⟩
  have hz := hf.size
  refine ⟨he, ⟨u, u', X', Y', _, _, bk, k, fun q hq => ?_, fun q hq => ?_, by simp [h1], ?_, by omega, Nat.le_refl _⟩, hf.mono (fun q hq => ?_)⟩
  · refine ⟨?_, (k.xw q hq).2⟩
    rcases hx' q hq with h | h | h
    · exact (hX q h).1
    · have := hb2 q h; omega
    · omega
  · refine ⟨?_, (k.yw q hq).2⟩
    rcases hy' q hq with h | h
    · exact (hY q h).1
    · omega
  · intro x hx
    rcases List.mem_append.1 hx with h | h
    · exact h2 x h
    · simp at h; subst h; exact hl
  · rcases hq with h | h | h
    · omega
    · have := hX q h; omega
    · have := hY q h; omega
/-- the lists lie apart -/
theorem BkI.apart {w : World} {p m n : Nat} (h : BkI w p m n) (hn : n ≤ 1000) :
    Calls Try.prog 43 #[.pointer (some ⟨p, 0, none⟩)] w fun e w' => e = .returned (.bool true) ∧ Fr (fun k => p ≤ k ∧ k < m) w w' := by
  obtain ⟨v, v', X, Y, hs, ls, hb, hK, hX, hY, h1, h2, h3, h4⟩ := h
  obtain ⟨hF, ⟨hs', hF'⟩, hxy, hxw, hyw⟩ := hK
  refine (apart_any w p p (fun _ => False) (fun _ => False) X Y (.slice none 0 0) (.slice none 0 0) v v' [] [] _ _ [] ls hb (Fam.nil _ _ _ _ _) (Fam.nil _ _ _ _ _) hF hF' (fun h => h) (fun h => by have := hX p h; omega) (fun k h => h.elim) (fun k h => by have := hX k h; omega) (fun k h _ => h) (by omega) (by simp) (by simp) (by omega) h2).mono ?_
  rintro e w' ⟨he, hf⟩
  refine ⟨he, hf.mono (fun q hq => ?_)⟩
  rcases hq with h | h
  · exact h.elim
  · have := hX q h; omega
end Go.Proofs.Ytmmdppjbofbjhaa
