/- Walk: Task.Enter. -/
import Derived.Test.YtmanoclahcpaoaaTkO
namespace Go.Proofs.Ytmanoclahcpaoaa
open Go.ChangeShapes Go.WideShapes Go.ChangeAt Go.RowKit Go.Maps

set_option maxRecDepth 100000 in
theorem enter_no (w : World) (F : Nat → Prop) (tb : Nat) (p : TPrg) (T : Tk) (X : TB) (h : TaskAt w F tb p T X) (hp : PSmall p) (ht : TkOk T) (fn : Int) (a : Option Addr) (na c : Nat) (hna : na ≤ 3000) (ret : Int) (hno : fitsB p T fn na = false) :
    Calls Try.prog 11 #[.pointer (some ⟨tb, 0, none⟩), .int .i64 fn, .slice a na c, .int .i64 ret] w fun e w' => e = .returned (.bool false) ∧ Below w.heap.size w w' := by
  have fi := fits_any w F tb p T X h hp ht fn a na c hna
  rw [hno] at fi
  clear h hno
  have FI := Lib.hid fi; clear fi
  go_enter Try.func11, Try.ntmps11
  go_wp2_with fail
  refine FI.out.mono ?_
  rintro e w1 ⟨rfl, hb⟩
  have HB := Lib.hid hb
  clear hb
  go_wp2_with fail
  go_ret
  exact ⟨rfl, HB.out⟩
/-- a task behind an Enter -/
def enterT (T : Tk) (un wn : Nat) (j : Nat) (ret : Int) (al : List Int) : Tk := ⟨T.base, (pushT T un wn j ret al).words, (pushT T un wn j ret al).parts, T.marks ++ [⟨false, false, 0⟩]⟩
set_option maxRecDepth 100000 in
set_option maxHeartbeats 3200000 in
theorem enter_yes (w : World) (F : Nat → Prop) (tb : Nat) (p : TPrg) (T : Tk) (X : TB) (h : TaskAt w F tb p T X) (hp : PSmall p) (ht : TkOk T) (hlen : T.parts.length < 1000) (j : Nat) (hj : j < p.funcs.length) (un : Nat) (hun : usedN p T = un) (hfit : un + wordsN p j ≤ T.words.length)
    (D : Nat → Prop) (a : Option Addr) (al : List Int) (c : Nat) (hal : IntSl w D a al) (hD : ∀ k, D k → ¬ F k ∧ k < w.heap.size) (hna : al.length = p.funcs[j].nargs) (hsl : (al.length : Int) ≤ p.funcs[j].slots) (hal2 : al.length ≤ 3000) (ret : Int) :
    Calls Try.prog 11 #[.pointer (some ⟨tb, 0, none⟩), .int .i64 j, .slice a al.length c, .int .i64 ret] w fun e w' => e = .returned (.bool true) ∧ ∃ F' X', TaskAt w' F' tb p (enterT T un (wordsN p j) j ret al) X' ∧ (∀ k, F' k → F k ∨ w.heap.size ≤ k) ∧ Fr F w w' := by
  have hfb : fitsB p T j al.length = true := by
    rw [fitsB_at hj, hna, hun]
    simp
    omega
  have fi := fits_any w F tb p T X h hp ht j a al.length c hal2
  rw [hfb] at fi
  have pu := fun wr (hw : Below w.heap.size w wr) => push_any wr F tb p T X (h.below hw) hp ht hlen j hj un hun hfit D a al c (hal.fr (Fr.of_below hw (fun _ => False)) (fun _ _ h => h)) (fun k hk => ⟨(hD k hk).1, Nat.lt_of_lt_of_le (hD k hk).2 hw.size⟩) hsl hal2 ret
  have hm := ht.2.1
  generalize wordsN p j = wn at *
  clear h hfb hfit hal hD hna hsl
  have FI := Lib.hid fi; clear fi
  have PU := Lib.hid pu; clear pu
  have HUN := Lib.hid hun; clear hun
  go_enter Try.func11, Try.ntmps11
  go_wp2_with fail
  refine FI.out.mono ?_
  rintro e w1 ⟨rfl, hb⟩
  have HB := Lib.hid hb
  clear hb
  go_wp2_with fail
  refine (PU.out w1 HB.out).mono ?_
  rintro e w2 ⟨rfl, F2, X2, hT2, hF2, hfr2⟩
  have q5 := hT2.cells.2.2.2.2.2.1
  have q6 := hT2.cells.2.2.2.2.2.2.1
  have em := stEnter_any w2 0 X2.mv T.marks hT2.marks (by omega)
  obtain ⟨a5, n5, c5, hmv⟩ := hT2.marks.slice
  rw [hmv] at em q5
  have EM := Lib.hid em; clear em
  have HT2 := Lib.hid hT2; clear hT2
  have HF2 := Lib.hid hF2; clear hF2
  have HFR2 := Lib.hid hfr2; clear hfr2
  have HMV := Lib.hid hmv; clear hmv
  go_wp2_with fail
  refine EM.out.mono ?_
  rintro e w3 ⟨v3, rfl, ho3, hb3⟩
  obtain ⟨a3, n3, c3, rfl⟩ := ho3.slice
  have hT3 := HT2.out.below hb3
  obtain ⟨hT4, hF4⟩ := hT3.mark ho3 (fun k hk => hk.elim (fun h => HT2.out.flt k h) (fun h => (HT2.out.out k h).2))
  have q5 := hT3.cells.2.2.2.2.2.1
  have q6 := hT3.cells.2.2.2.2.2.2.1
  have f5 : w3.frozen? ⟨tb, 5, none⟩ = false := (row_cell hT3.row 5).2
  have f6 : w3.frozen? ⟨tb, 6, none⟩ = false := (row_cell hT3.row 6).2
  have hs2 := HFR2.out.size
  have hfin : ∃ F' X', TaskAt ((w3.setCell ⟨tb, 5, none⟩ (.slice a3 n3 c3)).setCell ⟨tb, 6, none⟩ (.slice none 0 0)) F' tb p (enterT T un wn j ret al) X' ∧ (∀ k, F' k → F k ∨ w.heap.size ≤ k) ∧ Fr F w ((w3.setCell ⟨tb, 5, none⟩ (.slice a3 n3 c3)).setCell ⟨tb, 6, none⟩ (.slice none 0 0)) := by
    have hz1 := HB.out.size
    refine ⟨_, _, hT4, fun k hk => ?_, ?_⟩
    · rcases hk with h1 | h1
      · rcases HF2.out k h1 with h2 | h2
        · exact .inl h2
        · exact .inr (by omega)
      · have := (ho3.lt h1).1
        exact .inr (by omega)
    · have h1 := (Fr.of_below HB.out F).trans HFR2.out (fun k _ hk => hk)
      have h2 := h1.trans (Fr.of_below hb3 F) (fun k _ hk => hk)
      exact h2.trans hF4 (fun k hk1 hk2 => (HF2.out k hk2).elim (fun h => h) (fun h => absurd h (by omega)))
  clear hT3 hT4 hF4 ho3 hb3 hs2
  have HFIN := Lib.hid hfin; clear hfin
  go_wp2_with fail
  go_ret
  exact ⟨rfl, HFIN.out⟩
end Go.Proofs.Ytmanoclahcpaoaa
