/- Walks: besombook.LentInts, besombook.StaysInts: numbers with room behind them, in which a mark stands. -/
import Derived.Test.YtjcjhfnjamphlaaKAf
import Derived.Test.YtjcjhfnjamphlaaKAe
import Derived.Test.YtjcjhfnjamphlaaKAw
import Derived.Test.YtjcjhfnjamphlaaKAd
import Derived.BigRegion
set_option linter.unusedVariables false
set_option linter.unusedSimpArgs false
namespace Go.Proofs.Ytjcjhfnjamphlaa
open Go.ChangeShapes Go.WideShapes Go.ChangeAt Go.RowKit
/-- numbers of one's own that are not none, told with their block -/
theorem own_someI {w : World} {B : Nat} {v : Value} {l : List Int} {x : Int} (h : Own intE w B v (l ++ [x])) : ∃ g c, v = .slice (some ⟨g, 0, none⟩) (l.length + 1) c ∧ l.length + 1 ≤ c ∧ B ≤ g ∧ w.cell? ⟨g, l.length, none⟩ = some (.int .i64 x) ∧ IntSl w (fun k => k = g) (some ⟨g, 0, none⟩) l := by
  obtain ⟨a, c0, hv0, hs⟩ := own_int h
  obtain ⟨h1, h2⟩ := h
  rcases h2 with ⟨rfl, h0⟩ | ⟨g, cap, cur, rfl, hg, hh, hr, hr2⟩
  · simp at h0
  · have e1 : some (⟨g, 0, none⟩ : Addr) = a := by injection hv0
    subst e1
    refine ⟨g, cap, by simp, ?_, hg, ?_, ?_⟩
    · simp at hr hr2; omega
    · obtain ⟨b, o, h3, h4, h5⟩ := hs l.length (by simp)
      injection h3 with h3
      injection h3 with h3 h6
      subst h3 h6
      simpa using h5
    · intro j hj
      obtain ⟨b, o, h3, h4, h5⟩ := hs j (by simp; omega)
      injection h3 with h3
      injection h3 with h3 h6
      subst h3 h6
      rw [List.getElem_append_left hj] at h5
      exact ⟨_, _, rfl, rfl, h5⟩
set_option maxRecDepth 100000 in
set_option maxHeartbeats 1600000 in
theorem lentInts_any (w : World) (D : Nat → Prop) (a : Option Addr) (l : List Int) (c : Nat) (hsl : IntSl w D a l) (hn : l.length ≤ 1000) :
    Calls Try.prog 10 #[.slice a l.length c] w fun e w' => ∃ g cap, e = .returned (.slice (some ⟨g, 0, none⟩) l.length cap) ∧ l.length + 1 ≤ cap ∧ w.heap.size ≤ g ∧ w'.cell? ⟨g, l.length, none⟩ = some (.int .i64 (-77)) ∧ IntSl w' (fun k => k = g) (some ⟨g, 0, none⟩) l ∧ Below w.heap.size w w' := by
  have cp := copyInts_any w a l c D hsl (by omega)
  have CP := Lib.hid cp; clear cp
  clear hsl
  go_enter Try.func10, Try.ntmps10
  go_wp2_with fail
  refine CP.out.mono ?_
  rintro e w1 ⟨v, rfl, ho, hb⟩
  have HO := Lib.hid ho; clear ho
  have HB := Lib.hid hb; clear hb
  go_wp2_with (at_builtin; refine append_own intE rfl (.tmp 4) (.tmp 5) rfl w.heap.size l [-77] _ rfl (HO.out.alloc _) w1.heap.size 0 1 rfl (CellsAt.new _ _ _ _) ?c1 ?c2 ?_)
  case c1 => simp; omega
  case c2 => have := HB.out.size; simp; omega
  intro v2 w2 hown2 hg2
  have hB2 := below_grown (HB.out.alloc HB.out.size _) (HO.out.alloc _) hg2 (by have := HB.out.size; simp; omega) (Nat.le_refl _)
  obtain ⟨g, cap, rfl, hc, hg, hm, hs⟩ := own_someI hown2
  have hc' : (l.length : Int) ≤ cap := by omega
  have HB2 := Lib.hid hB2; clear hB2
  have HM := Lib.hid hm; clear hm
  have HS := Lib.hid hs; clear hs
  clear hown2 hg2
  go_wp2_with fail
  go_ret
  exact ⟨g, cap, rfl, hc, hg, HM.out, HS.out, HB2.out⟩
set_option maxRecDepth 100000 in
set_option maxHeartbeats 1600000 in
theorem staysInts_any (w : World) (D : Nat → Prop) (g cap : Nat) (a' : Option Addr) (l : List Int) (c' : Nat) (hc : l.length + 1 ≤ cap) (hm : w.cell? ⟨g, l.length, none⟩ = some (.int .i64 (-77))) (hs : IntSl w (fun k => k = g) (some ⟨g, 0, none⟩) l) (hl : IntSl w D a' l) (hn : l.length ≤ 1000) :
    Calls Try.prog 12 #[.slice (some ⟨g, 0, none⟩) l.length cap, .slice a' l.length c'] w fun e w' => e = .returned (.bool true) ∧ ∃ n, w' = w.drewN n := by
  have sm := sameInts_any w _ D _ a' l l cap c' hs hl (by omega) (by omega)
  rw [show decide (l = l) = true from by simp] at sm
  have SM := Lib.hid sm; clear sm
  have h1 : (l.length : Int) + 1 ≤ cap := by omega
  have h2 : (0 : Int) ≤ (l.length : Int) + 1 := by omega
  have h3 : IntKind.i64.wrap ((l.length : Int) + 1) = (l.length : Int) + 1 := IntWalk.i64_in _ (by omega)
  have h4 : ((l.length : Int) + 1).toNat = l.length + 1 := by omega
  have h5 : (l.length : Int) < (l.length : Int) + 1 := by omega
  clear hs hl
  go_enter Try.func12, Try.ntmps12
  go_wp2_with fail
  refine SM.out.mono ?_
  rintro e w1 ⟨rfl, n, rfl⟩
  have p0 : (w.drewN n).cell? ⟨g, l.length, none⟩ = some (.int .i64 (-77)) := hm
  go_wp2_with fail
  go_ret
  exact ⟨rfl, n, rfl⟩
end Go.Proofs.Ytjcjhfnjamphlaa
