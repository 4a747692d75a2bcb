/- Walk: the first call of chapter 16's statements. -/
import Derived.Test.YtmanoclahcpaoaaTkY
import Derived.Test.YtmanoclahcpaoaaTkR
namespace Go.Proofs.Ytmanoclahcpaoaa
open Go.ChangeShapes Go.WideShapes Go.ChangeAt Go.RowKit Go.Maps

def p16 : TPrg := ⟨[], [⟨0, 2, []⟩]⟩
theorem p16_small : PSmall p16 := by
  unfold PSmall p16
  simp
theorem w40 : wordsN p16 (0 : Nat) = 4 := by decide
def T16 : Tk := enterT ⟨1073766400, List.replicate 4 0, [], []⟩ 0 4 0 (-1) []
set_option maxRecDepth 100000 in
set_option maxHeartbeats 3200000 in
theorem alive16 (w : World) :
    Calls Try.prog 6 #[] w fun e w' => e = .returned (.bool true) ∧ Below w.heap.size w w' := by
  obtain ⟨W1, h1⟩ : ∃ W1, W1 = w.alloc (.cells #[.int .i64 27, .int .i64 0, .int .i64 0, .int .i64 0] 42) := ⟨_, rfl⟩
  have s1 : W1.heap.size = w.heap.size + 1 := by rw [h1]; simp
  have b1 : Below w.heap.size w W1 := by rw [h1]; exact (Below.refl _ _).alloc (Nat.le_refl _) _
  have r0 : W1.heap[w.heap.size]? = some (.cells #[.int .i64 27, .int .i64 0, .int .i64 0, .int .i64 0] 42) := by rw [h1]; exact heap_new _ _
  obtain ⟨W2, h2⟩ : ∃ W2, W2 = W1.alloc (.cells #[.slice none 0 0, .int .i64 0, .int .i64 2, .slice none 0 0, .slice (some ⟨w.heap.size, 0, none⟩) 1 1] 45) := ⟨_, rfl⟩
  have s2 : W2.heap.size = w.heap.size + 1 + 1 := by rw [h2]; simp [s1]
  have b2 : Below W1.heap.size W1 W2 := by rw [h2]; exact (Below.refl _ _).alloc (Nat.le_refl _) _
  have r1 : W2.heap[w.heap.size + 1]? = some (.cells #[.slice none 0 0, .int .i64 0, .int .i64 2, .slice none 0 0, .slice (some ⟨w.heap.size, 0, none⟩) 1 1] 45) := by rw [h2, ← s1]; exact heap_new _ _
  obtain ⟨W3, h3⟩ : ∃ W3, W3 = W2.alloc (.cells #[.slice none 0 0, .slice none 0 0, .slice (some ⟨w.heap.size + 1, 0, none⟩) 1 1] 27) := ⟨_, rfl⟩
  have s3 : W3.heap.size = w.heap.size + 1 + 1 + 1 := by rw [h3]; simp [s2]
  have b3 : Below W2.heap.size W2 W3 := by rw [h3]; exact (Below.refl _ _).alloc (Nat.le_refl _) _
  have r2 : W3.heap[w.heap.size + 1 + 1]? = some (.cells #[.slice none 0 0, .slice none 0 0, .slice (some ⟨w.heap.size + 1, 0, none⟩) 1 1] 27) := by rw [h3, ← s2]; exact heap_new _ _
  have r0 := (Fr.of_below b2 (fun _ => False)).heap r0 (fun h => h)
  have r0 := (Fr.of_below b3 (fun _ => False)).heap r0 (fun h => h)
  have r1 := (Fr.of_below b3 (fun _ => False)).heap r1 (fun h => h)
  have hb : Below w.heap.size w W3 := b1|>.trans (b2.mono (by omega))|>.trans (b3.mono (by omega))
  have hpv : PV W3 (fun k => w.heap.size ≤ k ∧ k < W3.heap.size) p16 (.slice none 0 0) (.slice none 0 0) (.slice (some ⟨w.heap.size + 1, 0, none⟩) 1 1) := by
    refine ⟨⟨none, 0, 0, rfl⟩, ⟨none, 0, rfl, fun j hj => by cases hj⟩, _, 1, rfl, fun j hj => ?_⟩
    obtain rfl : j = 0 := by have : j < 1 := hj; omega
    exact ⟨_, 0, rfl, ⟨by omega, by omega⟩, _, _, _, _, _, (row_cell r1 0).1, (row_cell r1 1).1, (row_cell r1 2).1, (row_cell r1 3).1, (row_cell r1 4).1, ⟨none, 0, rfl⟩, ⟨0, rfl⟩, rfl, ⟨none, 0, rfl, fun i hi => by cases hi⟩, _, _, _, rfl⟩
  have k0 : W3.cell? ⟨w.heap.size + 1 + 1, 0, none⟩ = some (.slice none 0 0) := (row_cell r2 0).1
  have k1 : W3.cell? ⟨w.heap.size + 1 + 1, 1, none⟩ = some (.slice none 0 0) := (row_cell r2 1).1
  have k2 : W3.cell? ⟨w.heap.size + 1 + 1, 2, none⟩ = some (.slice (some ⟨w.heap.size + 1, 0, none⟩) 1 1) := (row_cell r2 2).1
  have hW : ((w.alloc (.cells #[.int .i64 27, .int .i64 0, .int .i64 0, .int .i64 0] 42)).alloc (.cells #[.slice none 0 0, .int .i64 0, .int .i64 2, .slice none 0 0, .slice (some ⟨w.heap.size, 0, none⟩) 1 1] 45)).alloc (.cells #[.slice none 0 0, .slice none 0 0, .slice (some ⟨w.heap.size + 1, 0, none⟩) 1 1] 27) = W3 := by rw [h3, h2, h1]
  have nw : Calls Try.prog 8 #[.agg #[.slice none 0 0, .slice none 0 0, .slice (some ⟨w.heap.size + 1, 0, none⟩) 1 1], .int .i64 0, .slice none 0 0, .int .i64 3, .int .i64 2, .int .i64 100] W3 fun e w' => ∃ tb F X, e = .returned (.tuple #[.pointer (some ⟨tb, 0, none⟩), .int .i64 0]) ∧ TaskAt w' F tb p16 T16 X ∧ (∀ k, F k → W3.heap.size ≤ k) ∧ Below W3.heap.size W3 w' := by
    have := new_any W3 _ (fun k hk => hk.2) p16 _ _ _ hpv p16_small 0 (by decide) rfl (by decide) 3 (by omega) 2 100 4 (by omega) (by omega) (by omega) (by rw [w40]; omega) (fun w => by rw [w40]; exact fit24 w)
    rw [w40] at this
    exact this
  have HW := Lib.hid hW
  have HS3 := Lib.hid s3
  clear r0 r1 r2 b1 b2 b3 s1 s2 s3 h1 h2 h3 hpv hW
  have NW := Lib.hid nw; clear nw
  have HB := Lib.hid hb; clear hb
  go_enter Try.func6, Try.ntmps6
  go_upto_region 2 with fail
  rw [HW.out]
  go_wp2_with fail
  refine NW.out.mono ?_
  rintro e w4 ⟨tb, F, X, rfl, hT, hF, hb4⟩
  have hlen : T16.parts.length = 1 := rfl
  have hml : T16.marks.length = 1 := rfl
  have hok : TkOk T16 := ⟨by decide, by decide, by decide, fun q hq => by
    have h1 : q = ⟨((0 : Nat) : Int), 0, ((0 : Nat) : Int), -1, none, 0, 0⟩ := by
      have : q ∈ ([⟨((0 : Nat) : Int), 0, ((0 : Nat) : Int), -1, none, 0, 0⟩] : List Part) := hq
      simpa using this
    rw [h1]
    decide⟩
  have hsp : ∀ wr, Below w4.heap.size w4 wr → ∀ d : Nat, d < T16.parts.length → Calls Try.prog 42 #[.pointer (some ⟨tb, 0, none⟩), .int .i64 d] wr fun e w' => ∃ s : SpotV, e = .returned (.agg #[.int .i64 s.x0, .int .i64 s.x1, .int .i64 s.x2, .bool s.b3, .bool s.b4, .int .i64 s.x5, .bool s.b6, .slice s.a7 2 s.c7, .slice s.a8 s.n8 s.c8]) ∧ Below wr.heap.size wr w' := fun wr hw d hd => by
    obtain rfl : d = 0 := by have : d < 1 := hd; omega
    refine (spot_any wr F tb p16 T16 X (hT.below hw) p16_small hok 0 (by decide) (by decide) 0 (by decide) rfl 2 rfl 0 rfl (by rw [w40]; decide)).mono ?_
    rintro e w' ⟨x0, x1, x2, b3, b4, x5, b6, a7, c7, a8, n8, c8, rfl, hb⟩
    exact ⟨⟨x0, x1, x2, b3, b4, x5, b6, a7, 2, c7, a8, n8, c8⟩, rfl, hb⟩
  have lf := life_any w4 F tb p16 T16 X hT (by decide) (fun q hq => by
    have : q ∈ ([⟨((0 : Nat) : Int), 0, ((0 : Nat) : Int), -1, none, 0, 0⟩] : List Part) := hq
    simp at this
    rw [this]) 2 hsp
  have hb5 := HB.out.trans (hb4.mono HB.out.size)
  rw [show T16.base = 1073766400 from rfl, show T16.words.length = 4 from rfl, hlen] at lf
  clear hsp hb4 k0 k1 k2
  have LF := Lib.hid lf; clear lf
  have HT := Lib.hid hT; clear hT
  have HF := Lib.hid hF; clear hF
  have HOK := Lib.hid hok; clear hok
  have HB5 := Lib.hid hb5; clear hb5
  have HLEN := Lib.hid hlen; clear hlen
  have HML := Lib.hid hml; clear hml
  go_wp2_with fail
  refine LF.out.mono ?_
  rintro e w5 ⟨fr, v, g1, g2, g3, rfl, hfr, hfl, hn7, hb6⟩
  obtain ⟨fa, fc, rfl, hel⟩ := own_elems hfr
  obtain ⟨fb, rfl, how, hc⟩ := hel 0 (by omega)
  have hc7 : w5.cell? ⟨fb, 7, none⟩ = some (.slice fr[0].a7 fr[0].n7 fr[0].c7) := hc 7 _ rfl
  rw [hn7 _ (List.getElem_mem _)] at hc7
  have hfb := (hfr.lt how).1
  rw [hfl]
  generalize fr[0].a7 = q7 at hc7
  generalize fr[0].c7 = q8 at hc7
  have hT := HT.out
  have hflt := hT.flt
  have hb7 := hb6.alloc hb6.size (.cells #[.int .i64 0, .int .i64 1073766400, .int .i64 4, .slice (some ⟨fb, 0, none⟩) 1 fc, .slice g1 g2 g3, .slice none 0 0, .bool false] 50)
  have hr := heap_new w5 (.cells #[.int .i64 0, .int .i64 1073766400, .int .i64 4, .slice (some ⟨fb, 0, none⟩) 1 fc, .slice g1 g2 g3, .slice none 0 0, .bool false] 50)
  have hc7 := below_cell ((Below.refl w5.heap.size w5).alloc (Nat.le_refl _) (.cells #[.int .i64 0, .int .i64 1073766400, .int .i64 4, .slice (some ⟨fb, 0, none⟩) 1 fc, .slice g1 g2 g3, .slice none 0 0, .bool false] 50)) hc7
  have hbl := hb6.size
  obtain ⟨lb, hlb⟩ : ∃ lb, lb = w5.heap.size := ⟨_, rfl⟩
  obtain ⟨w6, hw6⟩ : ∃ w6, w6 = w5.alloc (.cells #[.int .i64 0, .int .i64 1073766400, .int .i64 4, .slice (some ⟨fb, 0, none⟩) 1 fc, .slice g1 g2 g3, .slice none 0 0, .bool false] 50) := ⟨_, rfl⟩
  have HW6 := Lib.hid hw6
  rw [← hw6] at hb7 hr hc7
  rw [← hlb] at hr hbl
  have hT6 := hT.below hb7
  have hTT : ∀ wr, Below w6.heap.size w6 wr → TaskAt wr F tb p16 T16 X := fun wr hw => hT6.below hw
  have dp : ∀ wr, Below w6.heap.size w6 wr → Calls Try.prog 12 #[.pointer (some ⟨tb, 0, none⟩)] wr fun e w' => e = .returned (.int .i64 1) ∧ wr = w' := fun wr hw => depth_any wr F tb p16 T16 X (hTT wr hw)
  have us : ∀ wr, Below w6.heap.size w6 wr → Calls Try.prog 13 #[.pointer (some ⟨tb, 0, none⟩)] wr fun e w' => e = .returned (.int .i64 4) ∧ Below wr.heap.size wr w' := fun wr hw => used_any wr F tb p16 T16 X (hTT wr hw) p16_small HOK.out
  have cp : ∀ wr, Below w6.heap.size w6 wr → Calls Try.prog 9 #[.pointer (some ⟨tb, 0, none⟩)] wr fun e w' => e = .returned (.int .i64 4) ∧ wr = w' := fun wr hw => cap_any wr F tb p16 T16 X (hTT wr hw)
  have st : ∀ wr, Below w6.heap.size w6 wr → Calls Try.prog 14 #[.pointer (some ⟨tb, 0, none⟩), .int .i64 1, .int .i64 7] wr fun e w' => e = .returned (.bool true) ∧ TaskAt w' F tb p16 ⟨1073766400, [0, 0, 0, 7], T16.parts, T16.marks⟩ X ∧ Fr F wr w' := fun wr hw => set_in wr F tb p16 T16 X (hTT wr hw) HOK.out 0 rfl 0 (by decide) rfl 0 rfl 1 (by decide) (by omega) (by decide) 7
  have sl : ∀ wr, TaskAt wr F tb p16 ⟨1073766400, [0, 0, 0, 7], T16.parts, T16.marks⟩ X → Calls Try.prog 15 #[.pointer (some ⟨tb, 0, none⟩), .int .i64 1] wr fun e w' => e = .returned (.int .i64 7) ∧ Below wr.heap.size wr w' := fun wr hw => slot_in wr F tb p16 ⟨1073766400, [0, 0, 0, 7], T16.parts, T16.marks⟩ X hw ⟨HOK.out.1, HOK.out.2.1, by decide, HOK.out.2.2.2⟩ 0 rfl 0 (by decide) rfl 0 rfl 1 (by decide) (by omega) (by decide)
  have hF6 : ¬ F lb := fun h => by have := hflt lb h; omega
  have hF7 : ¬ F fb := fun h => by have := hflt fb h; omega
  have hw0 := Below.refl w6.heap.size w6
  have hb8 := HB5.out.trans (hb7.mono HB5.out.size)
  have hlo := HF.out
  have hWS : w.heap.size ≤ W3.heap.size := HB.out.size
  have HLB := Lib.hid hlb
  clear hfr hn7 hel hc hb6 hT hT6 hflt hb7 hlb hw6
  have DP := Lib.hid dp; clear dp
  have US := Lib.hid us; clear us
  have CP := Lib.hid cp; clear cp
  have ST := Lib.hid st; clear st
  have SL := Lib.hid sl; clear sl
  have HR := Lib.hid hr; clear hr
  have HC7 := Lib.hid hc7; clear hc7
  have HF6 := Lib.hid hF6; clear hF6
  have HF7 := Lib.hid hF7; clear hF7
  have HW0 := Lib.hid hw0; clear hw0
  have HB8 := Lib.hid hb8; clear hb8
  have HLO := Lib.hid hlo; clear hlo
  have HWS := Lib.hid hWS; clear hWS
  go_wp2_with fail
  rw [← HW6.out, ← HLB.out]
  go_wp2_with fail
  refine (DP.out _ HW0.out).mono ?_
  rintro e wq ⟨rfl, rfl⟩
  go_wp2_with fail
  refine (US.out _ HW0.out).mono ?_
  rintro e w7 ⟨rfl, hb7⟩
  have hb9 := HW0.out.trans (hb7.mono HW0.out.size)
  have HB7 := Lib.hid hb9
  clear hb7 hb9
  go_wp2_with fail
  refine (CP.out _ HB7.out).mono ?_
  rintro e wq ⟨rfl, rfl⟩
  go_wp2_with fail
  refine (ST.out _ HB7.out).mono ?_
  rintro e w8 ⟨rfl, hT8, hf8⟩
  have HT8 := Lib.hid hT8
  have HF8 := Lib.hid hf8
  clear hT8 hf8
  go_wp2_with fail
  refine (SL.out _ HT8.out).mono ?_
  rintro e w9 ⟨rfl, hb9⟩
  have hrr := (Fr.of_below HB7.out (fun _ => False)).heap HR.out (fun h => h)
  have hrr := HF8.out.heap hrr HF6.out
  have hrr := (Fr.of_below hb9 (fun _ => False)).heap hrr (fun h => h)
  have hcc := HF8.out.cell (below_cell HB7.out HC7.out) HF7.out
  have hcc := below_cell hb9 hcc
  have d1 : w9.cell? ⟨lb, 1, none⟩ = some (.int .i64 1073766400) := (row_cell hrr 1).1
  have d3 : w9.cell? ⟨lb, 3, none⟩ = some (.slice (some ⟨fb, 0, none⟩) 1 fc) := (row_cell hrr 3).1
  have hbz := HB8.out.trans (HB7.out.mono HB8.out.size)
  have hbz := hbz.trans (HF8.out.below hbz.size (fun k hk => Nat.le_trans HWS.out (HLO.out k hk)))
  have HBZ := Lib.hid (hbz.trans (hb9.mono hbz.size))
  clear hrr hb9 hbz
  go_wp2_with fail
  go_ret
  exact ⟨rfl, HBZ.out⟩
end Go.Proofs.Ytmanoclahcpaoaa
