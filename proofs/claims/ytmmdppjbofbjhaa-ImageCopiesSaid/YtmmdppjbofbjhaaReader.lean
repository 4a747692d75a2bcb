/- Walks: package image's reader: take, num, list. -/
import Derived.Test.YtmmdppjbofbjhaaLayP
namespace Go.Proofs.Ytmmdppjbofbjhaa
open Go.ChangeShapes Go.WideShapes Go.ChangeAt Go.RowKit

/-- a reader's state: what is left, and whether it was too little -/
abbrev RS := ByteArray × Bool
def rTake (s : RS) (n : Nat) : ByteArray × RS := if s.1.size < n then (⟨#[]⟩, (⟨#[]⟩, true)) else (s.1.extract 0 n, (s.1.extract n s.1.size, s.2))
def rNum (s : RS) : Int × RS := if s.1.size < 1 then (0, (⟨#[]⟩, true)) else (gb s.1 0, (s.1.extract 1 s.1.size, s.2))
def rNums (s : RS) : Nat → List Int × RS
  | 0 => ([], s)
  | n + 1 => ((rNums s n).1 ++ [(rNum (rNums s n).2).1], (rNum (rNums s n).2).2)
def rList (s : RS) : List Int × RS := rNums (rNum s).2 (rNum s).1.toNat
theorem rNum_bd (s : RS) : 0 ≤ (rNum s).1 ∧ (rNum s).1 < 256 := by
  unfold rNum
  split
  · exact ⟨Int.le_refl 0, by show (0 : Int) < 256; omega⟩
  · exact gb_bd _ _
theorem rNums_len (s : RS) (n : Nat) : (rNums s n).1.length = n := by
  induction n with
  | zero => rfl
  | succ n ih => simp [rNums, ih]
theorem rNum_size (s : RS) : (rNum s).2.1.size ≤ s.1.size := by
  unfold rNum
  split
  · exact Nat.zero_le _
  · rw [ByteArray.size_extract]; omega
theorem rNums_size (s : RS) (n : Nat) : (rNums s n).2.1.size ≤ s.1.size := by
  induction n with
  | zero => exact Nat.le_refl _
  | succ n ih => exact Nat.le_trans (rNum_size _) ih
theorem rList_size (s : RS) : (rList s).2.1.size ≤ s.1.size := Nat.le_trans (rNums_size _ _) (rNum_size _)
theorem rTake_size (s : RS) (n : Nat) : (rTake s n).2.1.size ≤ s.1.size := by
  unfold rTake
  split
  · exact Nat.zero_le _
  · rw [ByteArray.size_extract]; omega
/-- the reader at block p -/
def Rdr (w : World) (p : Nat) (s : RS) : Prop := w.heap[p]? = some (.cells #[.string s.1, .bool s.2] 139)
def onB (p : Nat) : Nat → Prop := fun k => k = p
theorem Rdr.fr {F : Nat → Prop} {w w' : World} {p : Nat} {s : RS} (h : Rdr w p s) (hf : Fr F w w') (hn : ¬ F p) : Rdr w' p s := hf.heap h hn
theorem Rdr.alloc {w : World} {p : Nat} {s : RS} (h : Rdr w p s) (o : Obj) : Rdr (w.alloc o) p s := by
  unfold Rdr; rw [Below.heap_alloc _ _ _ (heap_lt h)]; exact h

theorem isEmpty_iff (b : ByteArray) : b.toList.isEmpty = decide (b.size < 1) := by
  rw [ByteArray.toList_eq]
  obtain ⟨⟨l⟩⟩ := b
  cases l <;> simp [ByteArray.size]

set_option maxRecDepth 100000 in
set_option maxHeartbeats 1600000 in
theorem take_any (w : World) (p : Nat) (s : RS) (hr : Rdr w p s) (n : Nat) (hn : n ≤ 1000000) (hs : s.1.size ≤ 1000000) :
    Calls Try.prog 159 #[.pointer (some ⟨p, 0, none⟩), .int .i64 n] w fun e w' => e = .returned (.string (rTake s n).1) ∧ Rdr w' p (rTake s n).2 ∧ Fr (onB p) w w' := by
  obtain ⟨b, bad⟩ := s
  obtain ⟨q0, q1, q2, q3⟩ := two_cells (show _ = some (Obj.cells #[.string b, .bool bad] 139) from hr)
  dsimp only at hs
  by_cases h : b.size < n
  · have e : rTake (b, bad) n = (⟨#[]⟩, (⟨#[]⟩, true)) := by unfold rTake; rw [if_pos h]
    rw [e]
    have hp : Rdr ((w.setCell ⟨p, 1, none⟩ (.bool true)).setCell ⟨p, 0, none⟩ (.string ⟨#[]⟩)) p (⟨#[]⟩, true) ∧ Fr (onB p) w ((w.setCell ⟨p, 1, none⟩ (.bool true)).setCell ⟨p, 0, none⟩ (.string ⟨#[]⟩)) :=
      ⟨two_set0 (two_set1 hr), ((Fr.refl (onB p) w).setCell (p := ⟨p, 1, none⟩) (fun _ => rfl) _).setCell (p := ⟨p, 0, none⟩) (fun _ => rfl) _⟩
    clear e hr
    have HP := Lib.hid hp; clear hp
    go_enter Try.func159, Try.ntmps159
    go_wp2_with fail
    go_ret
    exact ⟨rfl, HP.out⟩
  · have e : rTake (b, bad) n = (b.extract 0 n, (b.extract n b.size, bad)) := by unfold rTake; rw [if_neg h]
    rw [e]
    have hp : Rdr (w.setCell ⟨p, 0, none⟩ (.string (b.extract n b.size))) p (b.extract n b.size, bad) ∧ Fr (onB p) w (w.setCell ⟨p, 0, none⟩ (.string (b.extract n b.size))) :=
      ⟨two_set0 hr, (Fr.refl (onB p) w).setCell (p := ⟨p, 0, none⟩) (fun _ => rfl) _⟩
    clear e hr
    have HP := Lib.hid hp; clear hp
    go_enter Try.func159, Try.ntmps159
    go_wp2_with fail
    go_ret
    exact ⟨rfl, HP.out⟩

set_option maxRecDepth 100000 in
set_option maxHeartbeats 1600000 in
theorem num_any (w : World) (p : Nat) (s : RS) (hr : Rdr w p s) (hs : s.1.size ≤ 1000000) :
    Calls Try.prog 119 #[.pointer (some ⟨p, 0, none⟩)] w fun e w' => e = .returned (.int .i64 (rNum s).1) ∧ Rdr w' p (rNum s).2 ∧ Fr (onB p) w w' := by
  have ht := take_any w p s hr 1 (by omega) hs
  by_cases h : s.1.size < 1
  · have e1 : rTake s 1 = (⟨#[]⟩, (⟨#[]⟩, true)) := by unfold rTake; rw [if_pos h]
    have e2 : rNum s = (0, (⟨#[]⟩, true)) := by unfold rNum; rw [if_pos h]
    rw [e1] at ht
    rw [e2]
    have he : (⟨#[]⟩ : ByteArray).toList.isEmpty = true := by rw [ByteArray.toList_eq]; rfl
    clear e1 e2 h hr hs
    have HT := Lib.hid ht; clear ht
    go_enter Try.func119, Try.ntmps119
    go_wp2_with fail
    refine HT.out.mono ?_
    rintro e w1 ⟨rfl, hp⟩
    have HP := Lib.hid hp; clear hp
    go_wp2_with fail
    go_ret
    exact ⟨rfl, HP.out⟩
  · have e1 : rTake s 1 = (s.1.extract 0 1, (s.1.extract 1 s.1.size, s.2)) := by unfold rTake; rw [if_neg h]
    have e2 : rNum s = (gb s.1 0, (s.1.extract 1 s.1.size, s.2)) := by unfold rNum; rw [if_neg h]
    rw [e1] at ht
    rw [e2]
    have hx : (s.1.extract 0 1).size = 1 := by rw [ByteArray.size_extract]; omega
    have he : (s.1.extract 0 1).toList.isEmpty = false := by rw [isEmpty_iff]; simp [hx]
    have h0 : 0 < (s.1.extract 0 1).size := by omega
    have hg : (((s.1.extract 0 1)[0]).toNat : Int) = gb s.1 0 := by
      rw [gb_get _ 0 h0]
      exact gb_extract s.1 1 0 (by omega) (by omega)
    have hbd := gb_bd s.1 0
    generalize s.1.extract 0 1 = b1 at *
    generalize gb s.1 0 = x at *
    clear e1 e2 h hr hs hx
    have HT := Lib.hid ht; clear ht
    go_enter Try.func119, Try.ntmps119
    go_wp2_with fail
    refine HT.out.mono ?_
    rintro e w1 ⟨rfl, hp⟩
    have HP := Lib.hid hp; clear hp
    go_wp2_with fail
    go_ret
    exact ⟨rfl, HP.out⟩

set_option maxRecDepth 100000 in
set_option maxHeartbeats 1600000 in
theorem rlist_any (w : World) (p : Nat) (s : RS) (hr : Rdr w p s) (hs : s.1.size ≤ 1000000) :
    Calls Try.prog 118 #[.pointer (some ⟨p, 0, none⟩)] w fun e w' => ∃ v, e = .returned v ∧ Own intE w' w.heap.size v (rList s).1 ∧ Rdr w' p (rList s).2 ∧ Fr (onB p) w w' := by
  have hpl := heap_lt hr
  have n1 := num_any w p s hr hs
  have n2 := fun w1 k (h : Rdr w1 p (rNums (rNum s).2 k).2) => num_any w1 p (rNums (rNum s).2 k).2 h (Nat.le_trans (rNums_size _ _) (Nat.le_trans (rNum_size _) hs))
  have hl : rList s = rNums (rNum s).2 (rNum s).1.toNat := rfl
  rw [hl]
  clear hl
  have hbd := rNum_bd s
  generalize rNum s = t at *
  obtain ⟨x, s1⟩ := t
  dsimp only at n1 n2 hbd ⊢
  clear hr
  obtain ⟨n, rfl⟩ := Int.eq_ofNat_of_zero_le hbd.1
  rw [Int.toNat_natCast]
  have hn : n < 256 := by omega
  clear hbd hs
  have N1 := Lib.hid n1; clear n1
  have N2 := Lib.hid n2; clear n2
  go_enter Try.func118, Try.ntmps118
  go_wp2_with fail
  refine N1.out.mono ?_
  rintro e w1 ⟨rfl, hr1, hf1⟩
  have HR1 := Lib.hid hr1; clear hr1
  have HF1 := Lib.hid hf1; clear hf1
  go_wp2_with fail
  go_loopw [3, 6] (fun v i wr => ∃ k : Nat, k ≤ n ∧ i = .int .i64 k ∧ Own intE wr w.heap.size v (rNums s1 k).1 ∧ Rdr wr p (rNums s1 k).2 ∧ Fr (onB p) w wr) (fun _ i _ => n - (intOf i).toNat)
  case atStart => exact ⟨0, Nat.zero_le _, rfl, Own.nil _ _ _, HR1.out, HF1.out⟩
  case round =>
    obtain ⟨k, hk, rfl, hown, hr2, hf2⟩ := hrel
    by_cases hlt : k < n
    · have hc := N2.out _ k hr2
      have HC := Lib.hid hc; clear hc
      have HOWN := Lib.hid hown; clear hown
      have HR2 := Lib.hid hr2; clear hr2
      have HF2 := Lib.hid hf2; clear hf2
      go_wp2_with fail
      refine HC.out.mono ?_
      rintro e w3 ⟨rfl, hr3, hf3⟩
      have hf4 := HF2.out.trans hf3 (fun _ _ h => h)
      have hown3 := HOWN.out.fr hf3 (fun m hm => by have := (HOWN.out.lt hm).1; unfold onB; omega)
      have hsn : rNums s1 (k + 1) = ((rNums s1 k).1 ++ [(rNum (rNums s1 k).2).1], (rNum (rNums s1 k).2).2) := rfl
      have hlk := rNums_len s1 k
      generalize rNums s1 k = t at *
      obtain ⟨l, s2⟩ := t
      dsimp only at hsn hown3 hr3 hlk
      generalize rNum s2 = t at *
      obtain ⟨y, s3⟩ := t
      dsimp only at hsn hr3
      have HR3 := Lib.hid hr3; clear hr3
      have HF4 := Lib.hid hf4; clear hf4
      have HOWN3 := Lib.hid hown3; clear hown3
      have HSN := Lib.hid hsn; clear hsn
      clear hf3
      go_wp2_with (at_builtin; refine append_fresh intE rfl (.tmp 8) (.tmp 11) rfl w.heap.size l [y] _ rfl (HOWN3.out.alloc _) w3.heap.size 0 1 rfl (CellsAt.new _ _ _ _) ?c1 ?c2 ?_)
      case c1 => simp; omega
      case c2 => have := HF4.out.size; simp; omega
      intro v4 w4 hown4 hg4 _
      have hr4 : Rdr w4 p s3 := by
        have h1 := HR3.out.alloc (.cells #[.int .i64 y] 3)
        unfold Rdr at h1 ⊢
        rw [hg4.block p (heap_lt h1) (fun e => by have := (HOWN3.out.lt e.symm).1; omega)]
        exact h1
      have hf5 := (HF4.out.alloc _).grown hg4 (fun m hm hlt' => by have := (HOWN3.out.lt hm).1; omega)
      obtain ⟨a4, n4, c4, rfl⟩ := hown4.slice
      have HOWN4 := Lib.hid hown4; clear hown4
      have HR4 := Lib.hid hr4; clear hr4
      have HF5 := Lib.hid hf5; clear hf5
      clear hg4
      go_wp2_with fail
      go_roundw
      case rel =>
        refine ⟨k + 1, by omega, by go_num, ?_, ?_, HF5.out⟩
        · rw [HSN.out]; exact HOWN4.out
        · rw [HSN.out]; exact HR4.out
      case measure => simp [intOf]; omega
    · have hk' : k = n := by omega
      subst hk'
      have hP : ∀ v, Own intE wr w.heap.size v (rNums s1 k).1 → ∃ v', Ending.returned v = .returned v' ∧ Own intE wr w.heap.size v' (rNums s1 k).1 ∧ Rdr wr p (rNums s1 k).2 ∧ Fr (onB p) w wr := fun v hv => ⟨v, rfl, hv, hr2, hf2⟩
      have HP := Lib.hid (hP _ hown)
      clear hP hown hr2 hf2
      go_wp2_with fail
      go_ret
      exact HP.out
end Go.Proofs.Ytmmdppjbofbjhaa
