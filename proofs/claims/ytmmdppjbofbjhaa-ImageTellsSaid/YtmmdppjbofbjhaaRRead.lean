/- Walks: the reference's reader: byte, list. -/
import Derived.Test.YtmmdppjbofbjhaaRefB
import Derived.Test.YtmmdppjbofbjhaaReadP
namespace Go.Proofs.Ytmmdppjbofbjhaa
open Go.ChangeShapes Go.WideShapes Go.ChangeAt Go.RowKit

/-- the reference's reader at block p -/
def RRdr (w : World) (p : Nat) (s : RS) : Prop := w.heap[p]? = some (.cells #[.string s.1, .bool s.2] 145)
theorem RRdr.fr {F : Nat → Prop} {w w' : World} {p : Nat} {s : RS} (h : RRdr w p s) (hf : Fr F w w') (hn : ¬ F p) : RRdr w' p s := hf.heap h hn
theorem RRdr.alloc {w : World} {p : Nat} {s : RS} (h : RRdr w p s) (o : Obj) : RRdr (w.alloc o) p s := by
  unfold RRdr; rw [Below.heap_alloc _ _ _ (heap_lt h)]; exact h
theorem two_at0 {w : World} {p : Nat} {x y u : Value} {t : TypeId} (h : w.heap[p]? = some (.cells #[x, y] t)) : (w.setCell ⟨p, 0, none⟩ u).heap[p]? = some (.cells #[u, y] t) := row_set h 0 u
theorem two_at1 {w : World} {p : Nat} {x y u : Value} {t : TypeId} (h : w.heap[p]? = some (.cells #[x, y] t)) : (w.setCell ⟨p, 1, none⟩ u).heap[p]? = some (.cells #[x, u] t) := row_set h 1 u
theorem two_of {w : World} {p : Nat} {x y : Value} {t : TypeId} (h : w.heap[p]? = some (.cells #[x, y] t)) : w.cell? ⟨p, 0, none⟩ = some x ∧ w.cell? ⟨p, 1, none⟩ = some y ∧ w.frozen? ⟨p, 0, none⟩ = false ∧ w.frozen? ⟨p, 1, none⟩ = false :=
  ⟨(row_cell h 0).1, (row_cell h 1).1, (row_cell h 0).2, (row_cell h 1).2⟩
theorem empty_of (b : ByteArray) (h : b.size < 1) : b = ⟨#[]⟩ := by
  obtain ⟨⟨l⟩⟩ := b
  cases l with
  | nil => rfl
  | cons x l => simp [ByteArray.size] at h

set_option maxRecDepth 100000 in
set_option maxHeartbeats 1600000 in
theorem rbyte_any (w : World) (p : Nat) (s : RS) (hr : RRdr w p s) (hs : s.1.size ≤ 1000000) :
    Calls Try.prog 122 #[.pointer (some ⟨p, 0, none⟩)] w fun e w' => e = .returned (.int .i64 (rNum s).1) ∧ RRdr w' p (rNum s).2 ∧ Fr (onB p) w w' := by
  obtain ⟨b, bad⟩ := s
  obtain ⟨q0, q1, q2, q3⟩ := two_of (show _ = some (Obj.cells #[.string b, .bool bad] 145) from hr)
  dsimp only at hs
  by_cases h : b.size < 1
  · have e2 : rNum (b, bad) = (0, (⟨#[]⟩, true)) := by unfold rNum; rw [if_pos h]
    rw [e2]
    have hb := empty_of b h
    have h0 : b.size = 0 := by omega
    have hp : RRdr (w.setCell ⟨p, 1, none⟩ (.bool true)) p (⟨#[]⟩, true) ∧ Fr (onB p) w (w.setCell ⟨p, 1, none⟩ (.bool true)) := by
      refine ⟨?_, (Fr.refl (onB p) w).setCell (p := ⟨p, 1, none⟩) (fun _ => rfl) _⟩
      rw [← hb]; exact two_at1 hr
    clear e2 hr hb h
    have HP := Lib.hid hp; clear hp
    go_enter Try.func122, Try.ntmps122
    go_wp2_with fail
    go_ret
    exact ⟨rfl, HP.out⟩
  · have e2 : rNum (b, bad) = (gb b 0, (b.extract 1 b.size, bad)) := by unfold rNum; rw [if_neg h]
    rw [e2]
    have h0 : 0 < b.size := by omega
    have h1 : 1 ≤ b.size := by omega
    have hz : ((b.size : Int) == 0) = false := by rw [beq_eq_false_iff_ne]; omega
    have hg := gb_get b 0 h0
    have hbd := gb_bd b 0
    have hp : RRdr (w.setCell ⟨p, 0, none⟩ (.string (b.extract 1 b.size))) p (b.extract 1 b.size, bad) ∧ Fr (onB p) w (w.setCell ⟨p, 0, none⟩ (.string (b.extract 1 b.size))) :=
      ⟨two_at0 hr, (Fr.refl (onB p) w).setCell (p := ⟨p, 0, none⟩) (fun _ => rfl) _⟩
    generalize gb b 0 = x at *
    clear e2 hr h
    have HP := Lib.hid hp; clear hp
    go_enter Try.func122, Try.ntmps122
    go_wp2_with fail
    go_ret
    exact ⟨rfl, HP.out⟩

theorem rNum_mono (s : RS) (h : s.2 = true) : (rNum s).2.2 = true := by
  unfold rNum; split
  · rfl
  · exact h
theorem rNums_mono (s : RS) (n : Nat) (h : s.2 = true) : (rNums s n).2.2 = true := by
  induction n with
  | zero => exact h
  | succ n ih => exact rNum_mono _ ih
theorem rNums_later (s : RS) (k n : Nat) (hk : k ≤ n) (h : (rNums s k).2.2 = true) : (rNums s n).2.2 = true := by
  induction n with
  | zero => have : k = 0 := by omega
            rw [this] at h; exact h
  | succ n ih =>
    by_cases e : k = n + 1
    · rw [← e]; exact h
    · exact rNum_mono _ (ih (by omega))
theorem rList_mono (s : RS) (h : s.2 = true) : (rList s).2.2 = true := rNums_mono _ _ (rNum_mono s h)
def Emp (s : RS) : Prop := s.2 = true → s.1 = ⟨#[]⟩
theorem rNum_emp {s : RS} (h : Emp s) : Emp (rNum s).2 := by
  intro hb
  unfold rNum at hb ⊢
  by_cases hn : s.1.size < 1
  · rw [if_pos hn]
  · rw [if_neg hn] at hb
    have h2 := h hb
    rw [h2] at hn
    exact absurd (by decide) hn
theorem rNum_stop {s : RS} (h : Emp s) (hb : s.2 = true) : (rNum s).2 = s := by
  obtain ⟨b, t⟩ := s
  have hb : t = true := hb
  subst hb
  have h2 : b = ⟨#[]⟩ := h rfl
  subst h2
  rfl
theorem rNums_emp {s : RS} (h : Emp s) (n : Nat) : Emp (rNums s n).2 := by
  induction n with
  | zero => exact h
  | succ n ih => exact rNum_emp ih
theorem rNums_stop {s : RS} (h : Emp s) (k n : Nat) (hk : k ≤ n) (hb : (rNums s k).2.2 = true) : (rNums s n).2 = (rNums s k).2 := by
  induction n with
  | zero => have : k = 0 := by omega
            rw [this]
  | succ n ih =>
    by_cases e : k = n + 1
    · rw [← e]
    · have h1 := ih (by omega)
      show (rNum (rNums s n).2).2 = _
      rw [h1]
      exact rNum_stop (rNums_emp h k) hb
theorem rList_emp {s : RS} (h : Emp s) : Emp (rList s).2 := rNums_emp (rNum_emp h) _
theorem rList_stop {s : RS} (h : Emp s) (hb : s.2 = true) : (rList s).2 = s := by
  have h1 : (rNums (rNum s).2 (rNum s).1.toNat).2 = (rNums (rNum s).2 0).2 := rNums_stop (rNum_emp h) 0 _ (Nat.zero_le _) (rNum_mono s hb)
  exact h1.trans (rNum_stop h hb)
/-- what the reference's list leaves: it stops where there is too little -/
def RListPost (w : World) (p : Nat) (s : RS) (e : Ending) (w' : World) : Prop :=
  ∃ v l, e = .returned v ∧ Own intE w' w.heap.size v l ∧ RRdr w' p (rList s).2 ∧ Fr (onB p) w w' ∧ l.length ≤ 255 ∧ (l = (rList s).1 ∨ (rList s).2.2 = true)
set_option maxRecDepth 100000 in
set_option maxHeartbeats 1600000 in
theorem rrlist_any (w : World) (p : Nat) (s : RS) (hr : RRdr w p s) (hs : s.1.size ≤ 1000000) (he : Emp s) :
    Calls Try.prog 121 #[.pointer (some ⟨p, 0, none⟩)] w (RListPost w p s) := by
  have hpl := heap_lt hr
  have n1 := rbyte_any w p s hr hs
  have n2 := fun w1 k (h : RRdr w1 p (rNums (rNum s).2 k).2) => rbyte_any w1 p (rNums (rNum s).2 k).2 h (Nat.le_trans (rNums_size _ _) (Nat.le_trans (rNum_size _) hs))
  have hl : rList s = rNums (rNum s).2 (rNum s).1.toNat := rfl
  have hsz := rNum_size s
  have hbd := rNum_bd s
  have hem := rNum_emp he
  clear he
  generalize hg : rNum s = t at *
  obtain ⟨x, s1⟩ := t
  dsimp only at n1 n2 hbd hl hsz hem
  clear hg hr
  obtain ⟨n, rfl⟩ := Int.eq_ofNat_of_zero_le hbd.1
  rw [Int.toNat_natCast] at hl
  have hn : n < 256 := by omega
  clear hbd hs
  have N1 := Lib.hid n1; clear n1
  have N2 := Lib.hid n2; clear n2
  have HL := Lib.hid hl; clear hl
  have HSZ := Lib.hid hsz; clear hsz
  have HEM := Lib.hid hem; clear hem
  go_enter Try.func121, Try.ntmps121
  go_wp2_with fail
  refine N1.out.mono ?_
  rintro e w1 ⟨rfl, hr1, hf1⟩
  have HR1 := Lib.hid hr1; clear hr1
  have HF1 := Lib.hid hf1; clear hf1
  go_wp2_with fail
  go_loopw [3, 5] (fun v i wr => ∃ k : Nat, k ≤ n ∧ i = .int .i64 k ∧ Own intE wr w.heap.size v (rNums s1 k).1 ∧ RRdr wr p (rNums s1 k).2 ∧ Fr (onB p) w wr) (fun _ i _ => n - (intOf i).toNat)
  case atStart => exact ⟨0, Nat.zero_le _, rfl, Own.nil _ _ _, HR1.out, HF1.out⟩
  case round =>
    obtain ⟨k, hk, rfl, hown, hr2, hf2⟩ := hrel
    obtain ⟨q0, q1, _, _⟩ := two_of (show _ = some (Obj.cells #[.string (rNums s1 k).2.1, .bool (rNums s1 k).2.2] 145) from hr2)
    have hlk := rNums_len s1 k
    by_cases hlt : k < n
    · cases hbad : (rNums s1 k).2.2
      · rw [hbad] at q1
        have hc := N2.out _ k hr2
        clear hbad
        have HC := Lib.hid hc; clear hc
        have HOWN := Lib.hid hown; clear hown
        have HR2 := Lib.hid hr2; clear hr2
        have HF2 := Lib.hid hf2; clear hf2
        go_wp2_with fail
        refine HC.out.mono ?_
        rintro e w3 ⟨rfl, hr3, hf3⟩
        have hf4 := HF2.out.trans hf3 (fun _ _ h => h)
        have hown3 := HOWN.out.fr hf3 (fun m hm => by have := (HOWN.out.lt hm).1; unfold onB; omega)
        have hsn : rNums s1 (k + 1) = ((rNums s1 k).1 ++ [(rNum (rNums s1 k).2).1], (rNum (rNums s1 k).2).2) := rfl
        clear q0 q1
        generalize rNums s1 k = t at *
        obtain ⟨l, s2⟩ := t
        dsimp only at hsn hown3 hr3 hlk
        generalize rNum s2 = t at *
        obtain ⟨y, s3⟩ := t
        dsimp only at hsn hr3
        have HR3 := Lib.hid hr3; clear hr3
        have HF4 := Lib.hid hf4; clear hf4
        have HOWN3 := Lib.hid hown3; clear hown3
        have HSN := Lib.hid hsn; clear hsn
        clear hf3
        go_wp2_with (at_builtin; refine append_fresh intE rfl (.tmp 20) (.tmp 23) rfl w.heap.size l [y] _ rfl (HOWN3.out.alloc _) w3.heap.size 0 1 rfl (CellsAt.new _ _ _ _) ?c1 ?c2 ?_)
        case c1 => simp; omega
        case c2 => have := HF4.out.size; simp; omega
        intro v4 w4 hown4 hg4 _
        have hr4 : RRdr w4 p s3 := by
          have h1 := HR3.out.alloc (.cells #[.int .i64 y] 3)
          unfold RRdr at h1 ⊢
          rw [hg4.block p (heap_lt h1) (fun e => by have := (HOWN3.out.lt e.symm).1; omega)]
          exact h1
        have hf5 := (HF4.out.alloc _).grown hg4 (fun m hm hlt' => by have := (HOWN3.out.lt hm).1; omega)
        obtain ⟨a4, n4, c4, rfl⟩ := hown4.slice
        have HOWN4 := Lib.hid hown4; clear hown4
        have HR4 := Lib.hid hr4; clear hr4
        have HF5 := Lib.hid hf5; clear hf5
        clear hg4
        go_wp2_with fail
        go_roundw
        case rel =>
          refine ⟨k + 1, by omega, by go_num, ?_, ?_, HF5.out⟩
          · rw [HSN.out]; exact HOWN4.out
          · rw [HSN.out]; exact HR4.out
        case measure => simp [intOf]; omega
      · rw [hbad] at q1
        have hP : ∀ v, Own intE wr w.heap.size v (rNums s1 k).1 → RListPost w p s (.returned v) wr := fun v hv => ⟨v, _, rfl, hv, by rw [HL.out, rNums_stop HEM.out k n hk hbad]; exact hr2, hf2, by omega, .inr (by rw [HL.out]; exact rNums_later s1 k n hk hbad)⟩
        have HP := Lib.hid (hP _ hown)
        clear hP hown hr2 hf2 hbad hlk
        go_wp2_with fail
        go_ret
        exact HP.out
    · have hk' : k = n := by omega
      subst hk'
      have hP : ∀ v, Own intE wr w.heap.size v (rNums s1 k).1 → RListPost w p s (.returned v) wr := fun v hv => ⟨v, _, rfl, hv, by rw [HL.out]; exact hr2, hf2, by omega, .inl (by rw [HL.out])⟩
      have HP := Lib.hid (hP _ hown)
      clear hP hown hr2 hf2 hlk q0 q1
      go_wp2_with fail
      go_ret
      exact HP.out
end Go.Proofs.Ytmmdppjbofbjhaa
