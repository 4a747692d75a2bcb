/- Walks: Task.Set, Task.Slot. -/
import Derived.Test.YtmanoclahcpaoaaTkI
namespace Go.Proofs.Ytmanoclahcpaoaa
open Go.ChangeShapes Go.WideShapes Go.ChangeAt Go.RowKit Go.Maps

set_option maxRecDepth 100000 in
set_option maxHeartbeats 1600000 in
theorem set_in (w : World) (F : Nat → Prop) (tb : Nat) (p : TPrg) (T : Tk) (X : TB) (h : TaskAt w F tb p T X) (ht : TkOk T) (n : Nat) (hn : T.parts.length = n + 1) (j : Nat) (hj : j < p.funcs.length) (hfj : (T.parts[n]'(by omega)).fn = j) (bn : Nat) (hbn : (T.parts[n]'(by omega)).base = bn) (s : Nat) (hs : (s : Int) < p.funcs[j].slots) (hs2 : s ≤ 3000) (hin : bn + (2 + s) < T.words.length) (v : Int) :
    Calls Try.prog 14 #[.pointer (some ⟨tb, 0, none⟩), .int .i64 s, .int .i64 v] w fun e w' => e = .returned (.bool true) ∧ TaskAt w' F tb p ⟨T.base, T.words.set (bn + (2 + s)) v, T.parts, T.marks⟩ X ∧ Fr F w w' := by
  have hlt : n < T.parts.length := by omega
  have dp := fun wr (hw : Below w.heap.size w wr) => depth_any wr F tb p T X (h.below hw)
  have of := fun wr (hw : Below w.heap.size w wr) => off_in wr F tb p T X (h.below hw) ht n hlt j hj hfj s hs hs2
  obtain ⟨_, _, _, q3, _⟩ := h.cells
  rw [hn] at dp
  rw [hbn] at of
  have i1 : IntKind.i64.wrap (((n + 1 : Nat) : Int) - 1) = (n : Int) := by rw [show (((n + 1 : Nat) : Int) - 1) = (n : Int) from by omega]; exact IntWalk.i64_in _ (by have := ht.1; omega)
  have of : ∀ wr, Below w.heap.size w wr → Calls Try.prog 32 #[.pointer (some ⟨tb, 0, none⟩), .agg #[.int .i64 n, .int .i64 s]] wr fun e w' => e = .returned (.int .i64 (bn + (2 + s) : Nat)) ∧ Below wr.heap.size wr w' := fun wr hw => by
    have := of wr hw
    rw [show ((bn : Int) + (2 + (s : Int))) = ((bn + (2 + s) : Nat) : Int) from by omega] at this
    exact this
  have st := fun wr (hw : Below w.heap.size w wr) => stStore_in wr X.sb X.wb T.base T.words (h.below hw).st (bn + (2 + s)) hin v
  have hfin : ∀ wr, Below w.heap.size w wr → TaskAt (wr.setCell ⟨X.wb, bn + (2 + s), none⟩ (.int .i64 v)) F tb p ⟨T.base, T.words.set (bn + (2 + s)) v, T.parts, T.marks⟩ X ∧ Fr F w (wr.setCell ⟨X.wb, bn + (2 + s), none⟩ (.int .i64 v)) := fun wr hw => ⟨(h.below hw).store _ _, (Fr.of_below hw F).setCell (p := ⟨X.wb, bn + (2 + s), none⟩) (fun _ => h.fw) _⟩
  have hr0 := (Below.refl w.heap.size w).drew
  generalize bn + (2 + s) = off at *
  obtain ⟨N, hN⟩ : ∃ N, N = n + 1 := ⟨_, rfl⟩
  rw [← hN] at i1 dp
  clear hN hlt hbn hfj hj hs hs2 hin hn h ht
  have DP := Lib.hid dp; clear dp
  have OF := Lib.hid of; clear of
  have ST := Lib.hid st; clear st
  have HFIN := Lib.hid hfin; clear hfin
  have HR0 := Lib.hid hr0; clear hr0
  go_enter Try.func14, Try.ntmps14
  go_upto_region 1 with fail
  go_region_held3 (fun w' => w'.cell? ⟨tb, 3, none⟩ = some (.pointer (some ⟨X.sb, 0, none⟩))) (first | go_keep | exact q3 | exact qq3 | exact qq4) (first | (go_at_call 12; refine (DP.out _ HR0.out).mono ?_; rintro e wq ⟨rfl, rfl⟩) | (go_at_call 32; refine (OF.out _ HR0.out).mono ?_; rintro e w3 ⟨rfl, hb3⟩; have hbw := HR0.out.trans (hb3.mono HR0.out.size); have qq3 := below_cell hbw q3) | (go_at_call 31; refine (ST.out w3 hbw).mono ?_; rintro e w4 ⟨rfl, rfl⟩; have qq4 := (HFIN.out w3 hbw).1.cells.2.2.2.1))
  all_goals
    have hf := HFIN.out w3 hbw
    clear hb3
    have HF := Lib.hid hf; clear hf
    have HBW := Lib.hid hbw; clear hbw
    go_wp2_with fail
    go_ret
    exact ⟨rfl, HF.out⟩
set_option maxRecDepth 100000 in
set_option maxHeartbeats 1600000 in
theorem slot_in (w : World) (F : Nat → Prop) (tb : Nat) (p : TPrg) (T : Tk) (X : TB) (h : TaskAt w F tb p T X) (ht : TkOk T) (n : Nat) (hn : T.parts.length = n + 1) (j : Nat) (hj : j < p.funcs.length) (hfj : (T.parts[n]'(by omega)).fn = j) (bn : Nat) (hbn : (T.parts[n]'(by omega)).base = bn) (s : Nat) (hs : (s : Int) < p.funcs[j].slots) (hs2 : s ≤ 3000) (hin : bn + (2 + s) < T.words.length) :
    Calls Try.prog 15 #[.pointer (some ⟨tb, 0, none⟩), .int .i64 s] w fun e w' => e = .returned (.int .i64 (T.words[bn + (2 + s)]'hin)) ∧ Below w.heap.size w w' := by
  have hlt : n < T.parts.length := by omega
  have dp := fun wr (hw : Below w.heap.size w wr) => depth_any wr F tb p T X (h.below hw)
  have of := fun wr (hw : Below w.heap.size w wr) => off_in wr F tb p T X (h.below hw) ht n hlt j hj hfj s hs hs2
  obtain ⟨_, _, _, q3, _⟩ := h.cells
  rw [hn] at dp
  rw [hbn] at of
  have i1 : IntKind.i64.wrap (((n + 1 : Nat) : Int) - 1) = (n : Int) := by rw [show (((n + 1 : Nat) : Int) - 1) = (n : Int) from by omega]; exact IntWalk.i64_in _ (by have := ht.1; omega)
  have of : ∀ wr, Below w.heap.size w wr → Calls Try.prog 32 #[.pointer (some ⟨tb, 0, none⟩), .agg #[.int .i64 n, .int .i64 s]] wr fun e w' => e = .returned (.int .i64 (bn + (2 + s) : Nat)) ∧ Below wr.heap.size wr w' := fun wr hw => by
    have := of wr hw
    rw [show ((bn : Int) + (2 + (s : Int))) = ((bn + (2 + s) : Nat) : Int) from by omega] at this
    exact this
  have ld : ∀ V : BelowW w, Calls Try.prog 33 _ V.val _ := fun V => stLoad_in V.val X.sb X.wb T.base T.words (h.below V.2).st (bn + (2 + s)) hin
  have dp : ∀ V : BelowW w, Calls Try.prog 12 _ V.val _ := fun V => dp V.val V.2
  have of : ∀ V : BelowW w, Calls Try.prog 32 _ V.val _ := fun V => of V.val V.2
  have Q3 := fun V : BelowW w => V.cell q3
  generalize T.words[bn + (2 + s)] = x at *
  generalize bn + (2 + s) = off at *
  obtain ⟨N, hN⟩ : ∃ N, N = n + 1 := ⟨_, rfl⟩
  rw [← hN] at i1 dp
  clear hN hlt hbn hfj hj hs hs2 hin hn h ht q3
  have DP := Lib.hid dp; clear dp
  have OF := Lib.hid of; clear of
  have LD := Lib.hid ld; clear ld
  go_enter Try.func15, Try.ntmps15
  go_upto_region 3 with fail
  refine wp_region_below (by kernel_rfl) (by kernel_rfl) ?_
  repeat (go_big_quiet_step (first | (go_at_call 12; exact Calls.below_same (DP.out _)) | (go_at_call 32; exact Calls.below_of (OF.out _)) | (go_at_call 33; exact Calls.below_same (LD.out _))))
  refine wpQuiet_nil ?_
  rintro _ ⟨WL, rfl⟩
  have HL := Lib.hid WL.2
  go_wp2_with fail
  go_ret
  exact ⟨rfl, HL.out⟩
end Go.Proofs.Ytmanoclahcpaoaa
