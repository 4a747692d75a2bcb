/- Walks: words of a stack are cleared. -/
import Derived.Test.YtmanoclahcpaoaaTkL
namespace Go.Proofs.Ytmanoclahcpaoaa
open Go.ChangeShapes Go.WideShapes Go.ChangeAt Go.RowKit Go.Maps

/-- n numbers from o on are 0 -/
def clearL (l : List Int) (o n : Nat) : List Int := (List.range n).foldl (fun s i => s.set (o + i) 0) l
theorem clearL_len (l : List Int) (o n : Nat) : (clearL l o n).length = l.length := clear_len n o l
set_option maxRecDepth 100000 in
theorem zero_int (w : World) : (zeroValue 3).run Try.prog w = .ok (.int .i64 0) w := by kernel_rfl
set_option maxRecDepth 100000 in
set_option maxHeartbeats 1600000 in
theorem clear_any (w : World) (sb wb : Nat) (base : Int) (l : List Int) (h : StAt w sb wb base l) (hl : l.length ≤ 100000) (o n : Nat) (hn : 0 < n) (hon : o + n ≤ l.length) :
    Calls Try.prog 44 #[.pointer (some ⟨sb, 0, none⟩), .int .i64 o, .int .i64 (o + n : Nat)] w fun e w' => e = .returned (.tuple #[]) ∧ w' = w.setCells wb o (List.replicate n (.int .i64 0)) := by
  have ws := stWords_any w sb wb base l h
  obtain ⟨_, k1⟩ := h.cells
  have hcl : ∀ (c : Nat) ty, (Builtin.clear_ #[23] ty #[.slice (some ⟨wb, o, none⟩) n c]).run Try.prog w = .ok (.tuple #[]) (w.setCells wb o (List.replicate n (.int .i64 0))) := fun c ty =>
    Lib.run_clear_slice w 23 3 ty (.int .i64 0) Try.underlying23 zero_int rfl rfl wb o n c hn (fun j hj => by rw [(h.word (o + j) (by omega)).1]; rfl) (fun j hj => (h.word (o + j) (by omega)).2)
  clear h
  obtain ⟨e, he⟩ : ∃ e, e = o + n := ⟨_, rfl⟩
  rw [← he]
  have n0 : (0 : Int) ≤ (o : Int) := by omega
  have n1 : (e : Int) ≤ (l.length : Int) := by omega
  have n2 : (o : Int) < (e : Int) := by omega
  have n3 : ¬ (l.length : Int) < (e : Int) := by omega
  have n4 : e - o = n := by omega
  have n5 : e ≤ l.length := by omega
  have n6 : o ≤ e := by omega
  have n7 : (o : Int) ≤ (e : Int) := by omega
  clear he hon
  have WS := Lib.hid ws; clear ws
  go_enter Try.func44, Try.ntmps44
  go_wp2_with fail
  refine WS.out.mono ?_
  rintro e w' ⟨rfl, rfl⟩
  go_wp2_with (simp only [hcl])
  go_end0
  exact ⟨rfl, rfl⟩
end Go.Proofs.Ytmanoclahcpaoaa
