/- Rows of cells that are written in part. Nothing of the program's text stands here. -/
import Derived.Test.YtmanoclahcpaoaaTkA
import Derived.Lib.SliceRun
import Derived.Laws.MakeOwn
namespace Go.Proofs.Ytmanoclahcpaoaa
open Go.ChangeShapes Go.WideShapes Go.ChangeAt Go.RowKit

theorem row_cell {w : World} {q : Nat} {cs : Array Value} {t : TypeId} (h : w.heap[q]? = some (.cells cs t)) (j : Nat) : w.cell? ⟨q, j, none⟩ = cs[j]? ∧ w.frozen? ⟨q, j, none⟩ = false := by
  simp [World.cell?, World.frozen?, h]
theorem row_set {w : World} {q : Nat} {cs : Array Value} {t : TypeId} (h : w.heap[q]? = some (.cells cs t)) (j : Nat) (u : Value) : (w.setCell ⟨q, j, none⟩ u).heap[q]? = some (.cells (cs.setIfInBounds j u) t) := by
  simp only [World.setCell, Array.getElem?_modify, if_pos rfl, h, Option.map]
  rfl
theorem row_alloc {w : World} {q : Nat} {ob : Obj} (h : w.heap[q]? = some ob) (o : Obj) : (w.alloc o).heap[q]? = some ob := by
  rw [Below.heap_alloc _ _ _ (heap_lt h)]; exact h
/-- a list of numbers as a block -/
def intRow (l : List Int) (t : TypeId) : Obj := .cells (l.map (Value.int .i64)).toArray t
theorem intRow_set {w : World} {q : Nat} {l : List Int} {t : TypeId} (h : w.heap[q]? = some (intRow l t)) (j : Nat) (x : Int) : (w.setCell ⟨q, j, none⟩ (.int .i64 x)).heap[q]? = some (intRow (l.set j x) t) := by
  unfold intRow at h ⊢
  rw [row_set h]
  congr 2
  apply Array.ext'
  simp
theorem intRow_sets {q : Nat} {t : TypeId} (n : Nat) : ∀ (w : World) (o : Nat) (l : List Int), w.heap[q]? = some (intRow l t) → (w.setCells q o (List.replicate n (.int .i64 0))).heap[q]? = some (intRow ((List.range n).foldl (fun s i => s.set (o + i) 0) l) t) := by
  induction n with
  | zero => intro w o l h; simpa [World.setCells] using h
  | succ n ih =>
    intro w o l h
    have h1 := intRow_set h o 0
    have h2 := ih _ (o + 1) _ h1
    rw [List.replicate_succ]
    have e : (List.range (n + 1)).foldl (fun s i => s.set (o + i) 0) l = (List.range n).foldl (fun s i => s.set (o + 1 + i) 0) (l.set o 0) := by
      rw [List.range_succ_eq_map, List.foldl_cons, List.foldl_map]
      congr 1
      funext s i
      congr 1
      omega
    rw [e]
    exact h2
theorem clear_len (n : Nat) : ∀ (o : Nat) (l : List Int), ((List.range n).foldl (fun s i => s.set (o + i) 0) l).length = l.length := by
  induction n with
  | zero => intro o l; rfl
  | succ n ih => intro o l; rw [List.range_succ, List.foldl_append]; simp [ih]
theorem sets_fr {q : Nat} (vs : List Value) : ∀ (w : World) (o : Nat), Fr (fun k => k = q) w (w.setCells q o vs) := by
  induction vs with
  | nil => intro w o; exact Fr.refl _ _
  | cons v vs ih =>
    intro w o
    exact ((Fr.refl (fun k => k = q) w).setCell (p := ⟨q, o, none⟩) (fun _ => rfl) v).trans (ih _ _) (fun k _ h => h)
end Go.Proofs.Ytmanoclahcpaoaa
