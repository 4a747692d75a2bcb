/- Laws on memory that the walks share: bytes as a string, rows of cells. Nothing of the program stands here. -/
import Derived.WalkKit
import Derived.Handy
import Derived.WalkSpells
import Derived.Lib.Hide
import Derived.Deep.Draws
namespace Go.Proofs.Ytmanoclahcpaoaa
open Go.RowKit

/-- numbers as bytes -/
def bytesS (ns : List Int) : ByteArray := ⟨(ns.map fun n => UInt8.ofNat n.toNat).toArray⟩
theorem fold_push (ns : List Int) : ∀ (s : ByteArray), ns.foldl (fun r n => r.push (UInt8.ofNat n.toNat)) s = ⟨s.data ++ (ns.map fun n => UInt8.ofNat n.toNat).toArray⟩ := by
  induction ns with
  | nil => intro s; simp
  | cons n ns ih =>
    intro s
    rw [List.foldl_cons, ih]
    congr 1
    show s.data.push _ ++ _ = _
    apply Array.ext'
    simp
theorem run_str {P : Program} (w : World) (src dst e : TypeId) (a : Addr) (cap : Nat) (ns : List Int)
    (hs : P.underlying src = some (.slice e)) (he : P.underlying e = some (.int .u8)) (hd : P.underlying dst = some .string)
    (h : ∀ j v, (ns.map (Value.int .u8))[j]? = some v → w.cell? (a.add j) = some v) :
    (convert src dst (.slice (some a) ns.length cap)).run P w = .ok (.string (bytesS ns)) w := by
  rw [run_convert_bytes_string w src dst e _ _ _ hs he hd]
  have hl := run_loadCells_list (P := P) (w := w) a (ns.map (Value.int .u8)) h
  rw [List.length_map] at hl
  rw [run_bytesToString w a ns.length cap ns hl, fold_push]
  show Result.ok (Value.string ⟨#[] ++ _⟩) w = _
  simp [bytesS]
theorem heap_new (w : World) (o : Obj) : (w.alloc o).heap[w.heap.size]? = some o := by
  show (w.heap.push _)[w.heap.size]? = _
  simp
theorem cell_new (w : World) (c : Array Value) (t : TypeId) (fz : Nat × Nat) (j : Nat) : (w.alloc (.cells c t fz)).cell? ⟨w.heap.size, j, none⟩ = c[j]? := by
  unfold World.cell?
  rw [heap_new]
  rfl
theorem cell_under (w : World) (o : Obj) {p : Addr} (h : p.block < w.heap.size) : (w.alloc o).cell? p = w.cell? p :=
  World.cell?_of_block (w := w) (Below.heap_alloc w o _ h)
theorem below_drewN {B : Nat} {a w : World} (h : Below B a w) (n : Nat) : Below B a (w.drewN n) := h.trans ⟨rfl, rfl, rfl, Nat.le_refl _, fun _ _ => rfl⟩
/-- four new bytes as a string -/
theorem run_str4 {P : Program} (w : World) (src dst e : TypeId) (cap : Nat) (x0 x1 x2 x3 : Int) (t : TypeId)
    (hs : P.underlying src = some (.slice e)) (he : P.underlying e = some (.int .u8)) (hd : P.underlying dst = some .string) :
    (convert src dst (.slice (some ⟨w.heap.size, 0, none⟩) 4 cap)).run P (w.alloc (.cells #[.int .u8 x0, .int .u8 x1, .int .u8 x2, .int .u8 x3] t)) = .ok (.string (bytesS [x0, x1, x2, x3])) (w.alloc (.cells #[.int .u8 x0, .int .u8 x1, .int .u8 x2, .int .u8 x3] t)) := by
  refine run_str (P := P) _ src dst e _ cap [x0, x1, x2, x3] hs he hd ?_
  intro j v hv
  match j, hv with
  | 0, hv => show World.cell? _ ⟨w.heap.size, 0, none⟩ = _; rw [cell_new]; exact hv
  | 1, hv => show World.cell? _ ⟨w.heap.size, 1, none⟩ = _; rw [cell_new]; exact hv
  | 2, hv => show World.cell? _ ⟨w.heap.size, 2, none⟩ = _; rw [cell_new]; exact hv
  | 3, hv => show World.cell? _ ⟨w.heap.size, 3, none⟩ = _; rw [cell_new]; exact hv
end Go.Proofs.Ytmanoclahcpaoaa
