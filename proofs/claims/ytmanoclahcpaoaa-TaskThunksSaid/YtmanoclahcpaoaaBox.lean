/- New blocks that stay: what a call boxes first. Nothing of the program stands here. -/
import Derived.Test.YtmanoclahcpaoaaFrame
namespace Go.Proofs.Ytmanoclahcpaoaa
open Go.RowKit

theorem box1 (w : World) (cs : Array Value) (t : TypeId) (wr : World) (h : Below (w.heap.size + 1) (w.alloc (.cells cs t)) wr) :
    (∀ j u, cs[j]? = some u → wr.cell? ⟨w.heap.size, j, none⟩ = some u) ∧ Below w.heap.size w wr ∧ w.heap.size + 1 ≤ wr.heap.size := by
  refine ⟨fun j u hj => ?_, ((Below.refl _ _).alloc (Nat.le_refl _) _).trans (h.mono (by simp)), by have := h.size; simpa using this⟩
  rw [h.cell (by simp), cell_new]; exact hj
theorem box2 (w : World) (cs cs' : Array Value) (t t' : TypeId) (wr : World) (h : Below (w.heap.size + 2) ((w.alloc (.cells cs t)).alloc (.cells cs' t')) wr) :
    (∀ j u, cs[j]? = some u → wr.cell? ⟨w.heap.size, j, none⟩ = some u) ∧ (∀ j u, cs'[j]? = some u → wr.cell? ⟨w.heap.size + 1, j, none⟩ = some u) ∧ Below w.heap.size w wr ∧ w.heap.size + 2 ≤ wr.heap.size := by
  refine ⟨fun j u hj => ?_, fun j u hj => ?_, (((Below.refl _ _).alloc (Nat.le_refl _) _).alloc (by simp) _).trans (h.mono (by simp)), by have := h.size; simpa using this⟩
  · rw [h.cell (by simp), cell_under _ _ (by simp), cell_new]; exact hj
  · rw [h.cell (by simp)]
    have := cell_new (w.alloc (.cells cs t)) cs' t' (0, 0) j
    rw [show (w.alloc (.cells cs t)).heap.size = w.heap.size + 1 from by simp] at this
    rw [this]; exact hj
theorem new2 (w : World) (cs cs' : Array Value) (t t' : TypeId) : (∀ j u, cs[j]? = some u → (((w.alloc (.cells cs t)).alloc (.cells cs' t')).drew).cell? ⟨w.heap.size, j, none⟩ = some u) ∧
    (∀ j u, cs'[j]? = some u → (((w.alloc (.cells cs t)).alloc (.cells cs' t')).drew).cell? ⟨w.heap.size + 1, j, none⟩ = some u) ∧ Below w.heap.size w (((w.alloc (.cells cs t)).alloc (.cells cs' t')).drew) :=
  have h := box2 w cs cs' t t' _ (Below.refl _ _)
  ⟨h.1, h.2.1, h.2.2.1.drew⟩
theorem Below.ofDrew {W W' : World} (h : ∃ n, W' = W.drewN n) : Below W.heap.size W W' := by
  obtain ⟨n, rfl⟩ := h
  exact below_drewN (Below.refl _ _) n
/-- a call that only reads, told as one that leaves what was there -/
theorem Calls.drawn {P : Program} {f : FuncId} {args : Array Value} {w : World} {v : Value} (h : Calls P f args w fun e w' => e = .returned v ∧ ∃ n, w' = w.drewN n) : Calls P f args w fun e w' => e = .returned v ∧ Below w.heap.size w w' :=
  h.mono fun _ _ ⟨he, hn⟩ => ⟨he, Below.ofDrew hn⟩
/-- what was there below a call's world, and its size -/
theorem bcell {W w1 : World} (hb : Below W.heap.size W w1) : (∀ b o, b < W.heap.size → w1.cell? ⟨b, o, none⟩ = W.cell? ⟨b, o, none⟩) ∧ (∀ b o, b < W.heap.size → w1.frozen? ⟨b, o, none⟩ = W.frozen? ⟨b, o, none⟩) ∧ W.heap.size ≤ w1.heap.size :=
  ⟨fun b o h => hb.cell (p := ⟨b, o, none⟩) h, fun b o h => hb.frozen (p := ⟨b, o, none⟩) h, hb.size⟩

/-- a new row that one owns -/
theorem own_new {P : Program} {α : Type} (E : Elem P α) (w : World) (l : List α) (cs : Array Value) (h : cs.toList = l.flatMap E.enc) (hl : l.length ≤ maxLen) : Own E (w.alloc (.cells cs E.e)) w.heap.size (.slice (some ⟨w.heap.size, 0, none⟩) l.length l.length) l := by
  refine ⟨E.len l, .inr ⟨w.heap.size, l.length, cs, rfl, Nat.le_refl _, heap_new w _, Nat.le_refl _, hl, ?_, ?_⟩⟩
  · rw [← E.len l, ← h]; simp
  · rw [h, List.take_of_length_le]; rw [E.len l]; exact Nat.le_refl _
end Go.Proofs.Ytmanoclahcpaoaa
