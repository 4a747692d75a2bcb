/- Walk: instr.Read and the reference's ReadCode: the instructions of bytes. What comes in: an instruction, a slice of instructions, of numbers. Footprints: what a call may turn is a set of blocks. Nothing of the program stands here. Walks: package image's writer. Walks: package image's writer: lists, functions. An append of a string onto bytes of one's own. -/
import Derived.Test.YtknbllbhakpaaaaGreatHAa
import Derived.RegionTactic
import Derived.ChangeAlike
import Derived.ProofKit
import Derived.Deep.Slices
import Derived.Lib.AppendStr
set_option linter.unusedVariables false
set_option linter.unusedSimpArgs false
namespace Go.Proofs.YtknbllbhakpaaaaGreat
open Go.ChangeShapes Go.WideShapes Go.ChangeAt Go.RowKit
/-- byte i of a string -/
def gb (b : ByteArray) (i : Nat) : Int := (b.data.getD i 0).toNat
/-- the instruction at a place of bytes -/
def rdAt (b : ByteArray) (i : Nat) : Ins := ⟨gb b i, gb b (i + 1), readV (gb b (i + 3)) (gb b (i + 4)) (gb b (i + 5)) (gb b (i + 6)), gb b (i + 2)⟩
def rdAll (b : ByteArray) (n : Nat) : List Ins := (List.range n).map fun k => rdAt b (7 * k)
/-- may they be? -/
def readOk (b : ByteArray) : Bool := b.size % 7 == 0 && (rdAll b (b.size / 7)).all rightB
def readL (b : ByteArray) : List Ins := if readOk b then rdAll b (b.size / 7) else []
end Go.Proofs.YtknbllbhakpaaaaGreat
namespace Go.Proofs.YtknbllbhakpaaaaGreat
open Go.ChangeShapes Go.WideShapes Go.ChangeAt Go.RowKit
def Ins.wf (x : Ins) : Prop := (-9223372036854775808 ≤ x.op ∧ x.op ≤ 9223372036854775807) ∧ (-9223372036854775808 ≤ x.a ∧ x.a ≤ 9223372036854775807) ∧ (-9223372036854775808 ≤ x.b ∧ x.b ≤ 9223372036854775807) ∧ (-9223372036854775808 ≤ x.c ∧ x.c ≤ 9223372036854775807)
instance : Inhabited Ins := ⟨⟨0, 0, 0, 0⟩⟩
variable {H : Type} {enc : TypeId × Value → H}
theorem cells_ints : Tryz.prog.cellsOf 3 = 1 ∧ Tryz.prog.cellsOf 28 = 4 := ⟨by kernel_rfl, by kernel_rfl⟩
theorem trod_one {w : World} {base : Nat} {sp : Nat → Bool} {hd : Bool} {n : Nat} {u : Value} {x : DataW H × List MemPlace} (h : DataW.trod enc Tryz.prog w base sp hd n 3 [u] = some x) : ∃ z, u = .int .i64 z ∧ -9223372036854775808 ≤ z ∧ z ≤ 9223372036854775807 := by
  obtain ⟨z, h1, _, h3⟩ := DataW.trod_int Tryz.underlying3 h
  simp only [List.cons.injEq, and_true] at h1
  have := bounds_i64 h3
  exact ⟨z, h1, this⟩
/-- an address whose cell is there is a plain one -/
theorem plain_addr {w : World} {a : Addr} {v : Value} (h : w.cell? a = some v) : a = ⟨a.block, a.off, none⟩ := by
  obtain ⟨b, o, s⟩ := a
  cases s with
  | none => rfl
  | some s =>
    unfold World.cell? at h
    split at h
    · cases h
    · cases h
theorem addr_add (a : Addr) (hs : a.spot = none) (n : Nat) : a.add n = ⟨a.block, a.off + n, none⟩ := by
  unfold Addr.add
  split
  · subst n; obtain ⟨b, o, s⟩ := a; dsimp only at hs; subst hs; rfl
  · obtain ⟨b, o, s⟩ := a; dsimp only at hs; subst hs; rfl
end Go.Proofs.YtknbllbhakpaaaaGreat
namespace Go.Proofs.YtknbllbhakpaaaaGreat
open Go.RowKit
/-- but for the blocks of F, what was there is as it was -/
structure Fr (F : Nat → Prop) (w w' : World) : Prop where
  os : w'.os = w.os
  tape : w'.tape = w.tape
  output : w'.output = w.output
  size : w.heap.size ≤ w'.heap.size
  block : ∀ k, k < w.heap.size → ¬ F k → w'.heap[k]? = w.heap[k]?
theorem Fr.refl (F : Nat → Prop) (w : World) : Fr F w w := ⟨rfl, rfl, rfl, Nat.le_refl _, fun _ _ _ => rfl⟩
theorem Fr.trans {F G : Nat → Prop} {a b c : World} (h : Fr F a b) (k : Fr G b c) (hg : ∀ k, k < a.heap.size → G k → F k) : Fr F a c :=
  ⟨k.os.trans h.os, k.tape.trans h.tape, k.output.trans h.output, Nat.le_trans h.size k.size,
    fun i hi hn => (k.block i (Nat.lt_of_lt_of_le hi h.size) (fun hG => hn (hg i hi hG))).trans (h.block i hi hn)⟩
theorem Fr.mono {F G : Nat → Prop} {w w' : World} (h : Fr F w w') (hg : ∀ k, F k → G k) : Fr G w w' := ⟨h.os, h.tape, h.output, h.size, fun k hk hn => h.block k hk (fun hf => hn (hg k hf))⟩
theorem Fr.below {F : Nat → Prop} {w w' : World} (h : Fr F w w') {N : Nat} (hN : N ≤ w.heap.size) (hf : ∀ k, F k → N ≤ k) : Below N w w' :=
  ⟨h.os, h.tape, h.output, h.size, fun k hk => h.block k (by omega) (fun hF => by have := hf k hF; omega)⟩
theorem Fr.of_below {w w' : World} (h : Below w.heap.size w w') (F : Nat → Prop) : Fr F w w' := ⟨h.os, h.tape, h.output, h.size, fun k hk _ => h.block k hk⟩
theorem Fr.alloc {F : Nat → Prop} {a w : World} (h : Fr F a w) (o : Obj) : Fr F a (w.alloc o) :=
  h.trans (Fr.of_below ((Below.refl _ _).alloc (Nat.le_refl _) _) (fun _ => False)) (fun _ _ h => h.elim)
theorem Fr.drew {F : Nat → Prop} {a w : World} (h : Fr F a w) : Fr F a w.drew := ⟨h.os, h.tape, h.output, h.size, h.block⟩
theorem Fr.drewN {F : Nat → Prop} {a w : World} (h : Fr F a w) (n : Nat) : Fr F a (w.drewN n) := ⟨h.os, h.tape, h.output, h.size, h.block⟩
theorem Fr.setCell {F : Nat → Prop} {a w : World} (h : Fr F a w) {p : Addr} (hp : p.block < a.heap.size → F p.block) (u : Value) : Fr F a (w.setCell p u) :=
  h.trans (G := fun k => k = p.block) ⟨rfl, rfl, rfl, by simp [World.setCell], fun k _ hk => Below.heap_setCell _ _ _ _ hk⟩ (fun k hk e => by subst e; exact hp hk)
theorem Fr.grown {F : Nat → Prop} {a w w' : World} {row : Option Nat} (h : Fr F a w) (hg : w.grownBy w' row) (hr : ∀ k, row = some k → k < a.heap.size → F k) : Fr F a w' :=
  h.trans (G := fun k => row = some k) ⟨hg.os, hg.tape, hg.output, hg.size, fun k hk hn => hg.block k hk (fun e => hn e.symm)⟩ (fun k hk e => hr k e hk)
theorem Fr.heap {F : Nat → Prop} {w w' : World} (h : Fr F w w') {k : Nat} {o : Obj} (hk : w.heap[k]? = some o) (hn : ¬ F k) : w'.heap[k]? = some o := by
  have hlt : k < w.heap.size := by
    rcases Nat.lt_or_ge k w.heap.size with h' | h'
    · exact h'
    · rw [Array.getElem?_eq_none h'] at hk; cases hk
  rw [h.block k hlt hn]; exact hk
theorem Fr.cell {F : Nat → Prop} {w w' : World} (h : Fr F w w') {a : Addr} {v : Value} (hc : w.cell? a = some v) (hn : ¬ F a.block) : w'.cell? a = some v := by
  rw [World.cell?_of_block (w := w) (h.block a.block (World.block_lt hc) hn)]; exact hc
theorem owns_fr {F : Nat → Prop} {w w' : World} {base : Nat} {e : TypeId} {size : Nat} {v : Value} {n : Nat} {xs : List Value} (h : w.ownsRow base e size v n xs) (hf : Fr F w w') (hn : ∀ k, v.ownBlock = some k → ¬ F k) : w'.ownsRow base e size v n xs := by
  obtain ⟨h1, h2⟩ := h
  refine ⟨h1, ?_⟩
  rcases h2 with h2 | ⟨g, cap, cur, hv, hg, hh, hr⟩
  · exact .inl h2
  · exact .inr ⟨g, cap, cur, hv, hg, hf.heap hh (hn g (by rw [hv]; rfl)), hr⟩
theorem CellsAt.fr {F : Nat → Prop} {w w' : World} {b o : Nat} {cs : List Value} (h : CellsAt w b o cs) (hf : Fr F w w') (hn : ¬ F b) : CellsAt w' b o cs := fun j u hj => hf.cell (h j u hj) hn

variable {P : Program} {α : Type}
theorem Own.fr {E : Elem P α} {F : Nat → Prop} {w w' : World} {B : Nat} {v : Value} {l : List α} (h : Own E w B v l) (hf : Fr F w w') (hn : ∀ k, v.ownBlock = some k → ¬ F k) : Own E w' B v l := owns_fr h hf hn
theorem Own.lt {E : Elem P α} {w : World} {B : Nat} {v : Value} {l : List α} (h : Own E w B v l) {k : Nat} (hk : v.ownBlock = some k) : B ≤ k ∧ k < w.heap.size := World.ownsRow.lt h k hk
theorem Own.base {E : Elem P α} {w : World} {B B' : Nat} {v : Value} {l : List α} (h : Own E w B v l) (hb : ∀ k, v.ownBlock = some k → B' ≤ k) : Own E w B' v l := by
  obtain ⟨h1, h2⟩ := h
  refine ⟨h1, ?_⟩
  rcases h2 with h2 | ⟨g, cap, cur, hv, hg, hh, hr⟩
  · exact .inl h2
  · exact .inr ⟨g, cap, cur, hv, hb g (by rw [hv]; rfl), hh, hr⟩

theorem Own.slice {E : Elem P α} {w : World} {B : Nat} {v : Value} {l : List α} (h : Own E w B v l) : ∃ a n c, v = .slice a n c := by
  rcases h.2 with ⟨rfl, h0⟩ | ⟨g, cap, cur, rfl, _⟩
  · exact ⟨none, 0, 0, rfl⟩
  · exact ⟨_, _, _, rfl⟩
theorem heap_lt {w : World} {p : Nat} {o : Obj} (h : w.heap[p]? = some o) : p < w.heap.size := by
  rcases Nat.lt_or_ge p w.heap.size with h' | h'
  · exact h'
  · rw [Array.getElem?_eq_none h'] at h; cases h
/-- the new value's block is the elder one, or new -/
def Fresh (w : World) (v v' : Value) : Prop := ∀ k, v'.ownBlock = some k → v.ownBlock = some k ∨ w.heap.size ≤ k
/-- an append onto one's own: what it gives, and where it lies -/
theorem run_append_fresh (E : Elem P α) (w : World) (ty : TypeId) (B : Nat) (l m : List α) (v : Value) (hown : Own E w B v l) (b of c : Nat)
    (hm : CellsAt w b of (m.flatMap E.enc)) (hlen : l.length + m.length ≤ 100000000) (hB : B ≤ w.heap.size) :
    ∃ v' w', (Builtin.append_ #[E.t, E.t] ty #[v, .slice (some ⟨b, of, none⟩) m.length c]).run P w = .ok v' w' ∧ Own E w' B v' (l ++ m) ∧ w.grownBy w' v.ownBlock ∧ Fresh w v v' := by
  obtain ⟨i0, hi, hz0, hz1, hz2⟩ := info_parts E.info
  have hnews : ∀ j u, (m.flatMap E.enc)[j]? = some u → w.cell? ((⟨b, of, none⟩ : Addr).add j) = some u := by
    intro j u hj
    have := hm j u hj
    unfold Addr.add
    by_cases h0 : j = 0
    · subst h0; rw [if_pos rfl]; exact this
    · rw [if_neg h0]; exact this
  have h1 : ∀ u ∈ m.flatMap E.enc, u.oneCell' = true := by
    intro u hu
    obtain ⟨y, _, hy⟩ := List.mem_flatMap.1 hu
    exact E.hone y u hy
  have hml : l.length + m.length ≤ maxLen := by unfold maxLen; omega
  have hby : (l.length + m.length) * E.bytes ≤ 140737488355328 := by
    have h1 := E.hby
    have h2 : (l.length + m.length) * E.bytes ≤ 100000000 * 1000 := Nat.mul_le_mul hlen h1
    omega
  have go : ∀ B', B' ≤ w.heap.size → Own E w B' v l → ∃ v' w', (Builtin.append_ #[E.t, E.t] ty #[v, .slice (some ⟨b, of, none⟩) m.length c]).run P w = .ok v' w' ∧ Own E w' B' v' (l ++ m) ∧ w.grownBy w' v.ownBlock := fun B' hB' ho => by
    obtain ⟨v', w', hr, h2, h3, _⟩ := run_append_own (P := P) w B' E.t ty E.e i0 E.zero E.size E.bytes E.ht hi hz0 hz1 hz2 E.hzs E.hsz v l.length (l.flatMap E.enc) ho ⟨b, of, none⟩ m.length c (m.flatMap E.enc) (E.len m) hnews h1 hml hby hB'
    refine ⟨v', w', hr, ?_, h3⟩
    unfold Own
    rw [List.length_append, List.flatMap_append]
    exact h2
  obtain ⟨v', w', hr, h2, h3⟩ := go B hB hown
  refine ⟨v', w', hr, h2, h3, ?_⟩
  rcases hown.2 with ⟨rfl, h0⟩ | ⟨g, cap, cur, rfl, hbg, hg, hnc, hcm, hcs, htake⟩
  · have hl0 : l = [] := List.length_eq_zero_iff.1 h0
    subst hl0
    obtain ⟨v2, w2, hr2, h22, _⟩ := go w.heap.size (Nat.le_refl _) (Own.nil _ _ _)
    rw [hr] at hr2
    injection hr2 with e1 e2
    subst e1 e2
    exact fun k hk => .inr (h22.lt hk).1
  · by_cases hroom : l.length + m.length ≤ cap
    · have hfit : l.length * i0.size + (m.flatMap E.enc).length ≤ cur.size := by rw [E.len m, hcs, hz1, ← Nat.add_mul]; exact Nat.mul_le_mul_right _ hroom
      have hr2 := run_append_room (P := P) w E.t ty E.e i0 E.ht hi g l.length cap cur hg ⟨b, of, none⟩ m.length c (m.flatMap E.enc) (by rw [hz1]; exact E.len m) hnews h1 hroom hfit
      rw [hr] at hr2
      injection hr2 with e1 e2
      subst e1
      exact fun k hk => .inl hk
    · have holds : ∀ j u, (l.flatMap E.enc)[j]? = some u → w.cell? ((⟨g, 0, none⟩ : Addr).add j) = some u := World.ownsRow.cells (g := g) hown rfl
      have hr2 := run_append_grow (P := P) w E.t ty E.e i0 E.zero E.ht hi hz0 ⟨g, 0, none⟩ l.length cap (l.flatMap E.enc) (by rw [hz1]; exact E.len l) holds ⟨b, of, none⟩ m.length c (m.flatMap E.enc) (by rw [hz1]; exact E.len m) hnews (by omega) (by omega) (growslice_fits (by omega) (by rw [hz2]; exact hby))
      rw [hr] at hr2
      injection hr2 with e1 e2
      subst e1
      intro k hk
      simp [Value.ownBlock] at hk
      exact .inr (by omega)
end Go.Proofs.YtknbllbhakpaaaaGreat
namespace Go.Proofs.YtknbllbhakpaaaaGreat
open Go.ChangeShapes Go.WideShapes Go.ChangeAt Go.RowKit
/-- a slice of numbers, in blocks of D -/
def IntSl (w : World) (D : Nat → Prop) (a : Option Addr) (l : List Int) : Prop := ∀ j (hj : j < l.length), ∃ b o, a = some ⟨b, o, none⟩ ∧ D b ∧ w.cell? ⟨b, o + j, none⟩ = some (.int .i64 l[j])
theorem IntSl.fr {F : Nat → Prop} {w w' : World} {D : Nat → Prop} {a : Option Addr} {l : List Int} (h : IntSl w D a l) (hf : Fr F w w') (hd : ∀ k, D k → ¬ F k) : IntSl w' D a l := fun j hj => by
  obtain ⟨b, o, h1, h2, h3⟩ := h j hj
  exact ⟨b, o, h1, h2, hf.cell h3 (hd b h2)⟩
theorem two_cells {w : World} {p : Nat} {x y : Value} {t : TypeId} (h : w.heap[p]? = some (.cells #[x, y] t)) :
    w.cell? ⟨p, 0, none⟩ = some x ∧ w.cell? ⟨p, 1, none⟩ = some y ∧ w.frozen? ⟨p, 0, none⟩ = false ∧ w.frozen? ⟨p, 1, none⟩ = false := by
  simp [World.cell?, World.frozen?, h]
theorem Fresh.trans {a b : World} {v1 v2 v3 : Value} (h : Fresh a v1 v2) (k : Fresh b v2 v3) (hs : a.heap.size ≤ b.heap.size) : Fresh a v1 v3 := fun n hn => by
  rcases k n hn with h' | h'
  · exact h n h'
  · exact .inr (by omega)

end Go.Proofs.YtknbllbhakpaaaaGreat
namespace Go.Proofs.YtknbllbhakpaaaaGreat
open Go.ChangeShapes Go.WideShapes Go.ChangeAt Go.RowKit
/-- a new slice of numbers -/
theorem int_new (w : World) (l : List Int) : IntSl (w.alloc (.cells (l.map (Value.int .i64)).toArray 3)) (fun k => k = w.heap.size) (some ⟨w.heap.size, 0, none⟩) l := fun j hj =>
  ⟨w.heap.size, 0, rfl, rfl, by rw [Nat.zero_add, cell_new]; simp [hj]⟩
end Go.Proofs.YtknbllbhakpaaaaGreat
namespace Go.Proofs.YtknbllbhakpaaaaGreat
open Go.ChangeShapes Go.WideShapes Go.ChangeAt Go.RowKit
/-- a function, a program -/
structure Fun where (args : List Int) (result slots : Int) (objects : List Int) (code : List Ins)
structure Prg where (globals : List Int) (shapes : List (List Int)) (funcs : List Fun)
def InsSlD (w : World) (D : Nat → Prop) (a : Option Addr) (l : List Ins) : Prop := ∀ j (hj : j < l.length), ∃ b o, a = some ⟨b, o, none⟩ ∧ D b ∧ InsAt w b (o + j * 4) l[j]
theorem InsSlD.fr {F : Nat → Prop} {w w' : World} {D : Nat → Prop} {a : Option Addr} {l : List Ins} (h : InsSlD w D a l) (hf : Fr F w w') (hd : ∀ k, D k → ¬ F k) : InsSlD w' D a l := fun j hj => by
  obtain ⟨b, o, h1, h2, h3⟩ := h j hj
  have hn := hd b h2
  exact ⟨b, o, h1, h2, hf.cell h3.1 hn, hf.cell h3.2.1 hn, hf.cell h3.2.2.1 hn, hf.cell h3.2.2.2 hn⟩
theorem InsSlD.plain {w : World} {D : Nat → Prop} {a : Option Addr} {l : List Ins} (h : InsSlD w D a l) : InsSl w a l := fun j hj => by
  obtain ⟨b, o, h1, _, h3⟩ := h j hj
  exact ⟨b, o, h1, h3⟩
/-- a function's five cells -/
def FunVal (w : World) (D : Nat → Prop) (f : Fun) (c0 c1 c2 c3 c4 : Value) : Prop :=
  c1 = .int .i64 f.result ∧ c2 = .int .i64 f.slots ∧ (∃ a c, c0 = .slice a f.args.length c ∧ IntSl w D a f.args) ∧ (∃ a c, c3 = .slice a f.objects.length c ∧ IntSl w D a f.objects) ∧ ∃ a c, c4 = .slice a f.code.length c ∧ InsSlD w D a f.code
theorem FunVal.fr {F : Nat → Prop} {w w' : World} {D : Nat → Prop} {f : Fun} {c0 c1 c2 c3 c4 : Value} (h : FunVal w D f c0 c1 c2 c3 c4) (hf : Fr F w w') (hd : ∀ k, D k → ¬ F k) : FunVal w' D f c0 c1 c2 c3 c4 := by
  obtain ⟨h1, h2, ⟨a, c, h3, h4⟩, ⟨a', c', h5, h6⟩, a'', c'', h7, h8⟩ := h
  exact ⟨h1, h2, ⟨a, c, h3, h4.fr hf hd⟩, ⟨a', c', h5, h6.fr hf hd⟩, a'', c'', h7, h8.fr hf hd⟩
end Go.Proofs.YtknbllbhakpaaaaGreat
