/- A task as it lies in memory. -/
import Derived.Test.YtmanoclahcpaoaaChecked
import Derived.Test.YtmanoclahcpaoaaTkB
import Derived.Test.YtmanoclahcpaoaaMap
import Derived.Maps.Keyed
import Derived.DeepKeys4
namespace Go.Proofs.Ytmanoclahcpaoaa
open Go.ChangeShapes Go.WideShapes Go.ChangeAt Go.RowKit Go.Maps

def i64B (x : Int) : Prop := -9223372036854775808 ≤ x ∧ x ≤ 9223372036854775807
theorem i64_wf {x : Int} (h : i64B x) : (Lit.int .i64 x).wf = true := by
  obtain ⟨h1, h2⟩ := h
  simp [Lit.wf, IntKind.min, IntKind.max, IntKind.signed, IntKind.bits]
  omega
set_option maxRecDepth 100000 in
theorem plaidOut : laidOutB Try.prog = true := by kernel_rfl
set_option maxRecDepth 100000 in
theorem obrow : (107 : TypeId) < Try.prog.types.size := of_decide_eq_true (by kernel_rfl)
set_option maxRecDepth 100000 in
theorem obwide : (match Try.prog.underlying 107 with | some (.array _ _) | some (.struct _) => true | _ => false) = true := by kernel_rfl
set_option maxRecDepth 100000 in
theorem obkeyed : Keyed Try.prog 107 := Keyed.of_law (deep_law_laid plaidOut (m := 2) (by omega) obrow (by kernel_rfl) obwide)
set_option maxRecDepth 100000 in
theorem obkey (a b : Int) (ha : i64B a) (hb : i64B b) : ∃ l, keyOf Try.prog 107 (.agg #[.int .i64 a, .int .i64 b]) = some l := by
  have hc : Try.prog.cellsOf 107 = 2 := by kernel_rfl
  have hk : Try.prog.keyType 107 = true := by kernel_rfl
  have hf : (Value.agg #[.int .i64 a, .int .i64 b]).formed Try.prog 107 = true := by simp [Value.formed, Try.underlying107, hc]
  have h1 : ∀ d x, i64B x → Try.prog.keyLits (d + 1) 3 [.int .i64 x] = some [.int .i64 x] := fun d x hx => by
    unfold Program.keyLits
    simp [Try.underlying3, i64_wf hx]
  have hci : Try.prog.cellsOf 3 = 1 := by kernel_rfl
  have h2 : ∀ d, Try.prog.keyLits (d + 2) 107 [.int .i64 a, .int .i64 b] = some [.int .i64 a, .int .i64 b] := fun d => by
    unfold Program.keyLits
    simp [Try.underlying107, hc, hci, h1 d a ha, h1 d b hb]
  obtain ⟨n, hn⟩ : ∃ n, Try.prog.types.size + 1 = n + 2 := ⟨Try.prog.types.size - 1, by have : 0 < Try.prog.types.size := Nat.lt_of_le_of_lt (Nat.zero_le _) obrow; omega⟩
  unfold keyOf
  rw [Try.underlying107]
  simp only [hk, hf, Bool.and_self, if_true]
  refine ⟨.string (keyBytes [.int .i64 a, .int .i64 b]), ?_⟩
  rw [hn]
  show Option.map (fun ls => Lit.string (keyBytes ls)) (Try.prog.keyLits (n + 2) 107 [.int .i64 a, .int .i64 b]) = _
  rw [h2]
  rfl
noncomputable def obK : KeyTy Try.prog { x : Int × Int // i64B x.1 ∧ i64B x.2 } where
  k := 107
  law := obkeyed
  key := fun x => .agg #[.int .i64 x.1.1, .int .i64 x.1.2]
  lit := fun x => (keyOf Try.prog 107 (.agg #[.int .i64 x.1.1, .int .i64 x.1.2])).getD (.bool true)
  wf := fun _ => True
  hkey := fun x _ => by
    obtain ⟨l, h⟩ := obkey x.1.1 x.1.2 x.2.1 x.2.2
    rw [h]; rfl
  inj := fun x y h => by
    obtain ⟨l, h1⟩ := obkey x.1.1 x.1.2 x.2.1 x.2.2
    obtain ⟨m, h2⟩ := obkey y.1.1 y.1.2 y.2.1 y.2.2
    rw [h1, h2] at h
    have e : l = m := h
    subst e
    have h3 := obkeyed.inj h1 h2
    obtain ⟨⟨x1, x2⟩, _⟩ := x
    obtain ⟨⟨y1, y2⟩, _⟩ := y
    simp at h3
    obtain ⟨rfl, rfl⟩ := h3
    rfl
set_option maxRecDepth 100000 in
theorem sprow : (76 : TypeId) < Try.prog.types.size := of_decide_eq_true (by kernel_rfl)
set_option maxRecDepth 100000 in
theorem spwide : (match Try.prog.underlying 76 with | some (.array _ _) | some (.struct _) => true | _ => false) = true := by kernel_rfl
set_option maxRecDepth 100000 in
theorem spkeyed : Keyed Try.prog 76 := Keyed.of_law (deep_law_laid plaidOut (m := 2) (by omega) sprow (by kernel_rfl) spwide)
set_option maxRecDepth 100000 in
theorem spkey (a b : Int) (ha : i64B a) (hb : i64B b) : ∃ l, keyOf Try.prog 76 (.agg #[.int .i64 a, .int .i64 b]) = some l := by
  have hc : Try.prog.cellsOf 76 = 2 := by kernel_rfl
  have hk : Try.prog.keyType 76 = true := by kernel_rfl
  have hf : (Value.agg #[.int .i64 a, .int .i64 b]).formed Try.prog 76 = true := by simp [Value.formed, Try.underlying76, hc]
  have h1 : ∀ d x, i64B x → Try.prog.keyLits (d + 1) 3 [.int .i64 x] = some [.int .i64 x] := fun d x hx => by
    unfold Program.keyLits
    simp [Try.underlying3, i64_wf hx]
  have hci : Try.prog.cellsOf 3 = 1 := by kernel_rfl
  have h2 : ∀ d, Try.prog.keyLits (d + 2) 76 [.int .i64 a, .int .i64 b] = some [.int .i64 a, .int .i64 b] := fun d => by
    unfold Program.keyLits
    simp [Try.underlying76, hc, hci, h1 d a ha, h1 d b hb]
  obtain ⟨n, hn⟩ : ∃ n, Try.prog.types.size + 1 = n + 2 := ⟨Try.prog.types.size - 1, by have : 0 < Try.prog.types.size := Nat.lt_of_le_of_lt (Nat.zero_le _) sprow; omega⟩
  unfold keyOf
  rw [Try.underlying76]
  simp only [hk, hf, Bool.and_self, if_true]
  refine ⟨.string (keyBytes [.int .i64 a, .int .i64 b]), ?_⟩
  rw [hn]
  show Option.map (fun ls => Lit.string (keyBytes ls)) (Try.prog.keyLits (n + 2) 76 [.int .i64 a, .int .i64 b]) = _
  rw [h2]
  rfl
noncomputable def spK : KeyTy Try.prog { x : Int × Int // i64B x.1 ∧ i64B x.2 } where
  k := 76
  law := spkeyed
  key := fun x => .agg #[.int .i64 x.1.1, .int .i64 x.1.2]
  lit := fun x => (keyOf Try.prog 76 (.agg #[.int .i64 x.1.1, .int .i64 x.1.2])).getD (.bool true)
  wf := fun _ => True
  hkey := fun x _ => by
    obtain ⟨l, h⟩ := spkey x.1.1 x.1.2 x.2.1 x.2.2
    rw [h]; rfl
  inj := fun x y h => by
    obtain ⟨l, h1⟩ := spkey x.1.1 x.1.2 x.2.1 x.2.2
    obtain ⟨m, h2⟩ := spkey y.1.1 y.1.2 y.2.1 y.2.2
    rw [h1, h2] at h
    have e : l = m := h
    subst e
    have h3 := spkeyed.inj h1 h2
    obtain ⟨⟨x1, x2⟩, _⟩ := x
    obtain ⟨⟨y1, y2⟩, _⟩ := y
    simp at h3
    obtain ⟨rfl, rfl⟩ := h3
    rfl
structure Part where (fn pc base ret : Int) (ta : Option Addr) (tn tc : Nat)
structure Mark where (leaving deferred : Bool) (thunks : Int)
set_option maxRecDepth 100000 in
def intE : Elem Try.prog Int where
  e := 3
  t := 23
  size := 1
  bytes := 8
  zero := .int .i64 0
  enc := fun n => [.int .i64 n]
  ht := Try.underlying23
  info := by kernel_rfl
  hzs := rfl
  hsz := by decide
  hby := by decide
  henc := fun _ => rfl
  hone := fun x u h => by simp at h; subst h; rfl
set_option maxRecDepth 100000 in
def partE : Elem Try.prog Part where
  e := 73
  t := 61
  size := 5
  bytes := 56
  zero := .agg #[.int .i64 0, .int .i64 0, .int .i64 0, .int .i64 0, .slice none 0 0]
  enc := fun x => [.int .i64 x.fn, .int .i64 x.pc, .int .i64 x.base, .int .i64 x.ret, .slice x.ta x.tn x.tc]
  ht := Try.underlying61
  info := by kernel_rfl
  hzs := rfl
  hsz := by decide
  hby := by decide
  henc := fun _ => rfl
  hone := fun x u h => by simp at h; rcases h with rfl | rfl | rfl | rfl | rfl <;> rfl
set_option maxRecDepth 100000 in
def markE : Elem Try.prog Mark where
  e := 80
  t := 62
  size := 3
  bytes := 16
  zero := .agg #[.bool false, .bool false, .int .i64 0]
  enc := fun x => [.bool x.leaving, .bool x.deferred, .int .i64 x.thunks]
  ht := Try.underlying62
  info := by kernel_rfl
  hzs := rfl
  hsz := by decide
  hby := by decide
  henc := fun _ => rfl
  hone := fun x u h => by simp at h; rcases h with rfl | rfl | rfl <;> rfl
structure Tk where (base : Int) (words : List Int) (parts : List Part) (marks : List Mark)
/-- where a task's things lie -/
structure TB where (D : Nat → Prop) (c0 c1 c2 pv mv : Value) (sb wb kb : Nat)
structure TaskAt (w : World) (F : Nat → Prop) (tb : Nat) (p : TPrg) (T : Tk) (X : TB) : Prop where
  row : w.heap[tb]? = some (.cells #[X.c0, X.c1, X.c2, .pointer (some ⟨X.sb, 0, none⟩), X.pv, X.mv, .slice none 0 0, .map (some X.kb)] 66)
  prg : PV w X.D p X.c0 X.c1 X.c2
  out : ∀ k, X.D k → ¬ F k ∧ k < w.heap.size
  srow : w.heap[X.sb]? = some (.cells #[.int .i64 T.base, .slice (some ⟨X.wb, 0, none⟩) T.words.length T.words.length] 95)
  wrow : w.heap[X.wb]? = some (intRow T.words 3)
  parts : Own partE w 0 X.pv T.parts
  marks : Own markE w 0 X.mv T.marks
  kb : X.kb < w.heap.size
  kept : ∃ n, MapIs spK (Value.int .i64) w X.kb n (fun _ => none)
  ft : F tb
  fs : F X.sb
  fw : F X.wb
  fk : F X.kb
  fp : ∀ k, X.pv.ownBlock = some k → F k
  fm : ∀ k, X.mv.ownBlock = some k → F k
  flt : ∀ k, F k → k < w.heap.size
/-- a map's block is no row -/
theorem map_ne {P : Program} {κ ν : Type} {K : KeyTy P κ} {val : ν → Value} {w : World} {b n k : Nat} {f : κ → Option ν} {cs : Array Value} {t : TypeId} {fz : Nat × Nat} (h : MapIs K val w b n f) (h' : w.heap[k]? = some (.cells cs t fz)) : b ≠ k := by
  rintro rfl
  obtain ⟨D, ⟨es, clock, hb, _⟩, _⟩ := h
  rw [h'] at hb
  cases hb
theorem TaskAt.fr {w w' : World} {F G : Nat → Prop} {tb : Nat} {p : TPrg} {T : Tk} {X : TB} (h : TaskAt w F tb p T X) (hf : Fr G w w') (h1 : ∀ k, F k → ¬ G k) (h2 : ∀ k, X.D k → ¬ G k) : TaskAt w' F tb p T X where
  row := hf.heap h.row (h1 _ h.ft)
  prg := h.prg.fr hf h2
  out := fun k hk => ⟨(h.out k hk).1, Nat.lt_of_lt_of_le (h.out k hk).2 hf.size⟩
  srow := hf.heap h.srow (h1 _ h.fs)
  wrow := hf.heap h.wrow (h1 _ h.fw)
  parts := h.parts.fr hf fun k hk => h1 _ (h.fp k hk)
  marks := h.marks.fr hf fun k hk => h1 _ (h.fm k hk)
  kb := Nat.lt_of_lt_of_le h.kb hf.size
  kept := h.kept.imp fun n hm => hm.fr hf (h1 _ h.fk)
  ft := h.ft
  fs := h.fs
  fw := h.fw
  fk := h.fk
  fp := h.fp
  fm := h.fm
  flt := fun k hk => Nat.lt_of_lt_of_le (h.flt k hk) hf.size
theorem TaskAt.below {w w' : World} {F : Nat → Prop} {tb : Nat} {p : TPrg} {T : Tk} {X : TB} (h : TaskAt w F tb p T X) (hb : Below w.heap.size w w') : TaskAt w' F tb p T X := h.fr (Fr.of_below hb (fun _ => False)) (fun _ _ h => h) (fun _ _ h => h)
/-- the words of all frames -/
def usedN (p : TPrg) (T : Tk) : Int := match T.parts.getLast? with | none => 0 | some q => q.base + wordsN p q.fn
end Go.Proofs.Ytmanoclahcpaoaa
