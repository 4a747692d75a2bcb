import Derived.Test.YthkhgihjigmkoaaGreatChecked
import Derived.Test.YthkhgihjigmkoaaGreatCAh
import Derived.Test.YthkhgihjigmkoaaGreatCAg
import Derived.Maps.Keyed
import Derived.DeepKeys4
import Derived.BigRegion
import Derived.Deep.RegionLaw
import Derived.Deep.RegionHeld3
import Derived.Deep.CutBlock
import Derived.Deep.DeepCutAuto
set_option linter.unusedVariables false
set_option linter.unusedSimpArgs false
namespace Go.Proofs.YthkhgihjigmkoaaGreat.Tk
open Go.ChangeShapes Go.WideShapes Go.ChangeAt Go.RowKit Go.Maps
set_option maxRecDepth 100000 in
theorem obrow : (147 : TypeId) < Tryz.prog.types.size := of_decide_eq_true (by kernel_rfl)
set_option maxRecDepth 100000 in
theorem obwide : (match Tryz.prog.underlying 147 with | some (.array _ _) | some (.struct _) => true | _ => false) = true := by kernel_rfl
set_option maxRecDepth 100000 in
theorem obkeyed : Keyed Tryz.prog 147 := Keyed.of_law (deep_law_laid plaidOut (m := 2) (by omega) obrow (by kernel_rfl) obwide)
set_option maxRecDepth 100000 in
theorem obkey (a b : Int) (ha : i64B a) (hb : i64B b) : ∃ l, keyOf Tryz.prog 147 (.agg #[.int .i64 a, .int .i64 b]) = some l := by
 have hc : Tryz.prog.cellsOf 147 = 2 := by kernel_rfl
 have hk : Tryz.prog.keyType 147 = true := by kernel_rfl
 have hf : (Value.agg #[.int .i64 a, .int .i64 b]).formed Tryz.prog 147 = true := by simp [Value.formed, Tryz.underlying147, hc]
 have h1 : ∀ d x, i64B x → Tryz.prog.keyLits (d + 1) 3 [.int .i64 x] = some [.int .i64 x] := fun d x hx => by
  unfold Program.keyLits
  simp [Tryz.underlying3, i64_wf hx]
 have hci : Tryz.prog.cellsOf 3 = 1 := by kernel_rfl
 have h2 : ∀ d, Tryz.prog.keyLits (d + 2) 147 [.int .i64 a, .int .i64 b] = some [.int .i64 a, .int .i64 b] := fun d => by
  unfold Program.keyLits
  simp [Tryz.underlying147, hc, hci, h1 d a ha, h1 d b hb]
 obtain ⟨n, hn⟩ : ∃ n, Tryz.prog.types.size + 1 = n + 2 := ⟨Tryz.prog.types.size - 1, by have : 0 < Tryz.prog.types.size := Nat.lt_of_le_of_lt (Nat.zero_le _) obrow; omega⟩
 unfold keyOf
 rw [Tryz.underlying147]
 simp only [hk, hf, Bool.and_self, if_true]
 refine ⟨.string (keyBytes [.int .i64 a, .int .i64 b]), ?_⟩
 rw [hn]
 show Option.map (fun ls => Lit.string (keyBytes ls)) (Tryz.prog.keyLits (n + 2) 147 [.int .i64 a, .int .i64 b]) = _
 rw [h2]
 rfl
noncomputable def obK : KeyTy Tryz.prog { x : Int × Int // i64B x.1 ∧ i64B x.2 } where
 k := 147
 law := obkeyed
 key := fun x => .agg #[.int .i64 x.1.1, .int .i64 x.1.2]
 lit := fun x => (keyOf Tryz.prog 147 (.agg #[.int .i64 x.1.1, .int .i64 x.1.2])).getD (.bool true)
 wf := fun _ => True
 hkey := fun x _ => by
  obtain ⟨l, h⟩ := obkey x.1.1 x.1.2 x.2.1 x.2.2
  rw [h]; rfl
 inj := fun x y h => by
  obtain ⟨l, h1⟩ := obkey x.1.1 x.1.2 x.2.1 x.2.2
  obtain ⟨m, h2⟩ := obkey y.1.1 y.1.2 y.2.1 y.2.2
  rw [h1, h2] at h
  have e : l = m := h
  subst e
  have h3 := obkeyed.inj h1 h2
  obtain ⟨⟨x1, x2⟩, _⟩ := x
  obtain ⟨⟨y1, y2⟩, _⟩ := y
  simp at h3
  obtain ⟨rfl, rfl⟩ := h3
  rfl
set_option maxRecDepth 100000 in
theorem sprow : (106 : TypeId) < Tryz.prog.types.size := of_decide_eq_true (by kernel_rfl)
set_option maxRecDepth 100000 in
theorem spwide : (match Tryz.prog.underlying 106 with | some (.array _ _) | some (.struct _) => true | _ => false) = true := by kernel_rfl
set_option maxRecDepth 100000 in
theorem spkeyed : Keyed Tryz.prog 106 := Keyed.of_law (deep_law_laid plaidOut (m := 2) (by omega) sprow (by kernel_rfl) spwide)
set_option maxRecDepth 100000 in
theorem spkey (a b : Int) (ha : i64B a) (hb : i64B b) : ∃ l, keyOf Tryz.prog 106 (.agg #[.int .i64 a, .int .i64 b]) = some l := by
 have hc : Tryz.prog.cellsOf 106 = 2 := by kernel_rfl
 have hk : Tryz.prog.keyType 106 = true := by kernel_rfl
 have hf : (Value.agg #[.int .i64 a, .int .i64 b]).formed Tryz.prog 106 = true := by simp [Value.formed, Tryz.underlying106, hc]
 have h1 : ∀ d x, i64B x → Tryz.prog.keyLits (d + 1) 3 [.int .i64 x] = some [.int .i64 x] := fun d x hx => by
  unfold Program.keyLits
  simp [Tryz.underlying3, i64_wf hx]
 have hci : Tryz.prog.cellsOf 3 = 1 := by kernel_rfl
 have h2 : ∀ d, Tryz.prog.keyLits (d + 2) 106 [.int .i64 a, .int .i64 b] = some [.int .i64 a, .int .i64 b] := fun d => by
  unfold Program.keyLits
  simp [Tryz.underlying106, hc, hci, h1 d a ha, h1 d b hb]
 obtain ⟨n, hn⟩ : ∃ n, Tryz.prog.types.size + 1 = n + 2 := ⟨Tryz.prog.types.size - 1, by have : 0 < Tryz.prog.types.size := Nat.lt_of_le_of_lt (Nat.zero_le _) sprow; omega⟩
 unfold keyOf
 rw [Tryz.underlying106]
 simp only [hk, hf, Bool.and_self, if_true]
 refine ⟨.string (keyBytes [.int .i64 a, .int .i64 b]), ?_⟩
 rw [hn]
 show Option.map (fun ls => Lit.string (keyBytes ls)) (Tryz.prog.keyLits (n + 2) 106 [.int .i64 a, .int .i64 b]) = _
 rw [h2]
 rfl
noncomputable def spK : KeyTy Tryz.prog { x : Int × Int // i64B x.1 ∧ i64B x.2 } where
 k := 106
 law := spkeyed
 key := fun x => .agg #[.int .i64 x.1.1, .int .i64 x.1.2]
 lit := fun x => (keyOf Tryz.prog 106 (.agg #[.int .i64 x.1.1, .int .i64 x.1.2])).getD (.bool true)
 wf := fun _ => True
 hkey := fun x _ => by
  obtain ⟨l, h⟩ := spkey x.1.1 x.1.2 x.2.1 x.2.2
  rw [h]; rfl
 inj := fun x y h => by
  obtain ⟨l, h1⟩ := spkey x.1.1 x.1.2 x.2.1 x.2.2
  obtain ⟨m, h2⟩ := spkey y.1.1 y.1.2 y.2.1 y.2.2
  rw [h1, h2] at h
  have e : l = m := h
  subst e
  have h3 := spkeyed.inj h1 h2
  obtain ⟨⟨x1, x2⟩, _⟩ := x
  obtain ⟨⟨y1, y2⟩, _⟩ := y
  simp at h3
  obtain ⟨rfl, rfl⟩ := h3
  rfl
structure Part where (fn pc base ret : Int) (ta : Option Addr) (tn tc : Nat)
structure Mark where (leaving deferred : Bool) (thunks : Int)
set_option maxRecDepth 100000 in
def partE : Elem Tryz.prog Part where
 e := 100
 t := 92
 size := 5
 bytes := 56
 zero := .agg #[.int .i64 0, .int .i64 0, .int .i64 0, .int .i64 0, .slice none 0 0]
 enc := fun x => [.int .i64 x.fn, .int .i64 x.pc, .int .i64 x.base, .int .i64 x.ret, .slice x.ta x.tn x.tc]
 ht := Tryz.underlying92
 info := by kernel_rfl
 hzs := rfl
 hsz := by decide
 hby := by decide
 henc := fun _ => rfl
 hone := fun x u h => by simp at h; rcases h with rfl | rfl | rfl | rfl | rfl <;> rfl
set_option maxRecDepth 100000 in
def markE : Elem Tryz.prog Mark where
 e := 152
 t := 93
 size := 3
 bytes := 16
 zero := .agg #[.bool false, .bool false, .int .i64 0]
 enc := fun x => [.bool x.leaving, .bool x.deferred, .int .i64 x.thunks]
 ht := Tryz.underlying93
 info := by kernel_rfl
 hzs := rfl
 hsz := by decide
 hby := by decide
 henc := fun _ => rfl
 hone := fun x u h => by simp at h; rcases h with rfl | rfl | rfl <;> rfl
structure Alarm where (code ptr run : Int) (exit recovered : Bool)
set_option maxRecDepth 100000 in
def alarmE : Elem Tryz.prog Alarm where
 e := 67
 t := 45
 size := 5
 bytes := 32
 zero := .agg #[.int .i64 0, .int .i64 0, .int .i64 0, .bool false, .bool false]
 enc := fun x => [.int .i64 x.code, .int .i64 x.ptr, .int .i64 x.run, .bool x.exit, .bool x.recovered]
 ht := Tryz.underlying45
 info := by kernel_rfl
 hzs := rfl
 hsz := by decide
 hby := by decide
 henc := fun _ => rfl
 hone := fun x u h => by simp at h; rcases h with rfl | rfl | rfl | rfl | rfl <;> rfl
structure Tk where (base : Int) (words : List Int) (parts : List Part) (marks : List Mark)
structure TB where (D : Nat → Prop) (c0 c1 c2 pv mv : Value) (sb wb kb : Nat) (av : Value) (al : List Alarm) (kf : { x : Int × Int // i64B x.1 ∧ i64B x.2 } → Option Int) (kc : Nat)
def TB.Q (X' X : TB) (al : List Alarm) (kf : { x : Int × Int // i64B x.1 ∧ i64B x.2 } → Option Int) : Prop := X'.D = X.D ∧ X'.al = al ∧ X'.kf = kf ∧ X'.kc = X.kc
theorem TB.Q.refl (X : TB) : X.Q X X.al X.kf := ⟨rfl, rfl, rfl, rfl⟩
def TB.New (X : TB) : Prop := X.al = [] ∧ X.kf = (fun _ => none) ∧ X.kc = 0
structure TaskAt (w : World) (F : Nat → Prop) (tb : Nat) (p : TPrg) (T : Tk) (X : TB) : Prop where
 row : w.heap[tb]? = some (.cells #[X.c0, X.c1, X.c2, .pointer (some ⟨X.sb, 0, none⟩), X.pv, X.mv, X.av, .map (some X.kb)] 97)
 prg : PV w X.D p X.c0 X.c1 X.c2
 out : ∀ k, X.D k → ¬ F k ∧ k < w.heap.size
 srow : w.heap[X.sb]? = some (.cells #[.int .i64 T.base, .slice (some ⟨X.wb, 0, none⟩) T.words.length T.words.length] 142)
 wrow : w.heap[X.wb]? = some (intRow T.words 3)
 parts : Own partE w 0 X.pv T.parts
 marks : Own markE w 0 X.mv T.marks
 kb : X.kb < w.heap.size
 kept : ∃ n, n ≤ X.kc ∧ MapIs spK (Value.int .i64) w X.kb n X.kf
 alarms : Own alarmE w 0 X.av X.al
 ft : F tb
 fs : F X.sb
 fw : F X.wb
 fk : F X.kb
 fp : ∀ k, X.pv.ownBlock = some k → F k
 fm : ∀ k, X.mv.ownBlock = some k → F k
 fa : ∀ k, X.av.ownBlock = some k → F k
 flt : ∀ k, F k → k < w.heap.size
theorem map_ne {P : Program} {κ ν : Type} {K : KeyTy P κ} {val : ν → Value} {w : World} {b n k : Nat} {f : κ → Option ν} {cs : Array Value} {t : TypeId} {fz : Nat × Nat} (h : MapIs K val w b n f) (h' : w.heap[k]? = some (.cells cs t fz)) : b ≠ k := by
 rintro rfl
 obtain ⟨D, ⟨es, clock, hb, _⟩, _⟩ := h
 rw [h'] at hb
 cases hb
theorem TaskAt.fr {w w' : World} {F G : Nat → Prop} {tb : Nat} {p : TPrg} {T : Tk} {X : TB} (h : TaskAt w F tb p T X) (hf : Fr G w w') (h1 : ∀ k, F k → ¬ G k) (h2 : ∀ k, X.D k → ¬ G k) : TaskAt w' F tb p T X where
 row := hf.heap h.row (h1 _ h.ft)
 prg := h.prg.fr hf h2
 out := fun k hk => ⟨(h.out k hk).1, Nat.lt_of_lt_of_le (h.out k hk).2 hf.size⟩
 srow := hf.heap h.srow (h1 _ h.fs)
 wrow := hf.heap h.wrow (h1 _ h.fw)
 parts := h.parts.fr hf fun k hk => h1 _ (h.fp k hk)
 marks := h.marks.fr hf fun k hk => h1 _ (h.fm k hk)
 kb := Nat.lt_of_lt_of_le h.kb hf.size
 kept := h.kept.imp fun n hm => ⟨hm.1, hm.2.fr hf (h1 _ h.fk)⟩
 alarms := h.alarms.fr hf fun k hk => h1 _ (h.fa k hk)
 ft := h.ft
 fs := h.fs
 fw := h.fw
 fk := h.fk
 fp := h.fp
 fm := h.fm
 fa := h.fa
 flt := fun k hk => Nat.lt_of_lt_of_le (h.flt k hk) hf.size
theorem TaskAt.below {w w' : World} {F : Nat → Prop} {tb : Nat} {p : TPrg} {T : Tk} {X : TB} (h : TaskAt w F tb p T X) (hb : Below w.heap.size w w') : TaskAt w' F tb p T X := h.fr (Fr.of_below hb (fun _ => False)) (fun _ _ h => h) (fun _ _ h => h)
def usedN (p : TPrg) (T : Tk) : Int := match T.parts.getLast? with | none => 0 | some q => q.base + wordsN p q.fn
end Go.Proofs.YthkhgihjigmkoaaGreat.Tk
namespace Go.Proofs.YthkhgihjigmkoaaGreat.Tk
open Go.ChangeShapes Go.WideShapes Go.ChangeAt Go.RowKit Go.Maps
def StAt (w : World) (sb wb : Nat) (base : Int) (l : List Int) : Prop :=
 w.heap[sb]? = some (.cells #[.int .i64 base, .slice (some ⟨wb, 0, none⟩) l.length l.length] 142) ∧ w.heap[wb]? = some (intRow l 3)
theorem StAt.cells {w : World} {sb wb : Nat} {base : Int} {l : List Int} (h : StAt w sb wb base l) : w.cell? ⟨sb, 0, none⟩ = some (.int .i64 base) ∧ w.cell? ⟨sb, 1, none⟩ = some (.slice (some ⟨wb, 0, none⟩) l.length l.length) :=
 ⟨(row_cell h.1 0).1, (row_cell h.1 1).1⟩
theorem StAt.word {w : World} {sb wb : Nat} {base : Int} {l : List Int} (h : StAt w sb wb base l) (k : Nat) (hk : k < l.length) : w.cell? ⟨wb, k, none⟩ = some (.int .i64 l[k]) ∧ w.frozen? ⟨wb, k, none⟩ = false := by
 obtain ⟨h1, h2⟩ := row_cell h.2 k
 refine ⟨?_, h2⟩
 rw [h1]
 simp [hk]
theorem TaskAt.st {w : World} {F : Nat → Prop} {tb : Nat} {p : TPrg} {T : Tk} {X : TB} (h : TaskAt w F tb p T X) : StAt w X.sb X.wb T.base T.words := ⟨h.srow, h.wrow⟩
set_option maxRecDepth 100000 in
theorem stWords_any (w : World) (sb wb : Nat) (base : Int) (l : List Int) (h : StAt w sb wb base l) :
  Calls Tryz.prog 48 #[.pointer (some ⟨sb, 0, none⟩)] w fun e w' => e = .returned (.int .i64 l.length) ∧ w = w' := by
 obtain ⟨k0, k1⟩ := h.cells
 clear h
 go_enter Tryz.func48, Tryz.ntmps48
 go_wp2_with fail
 go_ret
 exact ⟨rfl, rfl⟩
set_option maxRecDepth 100000 in
theorem stThere_any (w : World) (sb wb : Nat) (base : Int) (l : List Int) (h : StAt w sb wb base l) (off : Int) :
  Calls Tryz.prog 83 #[.pointer (some ⟨sb, 0, none⟩), .int .i64 off] w fun e w' => e = .returned (.bool (withinB off l.length)) ∧ w = w' := by
 have ws := stWords_any w sb wb base l h
 have WS := Lib.hid ws; clear ws
 by_cases h0 : 0 ≤ off
 ·by_cases h1 : off < l.length
  ·rw [show withinB off l.length = true from by simp [withinB, h0, h1]]
   go_enter Tryz.func83, Tryz.ntmps83
   go_wp2_with fail
   refine WS.out.mono ?_
   rintro e w' ⟨rfl, rfl⟩
   go_wp2_with fail
   go_ret
   first | exact ⟨rfl, rfl⟩ | exact ⟨congrArg (fun b => Ending.returned (Value.bool b)) (decide_eq_false (by omega)), rfl⟩ | exact ⟨congrArg (fun b => Ending.returned (Value.bool b)) (decide_eq_true (by omega)), rfl⟩
  ·rw [show withinB off l.length = false from by simp [withinB, h0, h1]]
   go_enter Tryz.func83, Tryz.ntmps83
   go_wp2_with fail
   refine WS.out.mono ?_
   rintro e w' ⟨rfl, rfl⟩
   go_wp2_with fail
   go_ret
   first | exact ⟨rfl, rfl⟩ | exact ⟨congrArg (fun b => Ending.returned (Value.bool b)) (decide_eq_false (by omega)), rfl⟩ | exact ⟨congrArg (fun b => Ending.returned (Value.bool b)) (decide_eq_true (by omega)), rfl⟩
 ·rw [show withinB off l.length = false from by simp [withinB, h0]]
  go_enter Tryz.func83, Tryz.ntmps83
  go_wp2_with fail
  go_ret
  first | exact ⟨rfl, rfl⟩ | exact ⟨congrArg (fun b => Ending.returned (Value.bool b)) (decide_eq_false (by omega)), rfl⟩ | exact ⟨congrArg (fun b => Ending.returned (Value.bool b)) (decide_eq_true (by omega)), rfl⟩
set_option maxRecDepth 100000 in
theorem stStore_in (w : World) (sb wb : Nat) (base : Int) (l : List Int) (h : StAt w sb wb base l) (k : Nat) (hk : k < l.length) (v : Int) :
  Calls Tryz.prog 52 #[.pointer (some ⟨sb, 0, none⟩), .int .i64 k, .int .i64 v] w fun e w' => e = .returned (.bool true) ∧ w' = w.setCell ⟨wb, k, none⟩ (.int .i64 v) := by
 have th := stThere_any w sb wb base l h k
 rw [show withinB (k : Int) l.length = true from by simp [withinB]; omega] at th
 obtain ⟨k0, k1⟩ := h.cells
 obtain ⟨x0, x1⟩ := h.word k hk
 have hk1 : (k : Int) < l.length := by omega
 clear h
 have TH := Lib.hid th; clear th
 go_enter Tryz.func52, Tryz.ntmps52
 go_wp2_with fail
 refine TH.out.mono ?_
 rintro e w' ⟨rfl, rfl⟩
 go_wp2_with fail
 go_ret
 exact ⟨rfl, rfl⟩
set_option maxRecDepth 100000 in
theorem stLoad_in (w : World) (sb wb : Nat) (base : Int) (l : List Int) (h : StAt w sb wb base l) (k : Nat) (hk : k < l.length) :
  Calls Tryz.prog 51 #[.pointer (some ⟨sb, 0, none⟩), .int .i64 k] w fun e w' => e = .returned (.tuple #[.int .i64 l[k], .bool true]) ∧ w = w' := by
 have th := stThere_any w sb wb base l h k
 rw [show withinB (k : Int) l.length = true from by simp [withinB]; omega] at th
 obtain ⟨k0, k1⟩ := h.cells
 obtain ⟨x0, x1⟩ := h.word k hk
 have hk1 : (k : Int) < l.length := by omega
 clear h
 generalize l[k] = x at *
 have TH := Lib.hid th; clear th
 go_enter Tryz.func51, Tryz.ntmps51
 go_wp2_with fail
 refine TH.out.mono ?_
 rintro e w' ⟨rfl, rfl⟩
 go_wp2_with fail
 go_ret2
 exact ⟨rfl, rfl⟩
end Go.Proofs.YthkhgihjigmkoaaGreat.Tk
