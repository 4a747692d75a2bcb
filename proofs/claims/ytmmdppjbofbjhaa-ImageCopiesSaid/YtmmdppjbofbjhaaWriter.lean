/- Walks: package image's writer. -/
import Derived.Test.YtmmdppjbofbjhaaAlive9
import Derived.Test.YtmmdppjbofbjhaaFrame
namespace Go.Proofs.Ytmmdppjbofbjhaa
open Go.ChangeShapes Go.WideShapes Go.ChangeAt Go.RowKit

/-- a slice of numbers, in blocks of D -/
def IntSl (w : World) (D : Nat → Prop) (a : Option Addr) (l : List Int) : Prop := ∀ j (hj : j < l.length), ∃ b o, a = some ⟨b, o, none⟩ ∧ D b ∧ w.cell? ⟨b, o + j, none⟩ = some (.int .i64 l[j])
theorem IntSl.fr {F : Nat → Prop} {w w' : World} {D : Nat → Prop} {a : Option Addr} {l : List Int} (h : IntSl w D a l) (hf : Fr F w w') (hd : ∀ k, D k → ¬ F k) : IntSl w' D a l := fun j hj => by
  obtain ⟨b, o, h1, h2, h3⟩ := h j hj
  exact ⟨b, o, h1, h2, hf.cell h3 (hd b h2)⟩
/-- the writer's block -/
def wrBlock (v : Value) (bad : Bool) : Obj := .cells #[v, .bool bad] 133
theorem two_cells {w : World} {p : Nat} {x y : Value} {t : TypeId} (h : w.heap[p]? = some (.cells #[x, y] t)) :
    w.cell? ⟨p, 0, none⟩ = some x ∧ w.cell? ⟨p, 1, none⟩ = some y ∧ w.frozen? ⟨p, 0, none⟩ = false ∧ w.frozen? ⟨p, 1, none⟩ = false := by
  simp [World.cell?, World.frozen?, h]
theorem two_set0 {w : World} {p : Nat} {x y u : Value} {t : TypeId} (h : w.heap[p]? = some (.cells #[x, y] t)) : (w.setCell ⟨p, 0, none⟩ u).heap[p]? = some (.cells #[u, y] t) := by
  simp only [World.setCell, Array.getElem?_modify, if_pos rfl, h, Option.map]
  rfl
theorem two_set1 {w : World} {p : Nat} {x y u : Value} {t : TypeId} (h : w.heap[p]? = some (.cells #[x, y] t)) : (w.setCell ⟨p, 1, none⟩ u).heap[p]? = some (.cells #[x, u] t) := by
  simp only [World.setCell, Array.getElem?_modify, if_pos rfl, h, Option.map]
  rfl
/-- the writer at block p has laid 'out' -/
def Wr (w : World) (B p : Nat) (v : Value) (out : List Int) (bad : Bool) : Prop := w.heap[p]? = some (wrBlock v bad) ∧ Own u8E w B v out ∧ v.ownBlock ≠ some p ∧ B ≤ p
/-- what a writer's call may turn -/
def wrF (p : Nat) (v : Value) : Nat → Prop := fun k => k = p ∨ v.ownBlock = some k
/-- behind a writer's call -/
def WrPost (w : World) (B p : Nat) (v : Value) (out : List Int) (bad : Bool) (w' : World) : Prop := ∃ v', Wr w' B p v' out bad ∧ Fr (wrF p v) w w' ∧ Fresh w v v'
def badB (l : List Int) : Bool := l.any fun n => decide (n < 0) || decide (255 < n)
theorem bad_snoc (bad : Bool) (t : List Int) (x : Int) : (bad || badB (t ++ [x])) = ((bad || badB t) || (decide (x < 0) || decide (255 < x))) := by
  simp [badB, Bool.or_assoc]
def lowB (l : List Int) : List Int := l.map (· % 256)
theorem Fresh.trans {a b : World} {v1 v2 v3 : Value} (h : Fresh a v1 v2) (k : Fresh b v2 v3) (hs : a.heap.size ≤ b.heap.size) : Fresh a v1 v3 := fun n hn => by
  rcases k n hn with h' | h'
  · exact h n h'
  · exact .inr (by omega)

set_option maxRecDepth 100000 in
set_option maxHeartbeats 3200000 in
theorem nums_any (w : World) (B p : Nat) (v : Value) (out : List Int) (bad : Bool) (hw : Wr w B p v out bad) (D : Nat → Prop) (a : Option Addr) (l : List Int) (c : Nat) (hsl : IntSl w D a l)
    (hD : ∀ k, D k → k ≠ p ∧ v.ownBlock ≠ some k ∧ k < w.heap.size) (hlen : out.length + l.length ≤ 10000000) :
    Calls Try.prog 115 #[.pointer (some ⟨p, 0, none⟩), .slice a l.length c] w fun e w' => e = .returned (.tuple #[]) ∧ WrPost w B p v (out ++ lowB l) (bad || badB l) w' := by
  have HSL := Lib.hid hsl; clear hsl
  have HD := Lib.hid hD; clear hD
  have HWR := Lib.hid hw; clear hw
  go_enter Try.func115, Try.ntmps115
  go_wp2_with fail
  go_loopw [8] (fun i wr => ∃ k : Nat, k ≤ l.length ∧ i = .int .i64 k ∧ ∃ v1, Wr wr B p v1 (out ++ lowB (l.take k)) (bad || badB (l.take k)) ∧ Fr (wrF p v) w wr ∧ Fresh w v v1) (fun i _ => l.length - (intOf i).toNat)
  case atStart => exact ⟨0, Nat.zero_le _, rfl, v, by simpa [lowB, badB] using HWR.out, Fr.refl _ _, fun k hk => .inl hk⟩
  case round =>
    obtain ⟨k, hk, rfl, v1, ⟨hp, hown, hv, hB⟩, hf, hfr⟩ := hrel
    by_cases hlt : k < l.length
    · obtain ⟨b, o, rfl, hDb, hx⟩ := HSL.out k hlt
      obtain ⟨d1, d2, d3⟩ := HD.out b hDb
      have hx1 := hf.cell hx (fun h => h.elim (fun e => d1 e) (fun e => d2 e))
      obtain ⟨x, hxe⟩ : ∃ x, x = l[k] := ⟨_, rfl⟩
      rw [← hxe] at hx1
      clear hx
      obtain ⟨q0, q1, q2, q3⟩ := two_cells (show wr.heap[p]? = some (.cells #[v1, .bool (bad || badB (l.take k))] 133) from hp)
      have HX := Lib.hid hxe; clear hxe
      have HP := Lib.hid hp; have HO := Lib.hid hown; have HV := Lib.hid hv; have HB := Lib.hid hB; have HF := Lib.hid hf; have HFR := Lib.hid hfr
      clear hp hown hv hB hf hfr d1 d2 d3
      cases hbb : bad || badB (l.take k)
      case true =>
        rw [hbb] at q1
        have HBB := Lib.hid hbb
        go_wp2_with (at_builtin; refine append_fresh u8E rfl (.tmp 31) (.tmp 34) rfl B (out ++ lowB (l.take k)) [(x%256)] v1 rfl (Own.alloc (HO.out.fr (Fr.setCell (Fr.refl (fun k => k = p) _) (fun _ => rfl) _) (fun k hk e => HV.out (by rw [hk, e]))) _) wr.heap.size 0 1 rfl (CellsAt.new' (w := wr.setCell ⟨p, 1, none⟩ (.bool true)) #[.int .u8 ((x%256))] _ _ (by simp)) ?c1 ?c2 ?_)
        case c1 => simp [lowB] at *; omega
        case c2 => have := HB.out; have := heap_lt HP.out; simp; omega
        intro v2 w2 hown2 hg2 hfr2
        have e1 : w2.heap[p]? = some (.cells #[v1, .bool true] 133) := by
          have hpl := heap_lt HP.out
          rw [hg2.block p (by simp; omega) (fun e => HV.out e.symm), Below.heap_alloc _ _ _ (by simpa using hpl)]
          exact two_set1 HP.out
        obtain ⟨r0, r1, r2, r3⟩ := two_cells e1
        have E1 := Lib.hid e1; clear e1
        have hv2 : v2.ownBlock ≠ some p := fun e => by
          rcases hfr2 p e with h' | h'
          · exact HV.out h'
          · have := heap_lt HP.out; simp at h'; omega
        have HV2 := Lib.hid hv2; clear hv2
        have hf2 : Fr (wrF p v) w w2 := by
          refine ((HF.out.setCell (p := ⟨p, 1, none⟩) (fun _ => .inl rfl) _).alloc _).grown hg2 (fun k hk hlt => ?_)
          rcases HFR.out k hk with h' | h'
          · exact .inr h'
          · omega
        have HF2 := Lib.hid hf2; clear hf2
        have HFR2 := Lib.hid (HFR.out.trans hfr2 (by have := HF.out.size; simp; omega))
        have HO2 := Lib.hid hown2
        obtain ⟨a2, n2, c2, rfl⟩ := hown2.slice
        clear hg2 hfr2 hown2
        go_wp2_with fail
        go_roundw
        case rel =>
          refine ⟨k + 1, by omega, by go_num, _, ⟨by rw [two_set0 E1.out]; unfold wrBlock; rw [show (bad || badB (l.take (k + 1))) = true from by rw [take_snoc l k hlt, ← HX.out, bad_snoc, HBB.out]; simp [*]], ?_, HV2.out, HB.out⟩, HF2.out.setCell (fun _ => .inl rfl) _, HFR2.out⟩
          have := HO2.out.fr (Fr.setCell (Fr.refl (fun k => k = p) _) (p := ⟨p, 0, none⟩) (fun _ => rfl) (.slice a2 n2 c2)) (fun k hk e => HV2.out (by rw [hk, e]))
          have e256 : x % 256 = (x%256) := by omega
          rw [take_snoc l k hlt, ← HX.out]
          simpa [lowB, e256] using this
        case measure => simp [intOf]; omega
      case false =>
        rw [hbb] at q1
        have HBB := Lib.hid hbb
        by_cases h1 : x < 0
        · skip
          go_wp2_with (at_builtin; refine append_fresh u8E rfl (.tmp 31) (.tmp 34) rfl B (out ++ lowB (l.take k)) [(x%256)] v1 rfl (Own.alloc (HO.out.fr (Fr.setCell (Fr.refl (fun k => k = p) _) (fun _ => rfl) _) (fun k hk e => HV.out (by rw [hk, e]))) _) wr.heap.size 0 1 rfl (CellsAt.new' (w := wr.setCell ⟨p, 1, none⟩ (.bool true)) #[.int .u8 ((x%256))] _ _ (by simp)) ?c1 ?c2 ?_)
          case c1 => simp [lowB] at *; omega
          case c2 => have := HB.out; have := heap_lt HP.out; simp; omega
          intro v2 w2 hown2 hg2 hfr2
          have e1 : w2.heap[p]? = some (.cells #[v1, .bool true] 133) := by
            have hpl := heap_lt HP.out
            rw [hg2.block p (by simp; omega) (fun e => HV.out e.symm), Below.heap_alloc _ _ _ (by simpa using hpl)]
            exact two_set1 HP.out
          obtain ⟨r0, r1, r2, r3⟩ := two_cells e1
          have E1 := Lib.hid e1; clear e1
          have hv2 : v2.ownBlock ≠ some p := fun e => by
            rcases hfr2 p e with h' | h'
            · exact HV.out h'
            · have := heap_lt HP.out; simp at h'; omega
          have HV2 := Lib.hid hv2; clear hv2
          have hf2 : Fr (wrF p v) w w2 := by
            refine ((HF.out.setCell (p := ⟨p, 1, none⟩) (fun _ => .inl rfl) _).alloc _).grown hg2 (fun k hk hlt => ?_)
            rcases HFR.out k hk with h' | h'
            · exact .inr h'
            · omega
          have HF2 := Lib.hid hf2; clear hf2
          have HFR2 := Lib.hid (HFR.out.trans hfr2 (by have := HF.out.size; simp; omega))
          have HO2 := Lib.hid hown2
          obtain ⟨a2, n2, c2, rfl⟩ := hown2.slice
          clear hg2 hfr2 hown2
          go_wp2_with fail
          go_roundw
          case rel =>
            refine ⟨k + 1, by omega, by go_num, _, ⟨by rw [two_set0 E1.out]; unfold wrBlock; rw [show (bad || badB (l.take (k + 1))) = true from by rw [take_snoc l k hlt, ← HX.out, bad_snoc, HBB.out]; simp [*]], ?_, HV2.out, HB.out⟩, HF2.out.setCell (fun _ => .inl rfl) _, HFR2.out⟩
            have := HO2.out.fr (Fr.setCell (Fr.refl (fun k => k = p) _) (p := ⟨p, 0, none⟩) (fun _ => rfl) (.slice a2 n2 c2)) (fun k hk e => HV2.out (by rw [hk, e]))
            have e256 : x % 256 = (x%256) := by omega
            rw [take_snoc l k hlt, ← HX.out]
            simpa [lowB, e256] using this
          case measure => simp [intOf]; omega
        have h1' : decide (x < 0) = false := by simpa using h1
        by_cases h2 : 255 < x
        · skip
          go_wp2_with (at_builtin; refine append_fresh u8E rfl (.tmp 31) (.tmp 34) rfl B (out ++ lowB (l.take k)) [(x%256)] v1 rfl (Own.alloc (HO.out.fr (Fr.setCell (Fr.refl (fun k => k = p) _) (fun _ => rfl) _) (fun k hk e => HV.out (by rw [hk, e]))) _) wr.heap.size 0 1 rfl (CellsAt.new' (w := wr.setCell ⟨p, 1, none⟩ (.bool true)) #[.int .u8 ((x%256))] _ _ (by simp)) ?c1 ?c2 ?_)
          case c1 => simp [lowB] at *; omega
          case c2 => have := HB.out; have := heap_lt HP.out; simp; omega
          intro v2 w2 hown2 hg2 hfr2
          have e1 : w2.heap[p]? = some (.cells #[v1, .bool true] 133) := by
            have hpl := heap_lt HP.out
            rw [hg2.block p (by simp; omega) (fun e => HV.out e.symm), Below.heap_alloc _ _ _ (by simpa using hpl)]
            exact two_set1 HP.out
          obtain ⟨r0, r1, r2, r3⟩ := two_cells e1
          have E1 := Lib.hid e1; clear e1
          have hv2 : v2.ownBlock ≠ some p := fun e => by
            rcases hfr2 p e with h' | h'
            · exact HV.out h'
            · have := heap_lt HP.out; simp at h'; omega
          have HV2 := Lib.hid hv2; clear hv2
          have hf2 : Fr (wrF p v) w w2 := by
            refine ((HF.out.setCell (p := ⟨p, 1, none⟩) (fun _ => .inl rfl) _).alloc _).grown hg2 (fun k hk hlt => ?_)
            rcases HFR.out k hk with h' | h'
            · exact .inr h'
            · omega
          have HF2 := Lib.hid hf2; clear hf2
          have HFR2 := Lib.hid (HFR.out.trans hfr2 (by have := HF.out.size; simp; omega))
          have HO2 := Lib.hid hown2
          obtain ⟨a2, n2, c2, rfl⟩ := hown2.slice
          clear hg2 hfr2 hown2
          go_wp2_with fail
          go_roundw
          case rel =>
            refine ⟨k + 1, by omega, by go_num, _, ⟨by rw [two_set0 E1.out]; unfold wrBlock; rw [show (bad || badB (l.take (k + 1))) = true from by rw [take_snoc l k hlt, ← HX.out, bad_snoc, HBB.out]; simp [*]], ?_, HV2.out, HB.out⟩, HF2.out.setCell (fun _ => .inl rfl) _, HFR2.out⟩
            have := HO2.out.fr (Fr.setCell (Fr.refl (fun k => k = p) _) (p := ⟨p, 0, none⟩) (fun _ => rfl) (.slice a2 n2 c2)) (fun k hk e => HV2.out (by rw [hk, e]))
            have e256 : x % 256 = (x%256) := by omega
            rw [take_snoc l k hlt, ← HX.out]
            simpa [lowB, e256] using this
          case measure => simp [intOf]; omega
        have h2' : decide (255 < x) = false := by simpa using h2
        go_wp2_with (at_builtin; refine append_fresh u8E rfl (.tmp 31) (.tmp 34) rfl B (out ++ lowB (l.take k)) [x] v1 rfl (Own.alloc (HO.out.fr (Fr.setCell (Fr.refl (fun k => k = p) _) (fun _ => rfl) _) (fun k hk e => HV.out (by rw [hk, e]))) _) wr.heap.size 0 1 rfl (CellsAt.new' (w := wr.setCell ⟨p, 1, none⟩ (.bool false)) #[.int .u8 (x)] _ _ (by simp)) ?c1 ?c2 ?_)
        case c1 => simp [lowB] at *; omega
        case c2 => have := HB.out; have := heap_lt HP.out; simp; omega
        intro v2 w2 hown2 hg2 hfr2
        have e1 : w2.heap[p]? = some (.cells #[v1, .bool false] 133) := by
          have hpl := heap_lt HP.out
          rw [hg2.block p (by simp; omega) (fun e => HV.out e.symm), Below.heap_alloc _ _ _ (by simpa using hpl)]
          exact two_set1 HP.out
        obtain ⟨r0, r1, r2, r3⟩ := two_cells e1
        have E1 := Lib.hid e1; clear e1
        have hv2 : v2.ownBlock ≠ some p := fun e => by
          rcases hfr2 p e with h' | h'
          · exact HV.out h'
          · have := heap_lt HP.out; simp at h'; omega
        have HV2 := Lib.hid hv2; clear hv2
        have hf2 : Fr (wrF p v) w w2 := by
          refine ((HF.out.setCell (p := ⟨p, 1, none⟩) (fun _ => .inl rfl) _).alloc _).grown hg2 (fun k hk hlt => ?_)
          rcases HFR.out k hk with h' | h'
          · exact .inr h'
          · omega
        have HF2 := Lib.hid hf2; clear hf2
        have HFR2 := Lib.hid (HFR.out.trans hfr2 (by have := HF.out.size; simp; omega))
        have HO2 := Lib.hid hown2
        obtain ⟨a2, n2, c2, rfl⟩ := hown2.slice
        clear hg2 hfr2 hown2
        go_wp2_with fail
        go_roundw
        case rel =>
          refine ⟨k + 1, by omega, by go_num, _, ⟨by rw [two_set0 E1.out]; unfold wrBlock; rw [show (bad || badB (l.take (k + 1))) = false from by rw [take_snoc l k hlt, ← HX.out, bad_snoc, HBB.out]; simp [*]], ?_, HV2.out, HB.out⟩, HF2.out.setCell (fun _ => .inl rfl) _, HFR2.out⟩
          have := HO2.out.fr (Fr.setCell (Fr.refl (fun k => k = p) _) (p := ⟨p, 0, none⟩) (fun _ => rfl) (.slice a2 n2 c2)) (fun k hk e => HV2.out (by rw [hk, e]))
          have e256 : x % 256 = x := by omega
          rw [take_snoc l k hlt, ← HX.out]
          simpa [lowB, e256] using this
        case measure => simp [intOf]; omega
    · have hk' : k = l.length := by omega
      subst hk'
      rw [List.take_length] at hp hown
      have HP := Lib.hid (show WrPost w B p v (out ++ lowB l) (bad || badB l) wr from ⟨v1, ⟨hp, hown, hv, hB⟩, hf, hfr⟩)
      clear hp hown hv hB hf hfr
      go_wp2_with fail
      go_end0
      exact ⟨rfl, HP.out⟩
end Go.Proofs.Ytmmdppjbofbjhaa
