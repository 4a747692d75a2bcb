/- Walk: instr.Read and the reference's ReadCode: the instructions of bytes. What comes in: an instruction, a slice of instructions, of numbers. Walk: the first call of chapter 9's statements; and what is laid is read again. Footprints: what a call may turn is a set of blocks. Nothing of the program stands here. -/
import Derived.Test.YtmmdppjbofbjhaaEAc
import Derived.RegionTactic
import Derived.ChangeAlike
import Derived.ProofKit
import Derived.Deep.Slices
namespace Go.Proofs.Ytmmdppjbofbjhaa
open Go.ChangeShapes Go.WideShapes Go.ChangeAt Go.RowKit

/-- byte i of a string -/
def gb (b : ByteArray) (i : Nat) : Int := (b.data.getD i 0).toNat
theorem gb_get (b : ByteArray) (i : Nat) (h : i < b.size) : ((b[i]).toNat : Int) = gb b i := by
  unfold gb
  rw [Array.getD_eq_getD_getElem?, Array.getElem?_eq_getElem h]
  rfl
theorem gb_bd (b : ByteArray) (i : Nat) : 0 ≤ gb b i ∧ gb b i < 256 := by
  unfold gb
  have := (b.data.getD i 0).toNat_lt
  omega
/-- the instruction at a place of bytes -/
def rdAt (b : ByteArray) (i : Nat) : Ins := ⟨gb b i, gb b (i + 1), readV (gb b (i + 3)) (gb b (i + 4)) (gb b (i + 5)) (gb b (i + 6)), gb b (i + 2)⟩
def rdAll (b : ByteArray) (n : Nat) : List Ins := (List.range n).map fun k => rdAt b (7 * k)
theorem rdAll_snoc (b : ByteArray) (n : Nat) : rdAll b (n + 1) = rdAll b n ++ [rdAt b (7 * n)] := by
  simp [rdAll, List.range_succ]
theorem rdAll_len (b : ByteArray) (n : Nat) : (rdAll b n).length = n := by simp [rdAll]
/-- may they be? -/
def readOk (b : ByteArray) : Bool := b.size % 7 == 0 && (rdAll b (b.size / 7)).all rightB
def readL (b : ByteArray) : List Ins := if readOk b then rdAll b (b.size / 7) else []
theorem right_rd (b : ByteArray) (i : Nat) : rightB (rdAt b i) = (knownS (gb b i) && unusedB (rdAt b i)) := by
  have h1 := gb_bd b (i + 1)
  have h2 := gb_bd b (i + 2)
  have h3 : wrap32 (rdAt b i).b = (rdAt b i).b := by
    show wrap32 (readV _ _ _ _) = readV _ _ _ _
    unfold readV; rw [w32_w32]
  unfold rightB
  rw [h3]
  show (knownS (gb b i) && decide (0 ≤ gb b (i + 1)) && decide (gb b (i + 1) ≤ 255) && decide (0 ≤ gb b (i + 2)) && decide (gb b (i + 2) ≤ 255) && _ && _) = _
  simp [h1.1, h2.1, show gb b (i + 1) ≤ 255 from by omega, show gb b (i + 2) ≤ 255 from by omega]
theorem readOk_no (b : ByteArray) (k : Nat) (hk : 7 * k < b.size) (h7 : b.size % 7 = 0) (h : rightB (rdAt b (7 * k)) = false) : readOk b = false := by
  unfold readOk
  have : (rdAll b (b.size / 7)).all rightB = false := by
    rw [List.all_eq_false]
    exact ⟨rdAt b (7 * k), List.mem_map.2 ⟨k, List.mem_range.2 (by omega), rfl⟩, by simp [h]⟩
  rw [this, Bool.and_false]

/-- what a reading of bytes leaves -/
def ReadPost (b : ByteArray) (w : World) (e : Ending) (w' : World) : Prop :=
  ∃ v, e = .returned (.tuple #[v, .int .i64 (if readOk b then 0 else 2)]) ∧ Own insE w' w.heap.size v (readL b) ∧ Below w.heap.size w w'
def RReadPost (b : ByteArray) (w : World) (e : Ending) (w' : World) : Prop :=
  ∃ v, e = .returned (.tuple #[v, .bool (readOk b)]) ∧ Own insE w' w.heap.size v (readL b) ∧ Below w.heap.size w w'

theorem ext4 (b : ByteArray) (i : Nat) (h : i + 7 ≤ b.size) : (b.extract (i + 3) (i + 7)).size = 4 ∧ ∀ j (hj : j < (b.extract (i + 3) (i + 7)).size), (((b.extract (i + 3) (i + 7))[j]).toNat : Int) = gb b (i + 3 + j) := by
  have hs : (b.extract (i + 3) (i + 7)).size = 4 := by simp; omega
  refine ⟨hs, fun j hj => ?_⟩
  rw [ByteArray.getElem_extract, ← gb_get b _ (by omega)]

set_option maxRecDepth 100000 in
set_option maxHeartbeats 1600000 in
theorem read_code (b : ByteArray) (w : World) (hb : b.size ≤ 1000000) :
    Calls Try.prog 38 #[.string b] w (ReadPost b w) := by
  by_cases h7 : b.size % 7 = 0
  case neg =>
    have h7' : ((b.size : Int) % 7 != 0) = true := by rw [bne_iff_ne]; omega
    have hok : readOk b = false := by
      unfold readOk
      rw [show (b.size % 7 == 0) = false from by simpa using h7, Bool.false_and]
    have hP : ReadPost b w (.returned (.tuple #[.slice none 0 0, .int .i64 2])) w := ⟨_, by rw [hok]; rfl, by unfold readL; rw [hok]; exact Own.nil _ _ _, Below.refl _ _⟩
    clear hok h7
    have HP := Lib.hid hP; clear hP
    go_enter Try.func38, Try.ntmps38
    go_wp2_with fail
    go_ret2
    exact HP.out
  have h7' : ((b.size : Int) % 7 != 0) = false := by rw [bne_eq_false_iff_eq]; omega
  go_enter Try.func38, Try.ntmps38
  go_wp2_with fail
  clear h7'
  go_loopw [4, 5] (fun v i wr => ∃ at_ k : Nat, at_ = 7 * k ∧ at_ ≤ b.size ∧ i = .int .i64 at_ ∧ Own insE wr w.heap.size v (rdAll b k) ∧ Below w.heap.size w wr ∧ (rdAll b k).all rightB = true) (fun _ i _ => b.size - (intOf i).toNat)
  case atStart => exact ⟨0, 0, rfl, Nat.zero_le _, rfl, Own.nil _ _ _, Below.refl _ _, rfl⟩
  case round =>
    obtain ⟨at_, k, hak, hle, rfl, hown, hB, hall⟩ := hrel
    by_cases hlt : at_ < b.size
    · have h7le : at_ + 7 ≤ b.size := by omega
      obtain ⟨c, W1, hcv, hB1, hcells⟩ := conv_bytes wr (b.extract (at_ + 3) (at_ + 7))
      obtain ⟨hs4, hg4⟩ := ext4 b at_ h7le
      rw [hs4] at hcv
      have hrd := read_any wr.heap.size 0 4 c W1 (gb b (at_ + 3)) (gb b (at_ + 4)) (gb b (at_ + 5)) (gb b (at_ + 6)) (by omega) (by omega)
        (by have := gb_bd b (at_ + 3); have := gb_bd b (at_ + 4); have := gb_bd b (at_ + 5); have := gb_bd b (at_ + 6); omega)
        (by rw [hcells 0 (by omega), hg4 0 (by omega)]) (by rw [hcells 1 (by omega), hg4 1 (by omega)]) (by rw [hcells 2 (by omega), hg4 2 (by omega)]) (by rw [hcells 3 (by omega), hg4 3 (by omega)])
      have l1 : at_ + 1 < b.size := by omega
      have l2 : at_ + 2 < b.size := by omega
      have g0 := gb_get b at_ hlt
      have g1 := gb_get b (at_ + 1) l1
      have g2 := gb_get b (at_ + 2) l2
      have hx : rdAt b at_ = ⟨gb b at_, gb b (at_ + 1), readV (gb b (at_ + 3)) (gb b (at_ + 4)) (gb b (at_ + 5)) (gb b (at_ + 6)), gb b (at_ + 2)⟩ := rfl
      generalize gb b (at_ + 3) = y3 at *
      generalize gb b (at_ + 4) = y4 at *
      generalize gb b (at_ + 5) = y5 at *
      generalize gb b (at_ + 6) = y6 at *
      generalize readV y3 y4 y5 y6 = xb at *
      have hbd0 := gb_bd b at_
      have hbd1 := gb_bd b (at_ + 1)
      have hbd2 := gb_bd b (at_ + 2)
      clear hcells hg4 hs4
      have hr := right_any (rdAt b at_)
      rw [hx] at hr
      have hr : ∀ w, Calls Try.prog 88 #[.agg #[.int .i64 (gb b at_), .int .i64 (gb b (at_ + 1)), .int .i64 xb, .int .i64 (gb b (at_ + 2))]] w fun e w' => e = .returned (.bool (rightB ⟨gb b at_, gb b (at_ + 1), xb, gb b (at_ + 2)⟩)) ∧ Below w.heap.size w w' := hr
      generalize gb b at_ = xop at *
      generalize gb b (at_ + 1) = xa at *
      generalize gb b (at_ + 2) = xc at *
      obtain ⟨rb, hrb⟩ : ∃ rb, rb = rightB ⟨xop, xa, xb, xc⟩ := ⟨_, rfl⟩
      rw [← hrb] at hr
      rw [← hx] at hrb
      have hB2 := hB.trans (hB1.mono hB.size)
      have hown1 := hown.below hB1
      have HRD := Lib.hid hrd; clear hrd
      have HRB := Lib.hid hrb; clear hrb
      have HR := Lib.hid hr; clear hr
      have HB1 := Lib.hid hB1; clear hB1
      have HB2 := Lib.hid hB2; clear hB2
      have HOWN1 := Lib.hid hown1; clear hown1
      have HX := Lib.hid hx; clear hx
      clear hown hB
      have HAK := Lib.hid hak; clear hak
      have HALL := Lib.hid hall; clear hall
      go_wp2_with fail
      refine HRD.out.mono ?_; rintro e w1 ⟨rfl, rfl⟩
      go_wp2_with fail
      have n1 : (0 : Int) ≤ (at_ : Int) + 1 := by omega
      have n2 : (0 : Int) ≤ (at_ : Int) + 2 := by omega
      have m0 : (at_ : Int) < b.size := by omega
      have m1 : (at_ : Int) + 1 < b.size := by omega
      have m2 : (at_ : Int) + 2 < b.size := by omega
      have t1 : ((at_ : Int) + 1).toNat = at_ + 1 := by omega
      have t2 : ((at_ : Int) + 2).toNat = at_ + 2 := by omega
      have i1 : IntKind.i64.wrap ((at_ : Int) + 1) = (at_ : Int) + 1 := IntWalk.i64_in _ (by omega)
      have i2 : IntKind.i64.wrap ((at_ : Int) + 2) = (at_ : Int) + 2 := IntWalk.i64_in _ (by omega)
      go_region
      clear n1 n2 m0 m1 m2 t1 t2 i1 i2 g0 g1 g2 hcv
      go_wp2_with fail
      refine (HR.out _).mono ?_
      rintro e w2 ⟨rfl, hb2⟩
      have hW1 : W1.heap.size ≤ w2.heap.size := by have := hb2.size; simp at this; omega
      have hB3 : Below w.heap.size w w2 := by
        refine ((HB2.out.alloc HB2.out.size (.cells #[.int .i64 xop, .int .i64 xa, .int .i64 xb, .int .i64 xc] 58)).drew).trans (hb2.mono ?_)
        have := HB2.out.size; simp; omega
      cases rb
      · have hno : readOk b = false := readOk_no b k (by rw [← HAK.out]; exact hlt) h7 (by rw [← HAK.out]; exact HRB.out.symm)
        have hP : ReadPost b w (.returned (.tuple #[.slice none 0 0, .int .i64 2])) w2 := ⟨_, by rw [hno]; rfl, by unfold readL; rw [hno]; exact Own.nil _ _ _, hB3⟩
        clear hno hB3 hW1 hb2
        have HP := Lib.hid hP; clear hP
        go_wp2_with fail
        go_ret2
        exact HP.out
      · have q0 : w2.cell? ⟨W1.heap.size, 0, none⟩ = some (.int .i64 xop) := below_cell hb2 (cell_new W1 #[.int .i64 xop, .int .i64 xa, .int .i64 xb, .int .i64 xc] 58 (0, 0) 0)
        have q1 : w2.cell? ⟨W1.heap.size, 1, none⟩ = some (.int .i64 xa) := below_cell hb2 (cell_new W1 #[.int .i64 xop, .int .i64 xa, .int .i64 xb, .int .i64 xc] 58 (0, 0) 1)
        have q2 : w2.cell? ⟨W1.heap.size, 2, none⟩ = some (.int .i64 xb) := below_cell hb2 (cell_new W1 #[.int .i64 xop, .int .i64 xa, .int .i64 xb, .int .i64 xc] 58 (0, 0) 2)
        have q3 : w2.cell? ⟨W1.heap.size, 3, none⟩ = some (.int .i64 xc) := below_cell hb2 (cell_new W1 #[.int .i64 xop, .int .i64 xa, .int .i64 xb, .int .i64 xc] 58 (0, 0) 3)
        have hown2 : Own insE w2 w.heap.size _ (rdAll b k) := Own.below ((HOWN1.out.alloc (.cells #[.int .i64 xop, .int .i64 xa, .int .i64 xb, .int .i64 xc] 58)).drew) hb2
        have HB3 := Lib.hid hB3
        have HO2 := Lib.hid hown2
        clear hown2 hB3 hW1 hb2
        go_wp2_with (at_builtin; refine append_own insE rfl (.tmp 49) (.tmp 51) rfl w.heap.size (rdAll b k) [⟨xop, xa, xb, xc⟩] _ rfl (HO2.out.alloc _) w2.heap.size 0 1 rfl (CellsAt.new _ _ _ _) ?c1 ?c2 ?_)
        case c1 => rw [rdAll_len]; have := HAK.out; simp; omega
        case c2 => have := HB3.out.size; simp; omega
        intro v3 w3 hown3 hg3
        have hB4 := Lib.hid (below_grown (HB3.out.alloc HB3.out.size _) (HO2.out.alloc _) hg3 (by have := HB3.out.size; simp; omega) (Nat.le_refl _))
        have HO3 := Lib.hid hown3; clear hown3
        clear hg3 q0 q1 q2 q3
        go_wp2_with fail
        go_roundw
        case rel =>
          refine ⟨at_ + 7, k + 1, by have := HAK.out; omega, h7le, by go_num, ?_, hB4.out, ?_⟩
          · have hsn : rdAll b (k + 1) = rdAll b k ++ [⟨xop, xa, xb, xc⟩] := by rw [rdAll_snoc, ← HAK.out, HX.out]
            rw [hsn]; exact HO3.out
          · rw [rdAll_snoc, List.all_append, HALL.out, ← HAK.out]; simp [← HRB.out]
        case measure => simp [intOf]; omega
    · have hk' : at_ = b.size := by omega
      have hkk : b.size / 7 = k := by omega
      have hok : readOk b = true := by
        unfold readOk
        rw [hkk, hall, h7]; rfl
      have hP : ∀ v, Own insE wr w.heap.size v (rdAll b k) → ReadPost b w (.returned (.tuple #[v, .int .i64 0])) wr := fun v hv => ⟨v, by rw [hok]; rfl, by unfold readL; rw [hok, if_pos rfl, hkk]; exact hv, hB⟩
      have HP := Lib.hid (hP _ hown)
      clear hok hkk hall hown hB hak hP
      go_wp2_with fail
      go_ret2
      exact HP.out
end Go.Proofs.Ytmmdppjbofbjhaa
namespace Go.Proofs.Ytmmdppjbofbjhaa
open Go.ChangeShapes Go.WideShapes Go.ChangeAt Go.RowKit

def Ins.wf (x : Ins) : Prop := (-9223372036854775808 ≤ x.op ∧ x.op ≤ 9223372036854775807) ∧ (-9223372036854775808 ≤ x.a ∧ x.a ≤ 9223372036854775807) ∧ (-9223372036854775808 ≤ x.b ∧ x.b ≤ 9223372036854775807) ∧ (-9223372036854775808 ≤ x.c ∧ x.c ≤ 9223372036854775807)
instance : Inhabited Ins := ⟨⟨0, 0, 0, 0⟩⟩
variable {H : Type} {enc : TypeId × Value → H}
theorem cells_ints : Try.prog.cellsOf 3 = 1 ∧ Try.prog.cellsOf 58 = 4 := ⟨by kernel_rfl, by kernel_rfl⟩
theorem trod_one {w : World} {base : Nat} {sp : Nat → Bool} {hd : Bool} {n : Nat} {u : Value} {x : DataW H × List MemPlace} (h : DataW.trod enc Try.prog w base sp hd n 3 [u] = some x) : ∃ z, u = .int .i64 z ∧ -9223372036854775808 ≤ z ∧ z ≤ 9223372036854775807 := by
  obtain ⟨z, h1, _, h3⟩ := DataW.trod_int Try.underlying3 h
  simp only [List.cons.injEq, and_true] at h1
  have := bounds_i64 h3
  exact ⟨z, h1, this⟩
set_option maxRecDepth 100000 in
theorem trod_ins {w : World} {base : Nat} {sp : Nat → Bool} {hd : Bool} {n : Nat} {cs : List Value} {x : DataW H × List MemPlace} (h : DataW.trod enc Try.prog w base sp hd n 58 cs = some x) : ∃ y : Ins, cs = y.cells ∧ y.wf := by
  obtain ⟨xs, m, _, _, hl, hlen, hf⟩ := DataW.trod_struct Try.underlying58 h
  rw [cells_ints.2] at hl
  match cs, hl, xs, hlen with
  | [c0, c1, c2, c3], _, [y0, y1, y2, y3], _ =>
    have f0 : DataW.trod enc Try.prog w base sp hd m 3 (([c0, c1, c2, c3].drop 0).take (Try.prog.cellsOf 3)) = some y0 := hf 0 _ rfl
    have f1 : DataW.trod enc Try.prog w base sp hd m 3 (([c0, c1, c2, c3].drop 1).take (Try.prog.cellsOf 3)) = some y1 := hf 1 _ rfl
    have f2 : DataW.trod enc Try.prog w base sp hd m 3 (([c0, c1, c2, c3].drop 2).take (Try.prog.cellsOf 3)) = some y2 := hf 2 _ rfl
    have f3 : DataW.trod enc Try.prog w base sp hd m 3 (([c0, c1, c2, c3].drop 3).take (Try.prog.cellsOf 3)) = some y3 := hf 3 _ rfl
    rw [cells_ints.1] at f0 f1 f2 f3
    obtain ⟨z0, rfl, b0⟩ := trod_one f0
    obtain ⟨z1, rfl, b1⟩ := trod_one f1
    obtain ⟨z2, rfl, b2⟩ := trod_one f2
    obtain ⟨z3, rfl, b3⟩ := trod_one f3
    exact ⟨⟨z0, z1, z2, z3⟩, rfl, b0, b1, b2, b3⟩

/-- an address whose cell is there is a plain one -/
theorem plain_addr {w : World} {a : Addr} {v : Value} (h : w.cell? a = some v) : a = ⟨a.block, a.off, none⟩ := by
  obtain ⟨b, o, s⟩ := a
  cases s with
  | none => rfl
  | some s =>
    unfold World.cell? at h
    split at h
    · cases h
    · cases h
theorem addr_add (a : Addr) (hs : a.spot = none) (n : Nat) : a.add n = ⟨a.block, a.off + n, none⟩ := by
  unfold Addr.add
  split
  · subst n; obtain ⟨b, o, s⟩ := a; dsimp only at hs; subst hs; rfl
  · obtain ⟨b, o, s⟩ := a; dsimp only at hs; subst hs; rfl
theorem cells_four {w : World} {base : Nat} {a : Addr} {x : Ins} (h : w.cells? base a 4 = some x.cells) : a.spot = none ∧ InsAt w a.block a.off x := by
  obtain ⟨_, _, hc⟩ := World.cells?_some h
  have h0 := hc 0 (by omega)
  have hp : a.add 0 = a := rfl
  rw [hp] at h0
  have hs : a.spot = none := by have := plain_addr (v := .int .i64 x.op) h0; rw [this]
  have h1 := hc 1 (by omega)
  have h2 := hc 2 (by omega)
  have h3 := hc 3 (by omega)
  rw [addr_add a hs] at h1 h2 h3
  have := plain_addr (v := .int .i64 x.op) h0
  rw [this] at h0
  exact ⟨hs, h0, h1, h2, h3⟩

set_option maxRecDepth 100000 in
/-- a slice of instructions that comes in -/
theorem open_instrs {w : World} {base b : Nat} {v : Value} {sp : Nat → Bool} {d : DataW H} {p : List MemPlace} (hv : Value.okWide Try.prog w .any base 35 v)
    (h : DataW.Trod enc Try.prog w b sp true 35 v d p) : ∃ (a : Option Addr) (l : List Ins) (c : Nat), v = .slice a l.length c ∧ InsSl w a l ∧ ∀ x ∈ l, x.wf := by
  obtain ⟨fuel, hf⟩ := h
  obtain ⟨a0, len0, cap0, rfl⟩ := okWide_slice Try.underlying35 hv
  rcases Go.Deep.open_slice Try.underlying35 hf with ⟨hcs, hx⟩ | ⟨a, len, cap, m, n, D, Pl, hcs, hb, hl, hm, hmm, hx, hel⟩
  · simp [Value.cells] at hcs
    obtain ⟨rfl, rfl, rfl⟩ := hcs
    exact ⟨none, [], 0, rfl, (fun j hj => by cases hj), (fun x hx => by cases hx)⟩
  · simp [Value.cells] at hcs
    obtain ⟨rfl, rfl, rfl⟩ := hcs
    have hle : len0 ≤ m := by rw [hmm]; split <;> omega
    rw [cells_ints.2] at hel
    obtain ⟨f, hF⟩ := Go.Deep.choose_lt (α := Ins) (p := fun i y => (a.add (i * 4)).spot = none ∧ InsAt w (a.add (i * 4)).block (a.add (i * 4)).off y ∧ y.wf) (n := len0) (fun i hi => by
      obtain ⟨cs', h1, h2⟩ := hel i (by omega)
      obtain ⟨y, rfl, hwf⟩ := trod_ins h2
      obtain ⟨h3, h4⟩ := cells_four h1
      exact ⟨y, h3, h4, hwf⟩)
    refine ⟨some a, (List.range len0).map f, cap0, by simp, fun j hj => ?_, fun x hx => ?_⟩
    · simp at hj
      have h0 := (hF 0 (by omega)).1
      have ha0 : a.add (0 * 4) = a := by unfold Addr.add; simp
      rw [ha0] at h0
      have hj2 := (hF j hj).2.1
      rw [addr_add a h0] at hj2
      obtain ⟨bb, oo, ss⟩ := a
      dsimp only at h0
      subst h0
      exact ⟨bb, oo, rfl, by simpa using hj2⟩
    · simp at hx
      obtain ⟨i, hi, rfl⟩ := hx
      exact (hF i hi).2.2
end Go.Proofs.Ytmmdppjbofbjhaa
namespace Go.Proofs.Ytmmdppjbofbjhaa
open Go.ChangeShapes Go.WideShapes Go.ChangeAt Go.RowKit

theorem bytesS_size (l : List Int) : (bytesS l).size = l.length := by
  show (List.map _ l).toArray.size = _
  simp
theorem gb_bytesS (l : List Int) (i : Nat) (h : i < l.length) (hb : 0 ≤ l[i] ∧ l[i] < 256) : gb (bytesS l) i = l[i] := by
  unfold gb bytesS
  simp [Array.getD_eq_getD_getElem?, h]
  omega
theorem gb_extract (b : ByteArray) (k i : Nat) (h : i < k) (hk : k ≤ b.size) : gb (b.extract 0 k) i = gb b i := by
  have hs : i < (b.extract 0 k).size := by simp; omega
  rw [← gb_get _ i hs, ← gb_get b i (by omega), ByteArray.getElem_extract]
  simp
theorem layL_get (l : List Ins) (j : Nat) (hj : j < l.length) (r : Nat) (hr : r < 7) : (layL l)[7 * j + r]? = (layI l[j])[r]? := by
  induction l generalizing j with
  | nil => cases hj
  | cons x l ih =>
    have e : layL (x :: l) = layI x ++ layL l := rfl
    rw [e]
    cases j with
    | zero =>
      rw [Nat.mul_zero, Nat.zero_add, List.getElem?_append_left (by simpa [layI] using hr)]; rfl
    | succ j =>
      rw [List.getElem?_append_right (by simp [layI]; omega)]
      have : 7 * (j + 1) + r - (layI x).length = 7 * j + r := by simp [layI]; omega
      rw [this, ih j (by simpa using hj)]
      rfl
theorem layI_bd (x : Ins) (hx : rightB x = true) : ∀ y ∈ layI x, 0 ≤ y ∧ y < 256 := by
  intro y hy
  simp only [layI, List.mem_cons, List.not_mem_nil, or_false] at hy
  rcases hy with rfl | rfl | rfl | rfl | rfl | rfl | rfl <;> (try unfold byteOf) <;> omega
theorem gb_lay (l : List Ins) (hl : laid l = true) (j : Nat) (hj : j < l.length) (r : Nat) (hr : r < 7) : gb (bytesS (layL l)) (7 * j + r) = (layI l[j])[r]'(by simpa [layI] using hr) := by
  have h1 := layL_get l j hj r hr
  have hr' : r < (layI l[j]).length := by simpa [layI] using hr
  rw [List.getElem?_eq_getElem hr'] at h1
  obtain ⟨hlt, h2⟩ := List.getElem?_eq_some_iff.1 h1
  have hx : rightB l[j] = true := by
    unfold laid at hl
    exact List.all_eq_true.1 hl _ (List.getElem_mem hj)
  rw [gb_bytesS _ _ hlt (by rw [h2]; exact layI_bd _ hx _ (List.getElem_mem hr')), h2]
theorem right_parts {x : Ins} (h : rightB x = true) : (0 ≤ x.op ∧ x.op ≤ 29) ∧ (0 ≤ x.a ∧ x.a ≤ 255) ∧ (0 ≤ x.c ∧ x.c ≤ 255) ∧ wrap32 x.b = x.b := by
  simp [rightB, knownS] at h
  omega
theorem rd_lay (l : List Ins) (hl : laid l = true) (j : Nat) (hj : j < l.length) : rdAt (bytesS (layL l)) (7 * j) = l[j] := by
  have hx : rightB l[j] = true := by
    unfold laid at hl
    exact List.all_eq_true.1 hl _ (List.getElem_mem hj)
  obtain ⟨h1, h2, h3, h4⟩ := right_parts hx
  have g := gb_lay l hl j hj
  have g0 := g 0 (by omega)
  have g1 := g 1 (by omega)
  have g2 := g 2 (by omega)
  have g3 := g 3 (by omega)
  have g4 := g 4 (by omega)
  have g5 := g 5 (by omega)
  have g6 := g 6 (by omega)
  simp only [layI, List.getElem_cons_zero, List.getElem_cons_succ, Nat.add_zero] at g0 g1 g2 g3 g4 g5 g6
  unfold rdAt
  rw [g0, g1, g2, g3, g4, g5, g6, read_bytes, h4]
  have e : ∀ x : Ins, (0 ≤ x.op ∧ x.op ≤ 29) → (0 ≤ x.a ∧ x.a ≤ 255) → (0 ≤ x.c ∧ x.c ≤ 255) → (⟨x.op % 256, x.a % 256, x.b, x.c % 256⟩ : Ins) = x := by
    rintro ⟨op, a, b, c⟩ h1 h2 h3
    dsimp only at h1 h2 h3
    simp
    omega
  exact e _ h1 h2 h3
theorem rd_prefix (b : ByteArray) (k j : Nat) (hk : k ≤ b.size) (hj : 7 * j + 7 ≤ k) : rdAt (b.extract 0 k) (7 * j) = rdAt b (7 * j) := by
  unfold rdAt
  rw [gb_extract b k _ (by omega) hk, gb_extract b k _ (by omega) hk, gb_extract b k _ (by omega) hk, gb_extract b k _ (by omega) hk, gb_extract b k _ (by omega) hk, gb_extract b k _ (by omega) hk, gb_extract b k _ (by omega) hk]
theorem rdAll_prefix (l : List Ins) (hl : laid l = true) (k n : Nat) (hk : k ≤ 7 * l.length) (hn : 7 * n ≤ k) : rdAll ((bytesS (layL l)).extract 0 k) n = l.take n := by
  apply List.ext_getElem
  · rw [rdAll_len, List.length_take]; omega
  · intro i h1 h2
    rw [rdAll_len] at h1
    simp only [rdAll, List.getElem_map, List.getElem_range, List.getElem_take]
    rw [rd_prefix _ k i (by rw [bytesS_size, layL_len]; exact hk) (by omega), rd_lay l hl i (by omega)]
theorem laid_take (l : List Ins) (hl : laid l = true) (n : Nat) : (l.take n).all rightB = true := by
  rw [List.all_eq_true] at *
  unfold laid at hl
  rw [List.all_eq_true] at hl
  exact fun x hx => hl x (List.mem_of_mem_take hx)
/-- what is laid, cut behind k bytes, reads as the first instructions, or as none -/
theorem read_prefix (l : List Ins) (hl : laid l = true) (k : Nat) (hk : k ≤ 7 * l.length) :
    readOk ((bytesS (layL l)).extract 0 k) = (k % 7 == 0) ∧ (k % 7 = 0 → readL ((bytesS (layL l)).extract 0 k) = l.take (k / 7)) := by
  have hs : ((bytesS (layL l)).extract 0 k).size = k := by
    rw [ByteArray.size_extract, bytesS_size, layL_len]; omega
  have hok : readOk ((bytesS (layL l)).extract 0 k) = (k % 7 == 0) := by
    unfold readOk
    rw [hs, rdAll_prefix l hl k (k / 7) hk (by omega), laid_take l hl, Bool.and_true]
  refine ⟨hok, fun h7 => ?_⟩
  unfold readL
  rw [hok, hs, rdAll_prefix l hl k (k / 7) hk (by omega), if_pos (by simpa using h7)]
theorem extract_all (b : ByteArray) : b.extract 0 b.size = b := by
  apply ByteArray.ext
  simp
theorem read_lay (l : List Ins) (hl : laid l = true) : readOk (bytesS (layL l)) = true ∧ readL (bytesS (layL l)) = l := by
  have h := read_prefix l hl (7 * l.length) (Nat.le_refl _)
  have e : (bytesS (layL l)).extract 0 (7 * l.length) = bytesS (layL l) := by
    have := extract_all (bytesS (layL l))
    rw [bytesS_size, layL_len] at this
    exact this
  rw [e] at h
  refine ⟨by rw [h.1]; simp, ?_⟩
  have := h.2 (by omega)
  rw [this, show 7 * l.length / 7 = l.length from by omega, List.take_length]

set_option maxRecDepth 100000 in
set_option maxHeartbeats 1600000 in
theorem alive9 (w : World) :
    Calls Try.prog 34 #[] w fun e w' => e = .returned (.bool true) ∧ Below w.heap.size w w' := by
  have hlaid : laid [⟨1, 1, -1, 0⟩] = true := by decide +kernel
  have hres : layRes [⟨1, 1, -1, 0⟩] = .tuple #[.string ⟨#[1, 1, 0, 255, 255, 255, 255]⟩, .int .i64 0] := by
    unfold layRes
    rw [if_pos hlaid, show bytesS (layL [⟨1, 1, -1, 0⟩]) = ⟨#[1, 1, 0, 255, 255, 255, 255]⟩ from by decide +kernel]
  have hok : readOk ⟨#[1, 1, 0, 255, 255, 255, 255]⟩ = true := by decide +kernel
  have hrl : readL ⟨#[1, 1, 0, 255, 255, 255, 255]⟩ = [⟨1, 1, -1, 0⟩] := by
    have h := (read_lay [⟨1, 1, -1, 0⟩] hlaid).2
    rw [show bytesS (layL [⟨1, 1, -1, 0⟩]) = ⟨#[1, 1, 0, 255, 255, 255, 255]⟩ from by decide +kernel] at h
    exact h
  have ly := fun (w : World) => lay_any [⟨1, 1, -1, 0⟩] (some ⟨w.heap.size, 0, none⟩) 1 (w.alloc (.cells #[.int .i64 1, .int .i64 1, .int .i64 (-1), .int .i64 0] 58)) (by decide) (by
    intro j hj
    have : j = 0 := by simpa using hj
    subst this
    exact ⟨w.heap.size, 0, rfl, cell_new w _ _ _ 0, cell_new w _ _ _ 1, cell_new w _ _ _ 2, cell_new w _ _ _ 3⟩)
  rw [hres] at ly
  have rd := fun w => read_code ⟨#[1, 1, 0, 255, 255, 255, 255]⟩ w (by decide)
  have k1 := known_any 29
  have k2 := known_any 30
  rw [show knownS 29 = true from by decide +kernel] at k1
  rw [show knownS 30 = false from by decide +kernel] at k2
  have LY := Lib.hid ly; clear ly
  have RD := Lib.hid rd; clear rd
  have K1 := Lib.hid k1; clear k1
  have K2 := Lib.hid k2; clear k2
  have HOK := Lib.hid hok; clear hok
  have HRL := Lib.hid hrl; clear hrl
  clear hres hlaid
  go_enter Try.func34, Try.ntmps34
  go_wp2_with fail
  refine (LY.out _).mono ?_
  rintro e w1 ⟨rfl, hb1⟩
  have HB1 := Lib.hid (((Below.refl w.heap.size w).alloc (Nat.le_refl _) _).trans (hb1.mono (by simp)))
  clear hb1
  go_wp2_with fail
  refine (RD.out _).mono ?_
  rintro e w2 ⟨v, rfl, hown, hb2⟩
  rw [HOK.out, HRL.out] at *
  obtain ⟨a, c, rfl, hsl⟩ := own_ins hown
  obtain ⟨b, o, rfl, _, _, hc, _⟩ := hsl 0 (by decide)
  have HB2 := Lib.hid (HB1.out.trans (hb2.mono HB1.out.size))
  have hc : w2.cell? ⟨b, o + 2, none⟩ = some (.int .i64 (-1)) := by simpa using hc
  clear hb2 hown hsl
  go_wp2_with fail
  refine (K1.out _).mono ?_
  rintro e w3 ⟨rfl, rfl⟩
  go_wp2_with fail
  refine (K2.out _).mono ?_
  rintro e w3 ⟨rfl, rfl⟩
  go_wp2_with fail
  go_ret
  exact ⟨rfl, HB2.out⟩
end Go.Proofs.Ytmmdppjbofbjhaa
namespace Go.Proofs.Ytmmdppjbofbjhaa
open Go.RowKit

/-- but for the blocks of F, what was there is as it was -/
structure Fr (F : Nat → Prop) (w w' : World) : Prop where
  os : w'.os = w.os
  tape : w'.tape = w.tape
  output : w'.output = w.output
  size : w.heap.size ≤ w'.heap.size
  block : ∀ k, k < w.heap.size → ¬ F k → w'.heap[k]? = w.heap[k]?
theorem Fr.refl (F : Nat → Prop) (w : World) : Fr F w w := ⟨rfl, rfl, rfl, Nat.le_refl _, fun _ _ _ => rfl⟩
theorem Fr.trans {F G : Nat → Prop} {a b c : World} (h : Fr F a b) (k : Fr G b c) (hg : ∀ k, k < a.heap.size → G k → F k) : Fr F a c :=
  ⟨k.os.trans h.os, k.tape.trans h.tape, k.output.trans h.output, Nat.le_trans h.size k.size,
    fun i hi hn => (k.block i (Nat.lt_of_lt_of_le hi h.size) (fun hG => hn (hg i hi hG))).trans (h.block i hi hn)⟩
theorem Fr.mono {F G : Nat → Prop} {w w' : World} (h : Fr F w w') (hg : ∀ k, F k → G k) : Fr G w w' := ⟨h.os, h.tape, h.output, h.size, fun k hk hn => h.block k hk (fun hf => hn (hg k hf))⟩
theorem Fr.below {F : Nat → Prop} {w w' : World} (h : Fr F w w') {N : Nat} (hN : N ≤ w.heap.size) (hf : ∀ k, F k → N ≤ k) : Below N w w' :=
  ⟨h.os, h.tape, h.output, h.size, fun k hk => h.block k (by omega) (fun hF => by have := hf k hF; omega)⟩
theorem Fr.of_below {w w' : World} (h : Below w.heap.size w w') (F : Nat → Prop) : Fr F w w' := ⟨h.os, h.tape, h.output, h.size, fun k hk _ => h.block k hk⟩
theorem Fr.alloc {F : Nat → Prop} {a w : World} (h : Fr F a w) (o : Obj) : Fr F a (w.alloc o) :=
  h.trans (Fr.of_below ((Below.refl _ _).alloc (Nat.le_refl _) _) (fun _ => False)) (fun _ _ h => h.elim)
theorem Fr.drew {F : Nat → Prop} {a w : World} (h : Fr F a w) : Fr F a w.drew := ⟨h.os, h.tape, h.output, h.size, h.block⟩
theorem Fr.drewN {F : Nat → Prop} {a w : World} (h : Fr F a w) (n : Nat) : Fr F a (w.drewN n) := ⟨h.os, h.tape, h.output, h.size, h.block⟩
theorem Fr.setCell {F : Nat → Prop} {a w : World} (h : Fr F a w) {p : Addr} (hp : p.block < a.heap.size → F p.block) (u : Value) : Fr F a (w.setCell p u) :=
  h.trans (G := fun k => k = p.block) ⟨rfl, rfl, rfl, by simp [World.setCell], fun k _ hk => Below.heap_setCell _ _ _ _ hk⟩ (fun k hk e => by subst e; exact hp hk)
theorem Fr.grown {F : Nat → Prop} {a w w' : World} {row : Option Nat} (h : Fr F a w) (hg : w.grownBy w' row) (hr : ∀ k, row = some k → k < a.heap.size → F k) : Fr F a w' :=
  h.trans (G := fun k => row = some k) ⟨hg.os, hg.tape, hg.output, hg.size, fun k hk hn => hg.block k hk (fun e => hn e.symm)⟩ (fun k hk e => hr k e hk)
theorem Fr.heap {F : Nat → Prop} {w w' : World} (h : Fr F w w') {k : Nat} {o : Obj} (hk : w.heap[k]? = some o) (hn : ¬ F k) : w'.heap[k]? = some o := by
  have hlt : k < w.heap.size := by
    rcases Nat.lt_or_ge k w.heap.size with h' | h'
    · exact h'
    · rw [Array.getElem?_eq_none h'] at hk; cases hk
  rw [h.block k hlt hn]; exact hk
theorem Fr.cell {F : Nat → Prop} {w w' : World} (h : Fr F w w') {a : Addr} {v : Value} (hc : w.cell? a = some v) (hn : ¬ F a.block) : w'.cell? a = some v := by
  rw [World.cell?_of_block (w := w) (h.block a.block (World.block_lt hc) hn)]; exact hc
theorem owns_fr {F : Nat → Prop} {w w' : World} {base : Nat} {e : TypeId} {size : Nat} {v : Value} {n : Nat} {xs : List Value} (h : w.ownsRow base e size v n xs) (hf : Fr F w w') (hn : ∀ k, v.ownBlock = some k → ¬ F k) : w'.ownsRow base e size v n xs := by
  obtain ⟨h1, h2⟩ := h
  refine ⟨h1, ?_⟩
  rcases h2 with h2 | ⟨g, cap, cur, hv, hg, hh, hr⟩
  · exact .inl h2
  · exact .inr ⟨g, cap, cur, hv, hg, hf.heap hh (hn g (by rw [hv]; rfl)), hr⟩
theorem CellsAt.fr {F : Nat → Prop} {w w' : World} {b o : Nat} {cs : List Value} (h : CellsAt w b o cs) (hf : Fr F w w') (hn : ¬ F b) : CellsAt w' b o cs := fun j u hj => hf.cell (h j u hj) hn

variable {P : Program} {α : Type}
theorem Own.fr {E : Elem P α} {F : Nat → Prop} {w w' : World} {B : Nat} {v : Value} {l : List α} (h : Own E w B v l) (hf : Fr F w w') (hn : ∀ k, v.ownBlock = some k → ¬ F k) : Own E w' B v l := owns_fr h hf hn
theorem Own.lt {E : Elem P α} {w : World} {B : Nat} {v : Value} {l : List α} (h : Own E w B v l) {k : Nat} (hk : v.ownBlock = some k) : B ≤ k ∧ k < w.heap.size := World.ownsRow.lt h k hk
theorem Own.base {E : Elem P α} {w : World} {B B' : Nat} {v : Value} {l : List α} (h : Own E w B v l) (hb : ∀ k, v.ownBlock = some k → B' ≤ k) : Own E w B' v l := by
  obtain ⟨h1, h2⟩ := h
  refine ⟨h1, ?_⟩
  rcases h2 with h2 | ⟨g, cap, cur, hv, hg, hh, hr⟩
  · exact .inl h2
  · exact .inr ⟨g, cap, cur, hv, hb g (by rw [hv]; rfl), hh, hr⟩

theorem Own.slice {E : Elem P α} {w : World} {B : Nat} {v : Value} {l : List α} (h : Own E w B v l) : ∃ a n c, v = .slice a n c := by
  rcases h.2 with ⟨rfl, h0⟩ | ⟨g, cap, cur, rfl, _⟩
  · exact ⟨none, 0, 0, rfl⟩
  · exact ⟨_, _, _, rfl⟩
theorem heap_lt {w : World} {p : Nat} {o : Obj} (h : w.heap[p]? = some o) : p < w.heap.size := by
  rcases Nat.lt_or_ge p w.heap.size with h' | h'
  · exact h'
  · rw [Array.getElem?_eq_none h'] at h; cases h
/-- the new value's block is the elder one, or new -/
def Fresh (w : World) (v v' : Value) : Prop := ∀ k, v'.ownBlock = some k → v.ownBlock = some k ∨ w.heap.size ≤ k
/-- an append onto one's own: what it gives, and where it lies -/
theorem run_append_fresh (E : Elem P α) (w : World) (ty : TypeId) (B : Nat) (l m : List α) (v : Value) (hown : Own E w B v l) (b of c : Nat)
    (hm : CellsAt w b of (m.flatMap E.enc)) (hlen : l.length + m.length ≤ 100000000) (hB : B ≤ w.heap.size) :
    ∃ v' w', (Builtin.append_ #[E.t, E.t] ty #[v, .slice (some ⟨b, of, none⟩) m.length c]).run P w = .ok v' w' ∧ Own E w' B v' (l ++ m) ∧ w.grownBy w' v.ownBlock ∧ Fresh w v v' := by
  obtain ⟨i0, hi, hz0, hz1, hz2⟩ := info_parts E.info
  have hnews : ∀ j u, (m.flatMap E.enc)[j]? = some u → w.cell? ((⟨b, of, none⟩ : Addr).add j) = some u := by
    intro j u hj
    have := hm j u hj
    unfold Addr.add
    by_cases h0 : j = 0
    · subst h0; rw [if_pos rfl]; exact this
    · rw [if_neg h0]; exact this
  have h1 : ∀ u ∈ m.flatMap E.enc, u.oneCell' = true := by
    intro u hu
    obtain ⟨y, _, hy⟩ := List.mem_flatMap.1 hu
    exact E.hone y u hy
  have hml : l.length + m.length ≤ maxLen := by unfold maxLen; omega
  have hby : (l.length + m.length) * E.bytes ≤ 140737488355328 := by
    have h1 := E.hby
    have h2 : (l.length + m.length) * E.bytes ≤ 100000000 * 1000 := Nat.mul_le_mul hlen h1
    omega
  have go : ∀ B', B' ≤ w.heap.size → Own E w B' v l → ∃ v' w', (Builtin.append_ #[E.t, E.t] ty #[v, .slice (some ⟨b, of, none⟩) m.length c]).run P w = .ok v' w' ∧ Own E w' B' v' (l ++ m) ∧ w.grownBy w' v.ownBlock := fun B' hB' ho => by
    obtain ⟨v', w', hr, h2, h3, _⟩ := run_append_own (P := P) w B' E.t ty E.e i0 E.zero E.size E.bytes E.ht hi hz0 hz1 hz2 E.hzs E.hsz v l.length (l.flatMap E.enc) ho ⟨b, of, none⟩ m.length c (m.flatMap E.enc) (E.len m) hnews h1 hml hby hB'
    refine ⟨v', w', hr, ?_, h3⟩
    unfold Own
    rw [List.length_append, List.flatMap_append]
    exact h2
  obtain ⟨v', w', hr, h2, h3⟩ := go B hB hown
  refine ⟨v', w', hr, h2, h3, ?_⟩
  rcases hown.2 with ⟨rfl, h0⟩ | ⟨g, cap, cur, rfl, hbg, hg, hnc, hcm, hcs, htake⟩
  · have hl0 : l = [] := List.length_eq_zero_iff.1 h0
    subst hl0
    obtain ⟨v2, w2, hr2, h22, _⟩ := go w.heap.size (Nat.le_refl _) (Own.nil _ _ _)
    rw [hr] at hr2
    injection hr2 with e1 e2
    subst e1 e2
    exact fun k hk => .inr (h22.lt hk).1
  · by_cases hroom : l.length + m.length ≤ cap
    · have hfit : l.length * i0.size + (m.flatMap E.enc).length ≤ cur.size := by rw [E.len m, hcs, hz1, ← Nat.add_mul]; exact Nat.mul_le_mul_right _ hroom
      have hr2 := run_append_room (P := P) w E.t ty E.e i0 E.ht hi g l.length cap cur hg ⟨b, of, none⟩ m.length c (m.flatMap E.enc) (by rw [hz1]; exact E.len m) hnews h1 hroom hfit
      rw [hr] at hr2
      injection hr2 with e1 e2
      subst e1
      exact fun k hk => .inl hk
    · have holds : ∀ j u, (l.flatMap E.enc)[j]? = some u → w.cell? ((⟨g, 0, none⟩ : Addr).add j) = some u := World.ownsRow.cells (g := g) hown rfl
      have hr2 := run_append_grow (P := P) w E.t ty E.e i0 E.zero E.ht hi hz0 ⟨g, 0, none⟩ l.length cap (l.flatMap E.enc) (by rw [hz1]; exact E.len l) holds ⟨b, of, none⟩ m.length c (m.flatMap E.enc) (by rw [hz1]; exact E.len m) hnews (by omega) (by omega) (growslice_fits (by omega) (by rw [hz2]; exact hby))
      rw [hr] at hr2
      injection hr2 with e1 e2
      subst e1
      intro k hk
      simp [Value.ownBlock] at hk
      exact .inr (by omega)
/-- as an operation -/
theorem append_fresh (E : Elem P α) {ops : Array Oper} {rest : List Oper} {o : Oper} {a : Act} {Q : Exit → Act → World → Prop} {w : World} (hgd : o.guard = none) (s x : Operand)
    (ho : o.op = .call { callee := .builtin .append, args := #[s, x], argTypes := #[E.t, E.t] })
    (B : Nat) (l m : List α) (v : Value) (hs : a.eval s = v) (hown : Own E w B v l) (b of c : Nat) (hx : a.eval x = .slice (some ⟨b, of, none⟩) m.length c)
    (hm : CellsAt w b of (m.flatMap E.enc)) (hlen : l.length + m.length ≤ 100000000) (hB : B ≤ w.heap.size)
    (h : ∀ v' w', Own E w' B v' (l ++ m) → w.grownBy w' v.ownBlock → Fresh w v v' → wpList P ops Q rest (a.put o.dst v') w') : wpList P ops Q (o :: rest) a w :=
  wpList_plain hgd fun _ hK => by
    obtain ⟨v', w', hr, h2, h3, h4⟩ := run_append_fresh E w o.type B l m v hown b of c hm hlen hB
    unfold Oper.wp execOp
    simp only [ho, resolve, invoke, builtin, Sem.run_bind, Sem.run_pure, Result.andThen_ok, List.map_toArray, List.map_cons, List.map_nil, hs, hx, hr]
    exact hK _ _ (h v' w' h2 h3 h4)
theorem Elem.get (E : Elem P α) (l : List α) (j r : Nat) (hj : j < l.length) (hr : r < E.size) : (l.flatMap E.enc)[j * E.size + r]? = (E.enc l[j])[r]? := by
  induction l generalizing j with
  | nil => cases hj
  | cons x l ih =>
    rw [List.flatMap_cons]
    cases j with
    | zero =>
      rw [List.getElem?_append_left (by rw [E.henc]; omega)]; simp
    | succ j =>
      rw [List.getElem?_append_right (by rw [E.henc, Nat.add_mul]; omega)]
      have : (j + 1) * E.size + r - (E.enc x).length = j * E.size + r := by rw [E.henc, Nat.add_mul]; omega
      rw [this, ih j (by simpa using hj)]
      rfl
/-- one's own elements, to be read -/
theorem own_elems {E : Elem P α} {w : World} {B : Nat} {v : Value} {l : List α} (h : Own E w B v l) : ∃ a c, v = .slice a l.length c ∧ ∀ j (hj : j < l.length), ∃ b, a = some ⟨b, 0, none⟩ ∧ v.ownBlock = some b ∧ ∀ r u, (E.enc l[j])[r]? = some u → w.cell? ⟨b, j * E.size + r, none⟩ = some u := by
  have hc := fun g hg => World.ownsRow.cells (g := g) h hg
  obtain ⟨h1, h2⟩ := h
  rcases h2 with ⟨rfl, h0⟩ | ⟨g, cap, cur, rfl, hg, hh, hr⟩
  · have : l = [] := List.length_eq_zero_iff.1 h0
    subst this
    exact ⟨none, 0, rfl, fun j hj => by cases hj⟩
  · refine ⟨_, cap, rfl, fun j hj => ⟨g, rfl, rfl, fun r u hu => ?_⟩⟩
    have hrs : r < E.size := by
      rcases Nat.lt_or_ge r E.size with h' | h'
      · exact h'
      · rw [List.getElem?_eq_none (by rw [E.henc]; exact h')] at hu; cases hu
    have := hc g rfl (j * E.size + r) u (by rw [E.get l j r hj hrs]; exact hu)
    unfold Addr.add at this
    split at this
    · rename_i h0
      rw [h0]; exact this
    · simpa using this
/-- as an operation inside a region that draws its order -/
theorem step_append_fresh (E : Elem P α) {ops : Array Oper} {o : Oper} {a : Act} {w : World} {K : Act → World → Prop} {Q : Exit → Act → World → Prop} {F : Prop} (hgd : o.guard = none) (s x : Operand)
    (ho : o.op = .call { callee := .builtin .append, args := #[s, x], argTypes := #[E.t, E.t] })
    (B : Nat) (l m : List α) (v : Value) (hs : a.eval s = v) (hown : Own E w B v l) (b of c : Nat) (hx : a.eval x = .slice (some ⟨b, of, none⟩) m.length c)
    (hm : CellsAt w b of (m.flatMap E.enc)) (hlen : l.length + m.length ≤ 100000000) (hB : B ≤ w.heap.size)
    (h : ∀ v' w', Own E w' B v' (l ++ m) → w.grownBy w' v.ownBlock → Fresh w v v' → K (a.put o.dst v') w') : if Region.wanted o (yielded ops a.tmps) = true then Oper.wp P o a w K Q else F := by
  have hw : Region.wanted o (yielded ops a.tmps) = true := by simp [Region.wanted, hgd]
  rw [if_pos hw]
  obtain ⟨v', w', hr, h2, h3, h4⟩ := run_append_fresh E w o.type B l m v hown b of c hm hlen hB
  unfold Oper.wp execOp
  simp only [ho, resolve, invoke, builtin, Sem.run_bind, Sem.run_pure, Result.andThen_ok, List.map_toArray, List.map_cons, List.map_nil, hs, hx, hr]
  exact h v' w' h2 h3 h4
end Go.Proofs.Ytmmdppjbofbjhaa
