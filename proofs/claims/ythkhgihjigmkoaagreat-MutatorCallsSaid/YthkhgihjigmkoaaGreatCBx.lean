import Derived.Test.YthkhgihjigmkoaaGreatCBt
import Derived.Deep.Upon
import Derived.Test.YthkhgihjigmkoaaGreatCBn
import Derived.Test.YthkhgihjigmkoaaGreatCBk
import Derived.Test.YthkhgihjigmkoaaGreatCBq
import Derived.Test.YthkhgihjigmkoaaGreatCBf
import Derived.Test.YthkhgihjigmkoaaGreatCAg
import Derived.Test.YthkhgihjigmkoaaGreatCAc
import Derived.Deep.RegionHeld3
import Derived.Deep.CutBlock
import Derived.Deep.DeepCutAuto
import Derived.Test.YthkhgihjigmkoaaGreatCBl
import Derived.Test.YthkhgihjigmkoaaGreatCBm
import Derived.Test.YthkhgihjigmkoaaGreatCAe
import Derived.Laws.BitsAllLaws
import Derived.Test.YthkhgihjigmkoaaGreatCAu
set_option linter.unusedVariables false
set_option linter.unusedSimpArgs false
namespace Go.Proofs.YthkhgihjigmkoaaGreat
open Go.ChangeShapes Go.WideShapes Go.ChangeAt Go.RowKit Go.Maps
set_option maxRecDepth 100000 in
theorem kindsM_any (w : World) (B mb b nm : Nat) (V : Nat → Prop) (C : Pl → Option (List Int)) (h : MapsAt w B mb b nm V C) (fn q : Int) (hI : i64B fn ∧ i64B q) (hCl : ∀ x K, C x = some K → K.length ≤ 100000) :
  Calls Tryz.prog 114 #[.pointer (some ⟨mb, 0, none⟩), .int .i64 fn, .int .i64 q] w fun e w' => ∃ v, e = .returned v ∧ Own intE w' w.heap.size v ((C ⟨(fn, q), hI⟩).getD []) ∧ Below w.heap.size w w' := by
 obtain ⟨hr, hm, _⟩ := h
 have k0 : w.cell? ⟨mb, 0, none⟩ = some (.map (some b)) := (row_cell hr 0).1
 cases hc : C ⟨(fn, q), hI⟩ with
 | none =>
  have hlk : (Instr.lookup 79 (.map (some b)) (.agg #[.int .i64 fn, .int .i64 q]) false).run Tryz.prog w = .ok (.slice none 0 0) w := (hm.none_run _ hc).2
  have cl := cloneInts_any w (fun _ => False) none [] 0 (fun j hj => by cases hj) (by simp)
  clear hr hm hCl hc
  have CL := Lib.hid cl; clear cl
  go_enter Tryz.func114, Tryz.ntmps114
  go_wp2_with fail
  refine CL.out.mono ?_
  rintro e w1 ⟨v, rfl, ho, hb⟩
  have HO := Lib.hid ho; clear ho
  have HB := Lib.hid hb; clear hb
  clear hlk
  go_wp2_with fail
  go_ret
  exact ⟨v, rfl, HO.out, HB.out⟩
 | some K =>
  obtain ⟨a, c, hs, _, hlk⟩ := hm.some_run _ K hc
  have hlk : (Instr.lookup 79 (.map (some b)) (.agg #[.int .i64 fn, .int .i64 q]) false).run Tryz.prog w = .ok (.slice a K.length c) w := hlk
  have cl := cloneInts_any w _ a K c hs (by have := hCl _ K hc; omega)
  clear hr hm hCl hc hs
  have CL := Lib.hid cl; clear cl
  go_enter Tryz.func114, Tryz.ntmps114
  go_wp2_with fail
  refine CL.out.mono ?_
  rintro e w1 ⟨v, rfl, ho, hb⟩
  have HO := Lib.hid ho; clear ho
  have HB := Lib.hid hb; clear hb
  clear hlk
  go_wp2_with fail
  go_ret
  exact ⟨v, rfl, HO.out, HB.out⟩
theorem MapsAt.below {w w' : World} {B mb b nm : Nat} {V : Nat → Prop} {C : Pl → Option (List Int)} (h : MapsAt w B mb b nm V C) (hb : Below w.heap.size w w') : MapsAt w' B mb b nm V C := by
 obtain ⟨h1, h2, h3, h4, h5⟩ := h
 exact ⟨(Fr.of_below hb (fun _ => False)).heap h1 (fun h => h), h2.fr (Fr.of_below hb (fun _ => False)) (fun h => h) (fun _ _ h => h), h3, h4, fun q hq => ⟨(h5 q hq).1, Nat.lt_of_lt_of_le (h5 q hq).2 hb.size⟩⟩
end Go.Proofs.YthkhgihjigmkoaaGreat
namespace Go.Proofs.YthkhgihjigmkoaaGreat
def PendAt (more : Bool) (pc : Nat) : Nat → Int → Prop := fun q _ => more = true ∨ pc ≤ q
def PendIn (more : Bool) (pc : Nat) (rem : List Int) : Nat → Int → Prop := fun q m => more = true ∨ pc < q ∨ (q = pc ∧ m ∈ rem)
theorem FInv.leave {p : Prg} {f : Fun} {M : Flo} {more : Bool} {pc : Nat} (h : FInv p f M (PendIn more pc [])) : FInv p f M (PendAt more (pc + 1)) :=
 h.weaken (fun q m hP => by
  rcases hP with hP | hP | hP
  ·exact .inl hP
  ·exact .inr hP
  ·cases hP.2)
theorem FInv.turned {p : Prg} {f : Fun} {M : Flo} {more : Bool} {pc n : Nat} {K : List Int} {l : List Int} (h : FInv p f M (PendIn more pc l)) (hn : n < f.code.length) (hK : K.length = f.slots.toNat) (hlow : ∀ S, Sol p f S → ∃ L, S n = some L ∧ Le L K) : ∀ rem, FInv p f (comeM M n K) (PendIn true pc rem) := fun _ =>
 (h.come n K hn hK hlow).1.weaken (fun _ _ _ => .inl rfl)
end Go.Proofs.YthkhgihjigmkoaaGreat
namespace Go.Proofs.YthkhgihjigmkoaaGreat
open Go.ChangeShapes Go.WideShapes Go.ChangeAt Go.RowKit Go.Maps
def bitsP (b : Int → Bool) (K : List Int) : Nat → Nat
 | 0 => 0
 | n + 1 => bitsP b K n + if b ((K[n]?).getD 0) then 2 ^ n else 0
theorem bitsP_lt (b : Int → Bool) (K : List Int) : ∀ n, bitsP b K n < 2 ^ n
 | 0 => Nat.one_pos
 | n + 1 => by
  have := bitsP_lt b K n
  show bitsP b K n + _ < 2 ^ (n + 1)
  rw [Nat.pow_succ]
  split <;> omega
theorem or_bit {x k : Nat} (hx : x < 2 ^ k) (hk : k < 16) : bits BinOp.or IntKind.u16 (x : Int) (IntKind.u16.wrap (2 ^ k)) = ((x + 2 ^ k : Nat) : Int) := by
 have h1 : ∀ k : Nat, k < 16 → IntKind.u16.wrap (2 ^ k) = ((2 ^ k : Nat) : Int) := by decide
 have h2 : 2 ^ k ≤ 2 ^ 15 := Nat.pow_le_pow_right (by decide) (by omega)
 have h3 : (2 : Nat) ^ 15 = 32768 := by decide
 rw [h1 k hk, u16_or_nat x (2 ^ k) (by omega) (by omega)]
 have h4 := Nat.two_pow_add_eq_or_of_lt hx 1
 rw [Nat.mul_one] at h4
 rw [Nat.or_comm, ← h4, Nat.add_comm]
set_option maxRecDepth 100000 in
theorem bitsL_any (w : World) (B mb b nm : Nat) (V : Nat → Prop) (C : Pl → Option (List Int)) (h : MapsAt w B mb b nm V C) (fn q : Int) (hI : i64B fn ∧ i64B q) (hCl : ∀ x K, C x = some K → K.length ≤ 16) :
  Calls Tryz.prog 80 #[.pointer (some ⟨mb, 0, none⟩), .int .i64 fn, .int .i64 q, .func (.func 81) #[] #[]] w fun e w' => e = .returned (.int .u16 (bitsP isLocB ((C ⟨(fn, q), hI⟩).getD []) ((C ⟨(fn, q), hI⟩).getD []).length : Nat)) ∧ Below w.heap.size w w' := by
 have km := kindsM_any w B mb b nm V C h fn q hI (fun x K hx => Nat.le_trans (hCl x K hx) (by decide))
 have hkl : ((C ⟨(fn, q), hI⟩).getD []).length ≤ 16 := by
  cases hc : C ⟨(fn, q), hI⟩ with
  | none => exact Nat.zero_le _
  | some K => exact hCl _ K hc
 clear h hCl
 generalize (C ⟨(fn, q), hI⟩).getD [] = K at *
 have KM := Lib.hid km
 clear km
 go_enter Tryz.func80, Tryz.ntmps80
 go_wp2_with fail
 refine KM.out.mono ?_
 rintro e w1 ⟨v, rfl, ho, hb⟩
 obtain ⟨va, vc, rfl, hs⟩ := own_int ho
 have HS := Lib.hid hs
 have HB := Lib.hid hb
 clear hs hb ho
 go_upto_region 3 with fail
 go_loopw [9, 19] (fun o i wr => ∃ k : Nat, k ≤ K.length ∧ i = .int .i64 k ∧ o = .int .u16 (bitsP isLocB K k : Nat) ∧ Below w1.heap.size w1 wr) (fun _ i _ => K.length - (intOf i).toNat)
 case atStart => exact ⟨0, Nat.zero_le _, rfl, rfl, Below.refl _ _⟩
 case round =>
  obtain ⟨k, hk, rfl, rfl, hbr⟩ := hrel
  by_cases hlt : k < K.length
  case neg =>
   have hk' : k = K.length := by omega
   have HBE := Lib.hid (HB.out.trans (hbr.mono HB.out.size))
   have hkn : ¬ (k : Int) < (K.length : Int) := by omega
   obtain ⟨x, hx⟩ : ∃ x, x = bitsP isLocB K k := ⟨_, rfl⟩
   have HXX := Lib.hid (show x = bitsP isLocB K K.length from by rw [hx, hk'])
   rw [← hx]
   clear hx
   clear hk' hk hbr
   go_wp2_with fail
   go_ret
   exact ⟨(congrArg (fun n : Nat => Ending.returned (Value.int IntKind.u16 (n : Int))) HXX.out), HBE.out⟩
  have hkl2 : (k : Int) < (K.length : Int) := by omega
  obtain ⟨b, o, rfl, _, c1⟩ := HS.out k hlt
  replace c1 := below_cell hbr c1
  have hx := bitsP_lt isLocB K k
  have hor := or_bit hx (by omega)
  have hsucc : bitsP isLocB K (k + 1) = bitsP isLocB K k + if isLocB K[k] then 2 ^ k else 0 := by
   show bitsP isLocB K k + _ = _
   simp [hlt]
  have i1 : IntKind.i64.wrap ((k : Int) + 1) = (k : Int) + 1 := IntWalk.i64_in _ (by omega)
  generalize K[k] = y at *
  generalize bitsP isLocB K k = x at *
  have pt := placesX_any wr y
  have PT := Lib.hid pt
  have HSU := Lib.hid hsucc
  have HOR := Lib.hid hor
  have HLT := Lib.hid hlt
  have HBR := Lib.hid hbr
  clear pt hsucc hor hlt hbr hx
  go_wp2_with fail
  refine PT.out.mono ?_
  cases hB : isLocB y
  ·rintro e w2 ⟨rfl, rfl⟩
   have HSB := Lib.hid (show bitsP isLocB K (k + 1) = x from by rw [HSU.out, hB]; simp)
   clear hB
   go_wp2_with fail
   go_roundw
   case rel => exact ⟨k + 1, HLT.out, by go_num, by rw [HSB.out], HBR.out⟩
   case measure => simp [intOf]; omega
  ·rintro e w2 ⟨rfl, rfl⟩
   have HSB := Lib.hid (show bitsP isLocB K (k + 1) = x + 2 ^ k from by rw [HSU.out, hB]; simp)
   clear hB
   go_wp2_with fail
   go_roundw
   case rel => exact ⟨k + 1, HLT.out, by go_num, by rw [HSB.out, HOR.out], HBR.out⟩
   case measure => simp [intOf]; omega
set_option maxRecDepth 100000 in
theorem mplaces_any (w : World) (B mb b nm : Nat) (V : Nat → Prop) (C : Pl → Option (List Int)) (h : MapsAt w B mb b nm V C) (fn q : Int) (hI : i64B fn ∧ i64B q) (hCl : ∀ x K, C x = some K → K.length ≤ 16) :
  Calls Tryz.prog 49 #[.pointer (some ⟨mb, 0, none⟩), .int .i64 fn, .int .i64 q] w fun e w' => e = .returned (.int .u16 (bitsP isLocB ((C ⟨(fn, q), hI⟩).getD []) ((C ⟨(fn, q), hI⟩).getD []).length : Nat)) ∧ Below w.heap.size w w' := by
 have bt := bitsL_any w B mb b nm V C h fn q hI hCl
 clear h hCl
 generalize bitsP isLocB ((C ⟨(fn, q), hI⟩).getD []) ((C ⟨(fn, q), hI⟩).getD []).length = x at *
 have BT := Lib.hid bt
 clear bt
 go_enter Tryz.func49, Tryz.ntmps49
 go_wp2_with fail
 refine BT.out.mono ?_
 rintro e w1 ⟨rfl, hb⟩
 have HB := Lib.hid hb
 clear hb
 go_wp2_with fail
 go_ret
 exact ⟨rfl, HB.out⟩
end Go.Proofs.YthkhgihjigmkoaaGreat
namespace Go.Proofs.YthkhgihjigmkoaaGreat.Tk
open Go.ChangeShapes Go.WideShapes Go.ChangeAt Go.RowKit Go.Maps
set_option maxRecDepth 100000 in
set_option maxHeartbeats 3200000 in
theorem run_do4 (w : World) (F : Nat → Prop) (tb : Nat) (p : TPrg) (T : Tk) (X : TB) (h : TaskAt w F tb p T X) (ht : TkOk T) (P : List Part) (q : Part) (hP : T.parts = P ++ [q]) (hq : 0 ≤ q.pc ∧ q.pc ≤ 100000) (j : Nat) (hj : j < p.funcs.length) (hfj : q.fn = j) (bn : Nat) (hbn : q.base = bn) (sa sb sc : Nat) (hs : (sa : Int) < p.funcs[j].slots ∧ (sb : Int) < p.funcs[j].slots ∧ (sc : Int) < p.funcs[j].slots) (hs2 : sa ≤ 3000 ∧ sb ≤ 3000 ∧ sc ≤ 3000) (hin : bn + (2 + sa) < T.words.length ∧ bn + (2 + sb) < T.words.length ∧ bn + (2 + sc) < T.words.length) (xb xc : Int) (hxb : T.words[bn + (2 + sb)]? = some xb) (hxc : T.words[bn + (2 + sc)]? = some xc) (c0 c1 c2 mp : Value) :
  Calls Tryz.prog 69 #[.agg (stepV c0 c1 c2 mp tb 4 sa sb sc)] w (RunPost w F tb p X ⟨T.base, T.words.set (bn + (2 + sa)) (doV 4 xb xc).1, P ++ [⟨q.fn, q.pc + 1, q.base, q.ret, q.ta, q.tn, q.tc⟩], T.marks⟩ (actV 0 0 0 0 0 false (.slice none 0 0))) := by
 have st := fun wr (hw : Below w.heap.size w wr) => stSet_any wr F tb p T X (h.below hw) ht P q hP hq j hj hfj bn hbn sa hs.1 hs2.1 hin.1 (doV 4 xb xc).1 c0 c1 c2 mp 4 sa sb sc
 have hl : T.parts.length = P.length + 1 := by rw [hP]; simp
 have e0 : (T.parts[P.length]'(by omega)) = q := by simp only [hP]; simp
 have sl1 := fun wr (hw : Below w.heap.size w wr) => slot_in wr F tb p T X (h.below hw) ht P.length hl j hj (by rw [e0]; exact hfj) bn (by rw [e0]; exact hbn) sb hs.2.1 hs2.2.1 hin.2.1
 have sl2 := fun wr (hw : Below w.heap.size w wr) => slot_in wr F tb p T X (h.below hw) ht P.length hl j hj (by rw [e0]; exact hfj) bn (by rw [e0]; exact hbn) sc hs.2.2 hs2.2.2 hin.2.2
 rw [List.getElem?_eq_getElem hin.2.1] at hxb
 rw [List.getElem?_eq_getElem hin.2.2] at hxc
 injection hxb with hxb
 injection hxc with hxc
 rw [hxb] at sl1
 rw [hxc] at sl2
 have sl : ∀ wr, Below w.heap.size w wr → ∀ (s : Nat) (x : Int), ((s = sb ∧ x = xb) ∨ (s = sc ∧ x = xc)) → Calls Tryz.prog 33 #[.pointer (some ⟨tb, 0, none⟩), .int .i64 s] wr fun e w' => e = .returned (.int .i64 x) ∧ Below wr.heap.size wr w' := fun wr hw s x hx => by
  rcases hx with ⟨rfl, rfl⟩ | ⟨rfl, rfl⟩
  ·exact sl1 wr hw
  ·exact sl2 wr hw
 have dv := do_any 4 xb xc
 generalize (doV 4 xb xc).1 = dv1 at *
 generalize (doV 4 xb xc).2 = dv2 at *
 clear sl1 sl2 hxb hxc hl e0 hs hin
 have ST := Lib.hid st; clear st
 have SL := Lib.hid sl; clear sl
 have DV := Lib.hid dv; clear dv
 have hb0 := ((Below.refl w.heap.size w).alloc (Nat.le_refl _) (.cells (stepV c0 c1 c2 mp tb 4 sa sb sc) 124))
 have hb1 := hb0.alloc hb0.size act0
 have hr0 := row_alloc (heap_new w (.cells (stepV c0 c1 c2 mp tb 4 sa sb sc) 124)) act0
 have hr1 := heap_new (w.alloc (.cells (stepV c0 c1 c2 mp tb 4 sa sb sc) 124)) act0
 rw [show (w.alloc (.cells (stepV c0 c1 c2 mp tb 4 sa sb sc) 124)).heap.size = w.heap.size + 1 from by simp] at hr1
 obtain ⟨W, hW⟩ : ∃ W, W = (w.alloc (.cells (stepV c0 c1 c2 mp tb 4 sa sb sc) 124)).alloc act0 := ⟨_, rfl⟩
 rw [← hW] at hb1 hr0 hr1
 have HFLT := Lib.hid h.flt
 have HOUT := Lib.hid (fun k (hk : X.D k) => (h.out k hk).2)
 have hwz : W.heap.size = w.heap.size + 2 := by rw [hW]; simp
 unfold act0 at hW hr1
 unfold stepV at hW hr0
 have HW := Lib.hid hW
 have k4 : W.cell? ⟨w.heap.size, 4, none⟩ = some (.pointer (some ⟨tb, 0, none⟩)) := (row_cell hr0 4).1
 have k5 : W.cell? ⟨w.heap.size, 5, none⟩ = some (.int .i64 4) := (row_cell hr0 5).1
 have k6 : W.cell? ⟨w.heap.size, 6, none⟩ = some (.int .i64 sa) := (row_cell hr0 6).1
 have k7 : W.cell? ⟨w.heap.size, 7, none⟩ = some (.int .i64 sb) := (row_cell hr0 7).1
 have k8 : W.cell? ⟨w.heap.size, 8, none⟩ = some (.int .i64 sc) := (row_cell hr0 8).1
 have HRR := Lib.hid (Below.refl W.heap.size W)
 clear hb0 hW
 have HB1 := Lib.hid hb1; clear hb1
 have HR1 := Lib.hid hr1; clear hr1
 have HR0 := Lib.hid hr0; clear hr0
 have HWZ := Lib.hid hwz; clear hwz
 unfold stepV
 go_enter Tryz.func69, Tryz.ntmps69
 go_upto_region 1 with fail
 rw [← HW.out]
 go_cut [3, 4] (fun x y wx => ∃ z : Nat, x = .pointer (some ⟨z, 0, none⟩) ∧ y = .pointer (some ⟨tb, 0, none⟩) ∧ wx.heap[z]? = some (.cells #[.int .i64 4, .int .i64 sa, .int .i64 sb, .int .i64 sc] 59) ∧ w.heap.size + 2 ≤ z ∧ Below W.heap.size W wx)
 case first =>
  have bs := World.block_lt k4
  dsimp only at bs
  go_region
  all_goals
   go_wp2_with fail
   go_meet
   case rel => exact ⟨_, rfl, rfl, heap_new _ _, by have := HWZ.out; omega, (HRR.out.drew).alloc (HRR.out.size) _⟩
 case rest =>
  obtain ⟨z, rfl, rfl, hz, hzl, hR⟩ := hcut
  have hbc := HB1.out.trans (hR.mono HB1.out.size)
  have hrb := (Fr.of_below hR (fun _ => False)).heap HR0.out (fun h => h)
  have hrc := (Fr.of_below hR (fun _ => False)).heap HR1.out (fun h => h)
  have HBC := Lib.hid hbc
  have HRW := Lib.hid (fun wx (hw : Below wc.heap.size wc wx) => (Fr.of_below hw (fun _ => False)).heap hrc (fun h => h))
  have HSS := Lib.hid (show ∀ wx, Below wc.heap.size wc wx → wx.cell? ⟨w.heap.size, 0, none⟩ = some (c0) ∧ wx.cell? ⟨w.heap.size, 1, none⟩ = some (c1) ∧ wx.cell? ⟨w.heap.size, 2, none⟩ = some (c2) ∧ wx.cell? ⟨w.heap.size, 3, none⟩ = some (mp) ∧ wx.cell? ⟨w.heap.size, 4, none⟩ = some (.pointer (some ⟨tb, 0, none⟩)) ∧ wx.cell? ⟨w.heap.size, 5, none⟩ = some (.int .i64 4) ∧ wx.cell? ⟨w.heap.size, 6, none⟩ = some (.int .i64 sa) ∧ wx.cell? ⟨w.heap.size, 7, none⟩ = some (.int .i64 sb) ∧ wx.cell? ⟨w.heap.size, 8, none⟩ = some (.int .i64 sc) ∧ wx.cell? ⟨z, 0, none⟩ = some (.int .i64 4) ∧ wx.cell? ⟨z, 1, none⟩ = some (.int .i64 sa) ∧ wx.cell? ⟨z, 2, none⟩ = some (.int .i64 sb) ∧ wx.cell? ⟨z, 3, none⟩ = some (.int .i64 sc) from fun wx hw => by
   have g1 := (Fr.of_below hw (fun _ => False)).heap hrb (fun h => h)
   have g2 := (Fr.of_below hw (fun _ => False)).heap hz (fun h => h)
   exact ⟨(row_cell g1 0).1, (row_cell g1 1).1, (row_cell g1 2).1, (row_cell g1 3).1, (row_cell g1 4).1, (row_cell g1 5).1, (row_cell g1 6).1, (row_cell g1 7).1, (row_cell g1 8).1, (row_cell g2 0).1, (row_cell g2 1).1, (row_cell g2 2).1, (row_cell g2 3).1⟩)
  have hSd := HSS.out wc.drew (Below.refl wc.heap.size wc).drew
  have HRC := Lib.hid (Below.refl wc.heap.size wc)
  have HRD := Lib.hid (Below.refl wc.heap.size wc).drew
  have z0 : wc.cell? ⟨z, 0, none⟩ = some (.int .i64 4) := (row_cell hz 0).1
  clear hR hrb hrc hz k4 k5 k6 k7 k8 hbc
  have HCUR := HRD
  go_upto_region 13 with fail
  clear z0
  go_region_held3 (fun w' => w'.cell? ⟨w.heap.size, 0, none⟩ = some (c0) ∧ w'.cell? ⟨w.heap.size, 1, none⟩ = some (c1) ∧ w'.cell? ⟨w.heap.size, 2, none⟩ = some (c2) ∧ w'.cell? ⟨w.heap.size, 3, none⟩ = some (mp) ∧ w'.cell? ⟨w.heap.size, 4, none⟩ = some (.pointer (some ⟨tb, 0, none⟩)) ∧ w'.cell? ⟨w.heap.size, 5, none⟩ = some (.int .i64 4) ∧ w'.cell? ⟨w.heap.size, 6, none⟩ = some (.int .i64 sa) ∧ w'.cell? ⟨w.heap.size, 7, none⟩ = some (.int .i64 sb) ∧ w'.cell? ⟨w.heap.size, 8, none⟩ = some (.int .i64 sc) ∧ w'.cell? ⟨z, 0, none⟩ = some (.int .i64 4) ∧ w'.cell? ⟨z, 1, none⟩ = some (.int .i64 sa) ∧ w'.cell? ⟨z, 2, none⟩ = some (.int .i64 sb) ∧ w'.cell? ⟨z, 3, none⟩ = some (.int .i64 sc)) (first | with_reducible exact hSd | with_reducible exact hSq | go_keep) (first
   | (go_at_call 33
      refine (SL.out _ (HBC.out.trans (HCUR.out.mono HBC.out.size)) _ _ (by first | exact .inl ⟨rfl, rfl⟩ | exact .inr ⟨rfl, rfl⟩)).mono ?_
      rintro e wq ⟨rfl, hbq⟩
      have HCUR := Lib.hid (HCUR.out.trans (hbq.mono HCUR.out.size))
      have hSq := HSS.out _ HCUR.out
      clear hbq)
   | (go_at_call 97
      refine (DV.out _).mono ?_
      rintro e wd ⟨rfl, rfl⟩))
  all_goals
   obtain ⟨k0, k1, k2, k3, k4, k5, k6, k7, k8, _, z1, _, _⟩ := hSq
   have HWD := HCUR
   have stw := ST.out _ (HBC.out.trans (HCUR.out.mono HBC.out.size))
   unfold stepV at stw
   have STW := Lib.hid stw; clear stw
   go_wp2_with fail
   refine STW.out.mono ?_
   rintro e w5 ⟨rfl, hT5, hf5⟩
   clear k0 k1 k2 k3 k4 k5 k6 k7 k8 z1
   have hr5 := hf5.heap (HRW.out _ HWD.out) (fun e => by have := HFLT.out (w.heap.size + 1) e; omega)
   obtain ⟨⟨u0, u1, u2, u3, u4, u5, u6⟩, n0, n1, n2, n3, n4, n5, n6⟩ := seven_cells hr5
   have hfs := seven_fr w5 (.int .i64 0) (.int .i64 0) (.int .i64 0) (.int .i64 0) (.int .i64 0) (.bool false) (.slice none 0 0) (w.heap.size + 1)
   have hrs := seven_row hr5 (.int .i64 0) (.int .i64 0) (.int .i64 0) (.int .i64 0) (.int .i64 0) (.bool false) (.slice none 0 0)
   have hT6 := hT5.fr hfs (fun q hq e => by have := HFLT.out q hq; have e : q = w.heap.size + 1 := e; omega) (fun q hq e => by have := HOUT.out q hq; have e : q = w.heap.size + 1 := e; omega)
   have hfw := (Fr.of_below (HBC.out.trans (HWD.out.mono HBC.out.size)) F).trans hf5 (fun _ _ h => h)
   have hf6 := hfw.trans hfs (fun q hq e => by have e : q = w.heap.size + 1 := e; omega)
   have HPP := Lib.hid (show RunPost w F tb p X _ (actV 0 0 0 0 0 false (.slice none 0 0)) _ _ from ⟨rfl, F, X, hT6, ⟨rfl, rfl, rfl, rfl⟩, fun _ h => .inl h, hf6⟩)
   clear hfs hr5 hT5 hT6 hfw hf6 hf5
   have HRS := Lib.hid hrs; clear hrs
   unfold actV
   go_wp2_with fail
   refine bodyPost_ret ?_ rfl HPP.out
   have k0 := (row_cell HRS.out 0).1; have k1 := (row_cell HRS.out 1).1; have k2 := (row_cell HRS.out 2).1; have k3 := (row_cell HRS.out 3).1; have k4 := (row_cell HRS.out 4).1; have k5 := (row_cell HRS.out 5).1; have k6 := (row_cell HRS.out 6).1; simp at k0 k1 k2 k3 k4 k5 k6; simp [results, Tryz.results69, go_sem, k0, k1, k2, k3, k4, k5, k6, actV]
end Go.Proofs.YthkhgihjigmkoaaGreat.Tk
