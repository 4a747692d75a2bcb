/- Walks: where a slot lies; it is set, and read. -/
import Derived.Test.YtmanoclahcpaoaaTkG
namespace Go.Proofs.Ytmanoclahcpaoaa
open Go.ChangeShapes Go.WideShapes Go.ChangeAt Go.RowKit Go.Maps

theorem TaskAt.lt {w : World} {F : Nat → Prop} {tb : Nat} {p : TPrg} {T : Tk} {X : TB} (h : TaskAt w F tb p T X) : tb < w.heap.size := heap_lt h.row
set_option maxRecDepth 100000 in
set_option maxHeartbeats 3200000 in
theorem off_in (w : World) (F : Nat → Prop) (tb : Nat) (p : TPrg) (T : Tk) (X : TB) (h : TaskAt w F tb p T X) (ht : TkOk T) (d : Nat) (hd : d < T.parts.length) (j : Nat) (hj : j < p.funcs.length) (hfj : T.parts[d].fn = j) (s : Nat) (hs : (s : Int) < p.funcs[j].slots) (hs2 : s ≤ 3000) :
    Calls Try.prog 32 #[.pointer (some ⟨tb, 0, none⟩), .agg #[.int .i64 d, .int .i64 s]] w fun e w' => e = .returned (.int .i64 (T.parts[d].base + (2 + s))) ∧ Below w.heap.size w w' := by
  have hb0 := (Below.refl w.heap.size w).alloc (Nat.le_refl _) (.cells #[.int .i64 (d : Int), .int .i64 (s : Int)] 76)
  have hq := fun j => cell_new w #[.int .i64 (d : Int), .int .i64 (s : Int)] 76 (0, 0) j
  obtain ⟨W, hW⟩ : ∃ W, W = (w.alloc (.cells #[.int .i64 (d : Int), .int .i64 (s : Int)] 76)) := ⟨_, rfl⟩
  rw [← hW] at hb0 hq
  have s0 : W.cell? ⟨w.heap.size, 0, none⟩ = some (.int .i64 (d : Int)) := hq 0
  have s1 : W.cell? ⟨w.heap.size, 1, none⟩ = some (.int .i64 (s : Int)) := hq 1
  have hT := h.below hb0
  have dp := fun m => depth_any (W.drewN m) F tb p T X (hT.below (below_drewN (Below.refl _ _) m))
  obtain ⟨_, _, q2, _, q4, _⟩ := hT.cells
  obtain ⟨_, _, a2, m2, e2, hfn⟩ := hT.prg
  rw [e2] at q2
  obtain ⟨a, c, hpv, hel⟩ := hT.pv
  rw [hpv] at q4
  obtain ⟨b, rfl, hb, k0, k1, k2, k3, k4⟩ := hel d hd
  obtain ⟨bb, o, rfl, _, y0, y1, y2, y3, y4, g0, g1, g2, g3, g4, hfv⟩ := hfn j hj
  obtain ⟨_, _, rfl, _⟩ := hfv
  have hbd := ht.2.2.2 T.parts[d] (List.getElem_mem hd)
  generalize p.funcs[j] = f at *
  rw [hfj] at k0
  generalize T.parts[d] = q at *
  have hd0 : ¬ (d : Int) < 0 := by omega
  have hd1 : ¬ (T.parts.length : Int) ≤ (d : Int) := by omega
  have hd2 : (d : Int) < T.parts.length := by omega
  have hd3 : (0 : Int) ≤ (d : Int) := by omega
  have hj0 : (0 : Int) ≤ (j : Int) := by omega
  have hj1 : (j : Int) < p.funcs.length := by omega
  have hs0 : ¬ (s : Int) < 0 := by omega
  have hs1 : ¬ f.slots ≤ (s : Int) := by omega
  have sf := fun w => slotF_any w (j : Int) (s : Int) (by omega) (by omega)
  have i1 : IntKind.i64.wrap (q.base + (2 + (s : Int))) = q.base + (2 + (s : Int)) := IntWalk.i64_in _ (by omega)
  have HW := Lib.hid hW
  clear hq hW hel hpv hb hfn e2 g0 g1 g3 g4 hT h ht hbd hd hj hs hfj
  generalize T.parts.length = pl at *
  generalize p.funcs.length = fl at *
  have DP := Lib.hid dp; clear dp
  have HB0 := Lib.hid hb0; clear hb0
  have SF := Lib.hid sf; clear sf
  go_enter Try.func32, Try.ntmps32
  go_upto_region 1 with fail
  rw [← HW.out]
  go_quiet ((go_at_call 12; exact Calls.quiet_of_same ((DP.out _).mono fun _ _ ⟨a, b⟩ => ⟨a, b.symm⟩)))
  go_upto_region 3 with fail
  have hB1 : Below W.heap.size W (W.drewN nq) := below_drewN (Below.refl _ _) nq
  have hb1 := HB0.out.trans (hB1.mono HB0.out.size)
  have s0 := below_cell hB1 s0
  have s1 := below_cell hB1 s1
  have q2 := below_cell hB1 q2
  have q4 := below_cell hB1 q4
  have k0 := below_cell hB1 k0
  have k1 := below_cell hB1 k1
  have k2 := below_cell hB1 k2
  have k3 := below_cell hB1 k3
  have k4 := below_cell hB1 k4
  have g2 := below_cell hB1 g2
  clear hB1
  generalize W.drewN nq = W1 at *
  have hw1 := Below.refl W1.heap.size W1
  have hbw : ∀ wr, Below W1.heap.size W1 wr → Below w.heap.size w wr := fun wr h => hb1.trans (h.mono hb1.size)
  have hs0' : ∀ wr, Below W1.heap.size W1 wr → wr.cell? _ = _ := fun wr h => below_cell h s0
  have hs1' : ∀ wr, Below W1.heap.size W1 wr → wr.cell? _ = _ := fun wr h => below_cell h s1
  have hq2' : ∀ wr, Below W1.heap.size W1 wr → wr.cell? _ = _ := fun wr h => below_cell h q2
  have hg2' : ∀ wr, Below W1.heap.size W1 wr → wr.cell? _ = _ := fun wr h => below_cell h g2
  clear hb1
  have HW1 := Lib.hid hw1; clear hw1
  have HBW := Lib.hid hbw; clear hbw
  have HS0' := Lib.hid hs0'; clear hs0'
  have HS1' := Lib.hid hs1'; clear hs1'
  have HQ2' := Lib.hid hq2'; clear hq2'
  have HG2' := Lib.hid hg2'; clear hg2'
  go_cut [5] (fun t wx => ∃ z : Nat, t = .pointer (some ⟨z, 0, none⟩) ∧ wx.heap[z]? = some (.cells #[.int .i64 (j : Int), .int .i64 q.pc, .int .i64 q.base, .int .i64 q.ret, .slice q.ta q.tn q.tc] 73) ∧ Below W1.heap.size W1 wx)
  case first =>
    have bs := World.block_lt s0
    have bk := World.block_lt k0
    have bq := World.block_lt q4
    dsimp only at bs bk bq
    go_region
    all_goals
      go_wp2_with fail
      go_meet
      case rel => exact ⟨_, rfl, heap_new _ _, (HW1.out.drew).alloc (HW1.out.size) _⟩
  case rest =>
    obtain ⟨z, rfl, hz, hR⟩ := hcut
    have s0 := HS0'.out wc hR
    have s1 := HS1'.out wc hR
    have q2 := HQ2'.out wc hR
    have g2 := HG2'.out wc hR
    have p0 : wc.cell? ⟨z, 0, none⟩ = some (.int .i64 (j : Int)) := (row_cell hz 0).1
    have p2 : wc.cell? ⟨z, 2, none⟩ = some (.int .i64 q.base) := (row_cell hz 2).1
    have hbc := HBW.out wc hR
    clear k0 k1 k2 k3 k4 q4 hR hz
    have HBC := Lib.hid hbc; clear hbc
    go_upto_region 4 with fail
    go_quiet (fail)
    go_upto_region 6 with fail
    have hB2 : Below wc.heap.size wc (wc.drewN nq) := below_drewN (Below.refl _ _) nq
    have s1 := below_cell hB2 s1
    have p0 := below_cell hB2 p0
    have p2 := below_cell hB2 p2
    have hbe := below_drewN HBC.out nq
    clear hB2 HBC
    generalize wc.drewN nq = W2 at *
    have HBE := Lib.hid hbe; clear hbe
    go_quiet ((go_at_call 47; exact Calls.quiet_of_same ((SF.out _).mono fun _ _ ⟨a, b⟩ => ⟨a, b.symm⟩)))
    go_wp2_with fail
    go_ret
    exact ⟨rfl, below_drewN HBE.out _⟩
end Go.Proofs.Ytmanoclahcpaoaa
