/- Walk: check.look's slots. Walk: the reference's ReadCode: the instructions of bytes. Walk: check.Instr. -/
import Derived.Test.YtmmdppjbofbjhaaEAo
import Derived.Deep.CutBlock
import Derived.Deep.DeepCutAuto
import Derived.Test.YtmmdppjbofbjhaaEAj
import Derived.Deep.RegionHeld3
import Derived.Test.YtmmdppjbofbjhaaEAg
import Derived.BigRegion
import Derived.Test.YtmmdppjbofbjhaaEAn
namespace Go.Proofs.Ytmmdppjbofbjhaa
open Go.ChangeShapes Go.WideShapes Go.ChangeAt Go.RowKit

theorem reads_len (x : Ins) (k : Int) : (readsL x k).length ≤ 100 := by
  have h1 := argSlots_len x.c (nArgs k)
  have h2 := nArgs_le k
  have h3 : ∀ l : List Int, (onceL l).length ≤ l.length := fun l => by simpa using onceL_len l l.length
  have h4 : ∀ u v : Int, (onceL [u, v]).length ≤ 2 := fun u v => h3 [u, v]
  unfold readsL
  repeat' split
  all_goals first | (simp; done) | (have := h4 x.b x.c; omega) | (have := h4 x.a x.c; omega) | (have := h4 x.a x.b; omega) | omega
def roomV (s c : Int) (n : Nat) : Bool := decide (0 ≤ c) && decide ((n : Int) ≤ s) && decide (c ≤ s - n)
/-- slots, by what callee and quiet answer -/
def usedV (p : Prg) (r : Int) (i : Ins) : List Int :=
  readsL i (calleeG p i).args.length ++ (if writesS i.op && !quietV p r i then [i.a] else []) ++ (if i.op == 26 then [i.b] else []) ++ (if i.op == 22 && !quietV p r i then [i.a] else [])
def slotsV (p : Prg) (r s : Int) (i : Ins) : Bool := !((calleeF p i).isSome && !roomV s i.c (calleeG p i).args.length) && (usedV p r i).all (withinB · s)
theorem slots_eq (p : Prg) (f : Fun) (i : Ins) : slotsV p f.result f.slots i = slotsB p f i := by
  unfold slotsV slotsB usedV usedL
  rw [quiet_eq]
  have h : ((calleeG p i).args.length : Int) = argsN (calleeF p i) := by
    unfold calleeG argsN
    cases calleeF p i <;> rfl
  rw [h]
  congr 1
  unfold calleeG roomV roomB
  cases calleeF p i <;> simp
set_option maxRecDepth 100000 in
set_option maxHeartbeats 3200000 in
theorem slots_any (w : World) (D : Nat → Prop) (hD : ∀ k, D k → k < w.heap.size) (p : Prg) (c0 c1 c2 d0 d3 d4 : Value) (r s : Int) (i : Ins) (fn pc : Int) (hv : PrgVal w D p c0 c1 c2) (hd0 : d0.oneCell' = true) (hd3 : d3.oneCell' = true) (hd4 : d4.oneCell' = true) (hs : s < 9223372036854775808) (hln : (calleeG p i).args.length ≤ 3000) :
    Calls Try.prog 137 #[.agg (lookC c0 c1 c2 d0 d3 d4 r s i fn pc)] w fun e w' => e = .returned (.bool (slotsV p r s i)) ∧ Below w.heap.size w w' := by
  have hus : usedV p r i = readsL i (calleeG p i).args.length ++ (if writesS i.op && !quietV p r i then [i.a] else []) ++ (if i.op == 26 then [i.b] else []) ++ (if i.op == 22 && !quietV p r i then [i.a] else []) := rfl
  unfold slotsV
  obtain ⟨op, a, b, c⟩ := i
  have ca := fun W h1 h2 => callee_any W D h1 p c0 c1 c2 d0 d3 d4 r s ⟨op, a, b, c⟩ fn pc h2
  have qu := fun W h1 h2 => quiet_any W D h1 p c0 c1 c2 d0 d3 d4 r s ⟨op, a, b, c⟩ fn pc h2 hd0 hd3 hd4
  unfold CalleePost at ca
  have hC0 := (Below.refl w.heap.size w).alloc (Nat.le_refl _) (.cells (lookC c0 c1 c2 d0 d3 d4 r s ⟨op, a, b, c⟩ fn pc) 156)
  have hbx := box1 w (lookC c0 c1 c2 d0 d3 d4 r s ⟨op, a, b, c⟩ fn pc) 156 _ (Below.refl _ _)
  have hz0 : (w.alloc (.cells (lookC c0 c1 c2 d0 d3 d4 r s ⟨op, a, b, c⟩ fn pc) 156)).heap.size = w.heap.size + 1 := by simp
  obtain ⟨W, hW⟩ : ∃ W, W = w.alloc (.cells (lookC c0 c1 c2 d0 d3 d4 r s ⟨op, a, b, c⟩ fn pc) 156) := ⟨_, rfl⟩
  rw [← hW] at hC0 hbx hz0
  have q : ∀ W', Below W.heap.size W W' → ∀ j u, (lookC c0 c1 c2 d0 d3 d4 r s ⟨op, a, b, c⟩ fn pc)[j]? = some u → W'.cell? ⟨w.heap.size, j, none⟩ = some u := fun W' h j u hj => below_cell h (hbx.1 j u hj)
  clear hbx
  have HW := Lib.hid hW
  clear hW
  have hvW : ∀ W', Below W.heap.size W W' → PrgVal W' D p c0 c1 c2 := fun W' h => hv.fr (Fr.of_below (hC0.trans (h.mono hC0.size)) (fun _ => False)) (fun _ _ h => h)
  have hDW : ∀ k, D k → k < W.heap.size := fun k hk => by have := hD k hk; omega
  have HQQ := Lib.hid q
  clear q
  have HC0 := Lib.hid hC0; clear hC0
  have HVW := Lib.hid hvW; clear hvW
  have HDW := Lib.hid hDW; clear hDW
  have HZ0 := Lib.hid hz0; clear hz0
  have rd := fun W => reads_any W ⟨op, a, b, c⟩ ((calleeG p ⟨op, a, b, c⟩).args.length : Int)
  have hrl := reads_len ⟨op, a, b, c⟩ ((calleeG p ⟨op, a, b, c⟩).args.length : Int)
  have wr := fun W => wr_any W op a b c
  unfold ReadsSaid at rd
  dsimp only at hus ⊢
  generalize usedV p r ⟨op, a, b, c⟩ = used at *
  generalize readsL ⟨op, a, b, c⟩ ((calleeG p ⟨op, a, b, c⟩).args.length : Int) = L at *
  have rd : ∀ W, Calls Try.prog 49 #[.agg #[.int .i64 op, .int .i64 a, .int .i64 b, .int .i64 c], .int .i64 ((calleeG p ⟨op, a, b, c⟩).args.length : Int)] W _ := rd
  generalize (calleeG p ⟨op, a, b, c⟩) = G at *
  generalize (calleeF p ⟨op, a, b, c⟩).isSome = is at *
  generalize quietV p r ⟨op, a, b, c⟩ = qb at *
  generalize hgr : G.result = gr at *
  generalize hgs : G.slots = gs at *
  generalize hgn : G.args.length = n at *
  clear hgr hgs
  have CA := Lib.hid (ca W HDW.out (HVW.out W (Below.refl _ _)))
  have QU := Lib.hid fun W' (h : Below W.heap.size W W') => qu W' (fun k hk => Nat.lt_of_lt_of_le (HDW.out k hk) h.size) (HVW.out W' h)
  obtain ⟨va, bw, hwr⟩ : ∃ (va : Int) (bw : Bool), va = (if writesS op = true then a else 0) ∧ bw = writesS op := ⟨_, _, rfl, rfl⟩
  rw [← hwr.1, ← hwr.2] at wr
  clear ca qu hv hD
  have RD := Lib.hid rd; clear rd
  have WR := Lib.hid wr; clear wr
  have HUS := Lib.hid hus; clear hus
  have HRL := Lib.hid hrl; clear hrl
  have HWR := Lib.hid hwr; clear hwr
  have HGN := Lib.hid hgn; clear hgn
  unfold lookC at *
  go_enter Try.func137, Try.ntmps137
  go_upto_region 1 with fail
  rw [← HW.out]
  have p0 : W.cell? ⟨w.heap.size, 0, none⟩ = some _ := HQQ.out _ (Below.refl _ _) 0 _ rfl
  have p1 : W.cell? ⟨w.heap.size, 1, none⟩ = some _ := HQQ.out _ (Below.refl _ _) 1 _ rfl
  have p2 : W.cell? ⟨w.heap.size, 2, none⟩ = some _ := HQQ.out _ (Below.refl _ _) 2 _ rfl
  have p3 : W.cell? ⟨w.heap.size, 3, none⟩ = some _ := HQQ.out _ (Below.refl _ _) 3 _ rfl
  have p4 : W.cell? ⟨w.heap.size, 4, none⟩ = some _ := HQQ.out _ (Below.refl _ _) 4 _ rfl
  have p5 : W.cell? ⟨w.heap.size, 5, none⟩ = some _ := HQQ.out _ (Below.refl _ _) 5 _ rfl
  have p6 : W.cell? ⟨w.heap.size, 6, none⟩ = some _ := HQQ.out _ (Below.refl _ _) 6 _ rfl
  have p7 : W.cell? ⟨w.heap.size, 7, none⟩ = some _ := HQQ.out _ (Below.refl _ _) 7 _ rfl
  have p8 : W.cell? ⟨w.heap.size, 8, none⟩ = some _ := HQQ.out _ (Below.refl _ _) 8 _ rfl
  have p9 : W.cell? ⟨w.heap.size, 9, none⟩ = some _ := HQQ.out _ (Below.refl _ _) 9 _ rfl
  have p10 : W.cell? ⟨w.heap.size, 10, none⟩ = some _ := HQQ.out _ (Below.refl _ _) 10 _ rfl
  have p11 : W.cell? ⟨w.heap.size, 11, none⟩ = some _ := HQQ.out _ (Below.refl _ _) 11 _ rfl
  have p12 : W.cell? ⟨w.heap.size, 12, none⟩ = some _ := HQQ.out _ (Below.refl _ _) 12 _ rfl
  have p13 : W.cell? ⟨w.heap.size, 13, none⟩ = some _ := HQQ.out _ (Below.refl _ _) 13 _ rfl
  go_wp2_with fail
  refine CA.out.mono ?_
  rintro e w1 ⟨x0, x3, x4, rfl, hfv, hb1⟩
  obtain ⟨hq1, hq2, ⟨g0, g1, rfl, _⟩, ⟨g2, g3, rfl, _⟩, g4, g5, rfl, _⟩ := hfv
  clear hq1 hq2
  rw [HGN.out]
  clear p0 p1 p2 p3 p4 p5 p6 p7 p8 p9 p10 p11 p12 p13
  obtain ⟨y, hy⟩ : ∃ y, y = w1.heap.size := ⟨_, rfl⟩
  have hly := heap_new w1 (.cells #[.slice g0 n g1, .int .i64 gr, .int .i64 gs, .slice g2 G.objects.length g3, .slice g4 G.code.length g5] 86)
  have hb2 := hb1.trans (((Below.refl w1.heap.size w1).alloc (Nat.le_refl _) (.cells #[.slice g0 n g1, .int .i64 gr, .int .i64 gs, .slice g2 G.objects.length g3, .slice g4 G.code.length g5] 86)).mono hb1.size)
  obtain ⟨w2, hw2⟩ : ∃ w2, w2 = w1.alloc (.cells #[.slice g0 n g1, .int .i64 gr, .int .i64 gs, .slice g2 G.objects.length g3, .slice g4 G.code.length g5] 86) := ⟨_, rfl⟩
  rw [← hw2] at hb2
  rw [← hw2, ← hy] at hly
  obtain ⟨⟨y0, y1, y2, y3, y4⟩, _⟩ := five_cells hly
  have HW2 := Lib.hid hw2
  have HY := Lib.hid hy
  clear hw2 hy hly hb1
  have HB2 := Lib.hid hb2
  clear hb2
  go_upto_region 2 with fail
  rw [← HW2.out, ← HY.out]
  have p0 : w2.cell? ⟨w.heap.size, 0, none⟩ = some _ := HQQ.out _ HB2.out 0 _ rfl
  have p1 : w2.cell? ⟨w.heap.size, 1, none⟩ = some _ := HQQ.out _ HB2.out 1 _ rfl
  have p2 : w2.cell? ⟨w.heap.size, 2, none⟩ = some _ := HQQ.out _ HB2.out 2 _ rfl
  have p3 : w2.cell? ⟨w.heap.size, 3, none⟩ = some _ := HQQ.out _ HB2.out 3 _ rfl
  have p4 : w2.cell? ⟨w.heap.size, 4, none⟩ = some _ := HQQ.out _ HB2.out 4 _ rfl
  have p5 : w2.cell? ⟨w.heap.size, 5, none⟩ = some _ := HQQ.out _ HB2.out 5 _ rfl
  have p6 : w2.cell? ⟨w.heap.size, 6, none⟩ = some _ := HQQ.out _ HB2.out 6 _ rfl
  have p7 : w2.cell? ⟨w.heap.size, 7, none⟩ = some _ := HQQ.out _ HB2.out 7 _ rfl
  have p8 : w2.cell? ⟨w.heap.size, 8, none⟩ = some _ := HQQ.out _ HB2.out 8 _ rfl
  have p9 : w2.cell? ⟨w.heap.size, 9, none⟩ = some _ := HQQ.out _ HB2.out 9 _ rfl
  have p10 : w2.cell? ⟨w.heap.size, 10, none⟩ = some _ := HQQ.out _ HB2.out 10 _ rfl
  have p11 : w2.cell? ⟨w.heap.size, 11, none⟩ = some _ := HQQ.out _ HB2.out 11 _ rfl
  have p12 : w2.cell? ⟨w.heap.size, 12, none⟩ = some _ := HQQ.out _ HB2.out 12 _ rfl
  have p13 : w2.cell? ⟨w.heap.size, 13, none⟩ = some _ := HQQ.out _ HB2.out 13 _ rfl
  go_upto_region 3 with fail
  go_cut [43] (fun o wx => o = .bool (is && !roomV s c n) ∧ wx = w2)
  case first =>
    cases is
    · go_wp2_with fail
      go_meet
      exact ⟨by simp, rfl⟩
    · by_cases h1 : c < 0
      · go_wp2_with fail
        go_meet
        exact ⟨by simp [roomV]; omega, rfl⟩
      · by_cases h2 : s < n
        · go_wp2_with fail
          go_meet
          exact ⟨by simp [roomV]; omega, rfl⟩
        · have i1 : IntKind.i64.wrap (s - (n : Int)) = s - (n : Int) := IntWalk.i64_in _ (by omega)
          by_cases h3 : s - (n : Int) < c
          · go_wp2_with fail
            go_meet
            exact ⟨by simp [roomV]; omega, rfl⟩
          · go_wp2_with fail
            go_meet
            exact ⟨by simp [roomV]; omega, rfl⟩
  case rest =>
    obtain ⟨rfl, rfl⟩ := hcut
    clear y0 y1 y2 y3 y4
    cases hro : (is && !roomV s c n)
    case true =>
      have HRO := Lib.hid hro
      clear hro
      have hB2 := HC0.out.trans (HB2.out.mono HC0.out.size)
      have HB2 := Lib.hid hB2; clear hB2
      go_wp2_with fail
      go_ret
      exact ⟨by rw [HRO.out]; rfl, HB2.out⟩
    have HRO := Lib.hid hro
    clear hro
    go_wp2_with fail
    refine (RD.out _).mono ?_
    rintro e w3 ⟨v1, rfl, ho1, hb3⟩
    have hb3' := HB2.out.trans (hb3.mono HB2.out.size)
    clear p0 p1 p2 p3 p4 p5 p6 p7 p8 p9 p10 p11 p12 p13
    have p0 : w3.cell? ⟨w.heap.size, 0, none⟩ = some _ := HQQ.out _ hb3' 0 _ rfl
    have p1 : w3.cell? ⟨w.heap.size, 1, none⟩ = some _ := HQQ.out _ hb3' 1 _ rfl
    have p2 : w3.cell? ⟨w.heap.size, 2, none⟩ = some _ := HQQ.out _ hb3' 2 _ rfl
    have p3 : w3.cell? ⟨w.heap.size, 3, none⟩ = some _ := HQQ.out _ hb3' 3 _ rfl
    have p4 : w3.cell? ⟨w.heap.size, 4, none⟩ = some _ := HQQ.out _ hb3' 4 _ rfl
    have p5 : w3.cell? ⟨w.heap.size, 5, none⟩ = some _ := HQQ.out _ hb3' 5 _ rfl
    have p6 : w3.cell? ⟨w.heap.size, 6, none⟩ = some _ := HQQ.out _ hb3' 6 _ rfl
    have p7 : w3.cell? ⟨w.heap.size, 7, none⟩ = some _ := HQQ.out _ hb3' 7 _ rfl
    have p8 : w3.cell? ⟨w.heap.size, 8, none⟩ = some _ := HQQ.out _ hb3' 8 _ rfl
    have p9 : w3.cell? ⟨w.heap.size, 9, none⟩ = some _ := HQQ.out _ hb3' 9 _ rfl
    have p10 : w3.cell? ⟨w.heap.size, 10, none⟩ = some _ := HQQ.out _ hb3' 10 _ rfl
    have p11 : w3.cell? ⟨w.heap.size, 11, none⟩ = some _ := HQQ.out _ hb3' 11 _ rfl
    have p12 : w3.cell? ⟨w.heap.size, 12, none⟩ = some _ := HQQ.out _ hb3' 12 _ rfl
    have p13 : w3.cell? ⟨w.heap.size, 13, none⟩ = some _ := HQQ.out _ hb3' 13 _ rfl
    have HB3' := Lib.hid hb3'; clear hb3'
    have HO1 := Lib.hid ho1; clear ho1
    clear hb3
    go_wp2_with fail
    refine (WR.out _).mono ?_
    rintro e w4 ⟨rfl, hb4⟩
    have hb4' := HB3'.out.trans (hb4.mono HB3'.out.size)
    have ho4 := (HO1.out.below hb4).base (B' := W.heap.size) (fun k hk => by have := (HO1.out.lt hk).1; have := HB2.out.size; omega)
    clear p0 p1 p2 p3 p4 p5 p6 p7 p8 p9 p10 p11 p12 p13
    have p0 : w4.cell? ⟨w.heap.size, 0, none⟩ = some _ := HQQ.out _ hb4' 0 _ rfl
    have p1 : w4.cell? ⟨w.heap.size, 1, none⟩ = some _ := HQQ.out _ hb4' 1 _ rfl
    have p2 : w4.cell? ⟨w.heap.size, 2, none⟩ = some _ := HQQ.out _ hb4' 2 _ rfl
    have p3 : w4.cell? ⟨w.heap.size, 3, none⟩ = some _ := HQQ.out _ hb4' 3 _ rfl
    have p4 : w4.cell? ⟨w.heap.size, 4, none⟩ = some _ := HQQ.out _ hb4' 4 _ rfl
    have p5 : w4.cell? ⟨w.heap.size, 5, none⟩ = some _ := HQQ.out _ hb4' 5 _ rfl
    have p6 : w4.cell? ⟨w.heap.size, 6, none⟩ = some _ := HQQ.out _ hb4' 6 _ rfl
    have p7 : w4.cell? ⟨w.heap.size, 7, none⟩ = some _ := HQQ.out _ hb4' 7 _ rfl
    have p8 : w4.cell? ⟨w.heap.size, 8, none⟩ = some _ := HQQ.out _ hb4' 8 _ rfl
    have p9 : w4.cell? ⟨w.heap.size, 9, none⟩ = some _ := HQQ.out _ hb4' 9 _ rfl
    have p10 : w4.cell? ⟨w.heap.size, 10, none⟩ = some _ := HQQ.out _ hb4' 10 _ rfl
    have p11 : w4.cell? ⟨w.heap.size, 11, none⟩ = some _ := HQQ.out _ hb4' 11 _ rfl
    have p12 : w4.cell? ⟨w.heap.size, 12, none⟩ = some _ := HQQ.out _ hb4' 12 _ rfl
    have p13 : w4.cell? ⟨w.heap.size, 13, none⟩ = some _ := HQQ.out _ hb4' 13 _ rfl
    have QU4 := Lib.hid (QU.out w4 hb4')
    have HB4' := Lib.hid hb4'; clear hb4'
    have HO4 := Lib.hid ho4; clear ho4
    clear hb4
    obtain ⟨z1, hz1⟩ : ∃ z, z = (bw && !qb) := ⟨_, rfl⟩
    obtain ⟨z2, hz2⟩ : ∃ z, z = (op == 26) := ⟨_, rfl⟩
    obtain ⟨z3, hz3⟩ : ∃ z, z = (op == 22 && !qb) := ⟨_, rfl⟩
    have HZ1 := Lib.hid hz1; clear hz1
    have HZ2 := Lib.hid hz2; clear hz2
    have HZ3 := Lib.hid hz3; clear hz3
    go_upto_region 7 with fail
    go_cut [59] (fun o wx => o = .bool z1 ∧ Below w4.heap.size w4 wx)
    case first =>
      cases bw
      · go_wp2_with fail
        go_meet
        exact ⟨by rw [HZ1.out]; rfl, Below.refl _ _⟩
      · go_wp2_with fail
        refine QU4.out.mono ?_
        rintro e w5 ⟨rfl, hb5⟩
        go_wp2_with fail
        go_meet
        exact ⟨by rw [HZ1.out]; cases qb <;> rfl, hb5⟩
    case rest =>
      obtain ⟨rfl, hb5⟩ := hcut
      have hb5' := HB4'.out.trans (hb5.mono HB4'.out.size)
      have ho5 := HO4.out.below hb5
      clear p0 p1 p2 p3 p4 p5 p6 p7 p8 p9 p10 p11 p12 p13
      clear hb5
      have HB5' := Lib.hid hb5'; clear hb5'
      have HO5 := Lib.hid ho5; clear ho5
      have HLL := Lib.hid (show (L ++ if z1 = true then [va] else []).length ≤ 200 ∧ ((L ++ if z1 = true then [va] else []) ++ if z2 = true then [b] else []).length ≤ 200 from by have := HRL.out; constructor <;> (cases z1 <;> cases z2 <;> simp <;> omega))
      have HLL := Lib.hid (show (L ++ if z1 = true then [va] else []).length ≤ 200 ∧ ((L ++ if z1 = true then [va] else []) ++ if z2 = true then [b] else []).length ≤ 200 from by have := HRL.out; constructor <;> (cases z1 <;> cases z2 <;> simp <;> omega))
      obtain ⟨L1, hL1⟩ : ∃ l, l = L ++ if z1 = true then [va] else [] := ⟨_, rfl⟩
      obtain ⟨L2, hL2⟩ : ∃ l, l = L1 ++ if z2 = true then [b] else [] := ⟨_, rfl⟩
      obtain ⟨L3, hL3⟩ : ∃ l, l = L2 ++ if z3 = true then [a] else [] := ⟨_, rfl⟩
      have hl0 := HRL.out
      have hl1 : L1.length ≤ 101 := by rw [hL1]; cases z1 <;> simp <;> omega
      have hl2 : L2.length ≤ 102 := by rw [hL2]; cases z2 <;> simp <;> omega
      have husd : used = L3 := by
        rw [HUS.out, hL3, hL2, hL1, HZ1.out, HZ2.out, HZ3.out, HWR.out.1, HWR.out.2]
        cases writesS op <;> rfl
      have HL1 := Lib.hid hL1; clear hL1
      have HL2 := Lib.hid hL2; clear hL2
      have HL3 := Lib.hid hL3; clear hL3
      have HUSD := Lib.hid husd; clear husd
      obtain ⟨L1, hL1⟩ : ∃ l, l = L ++ if z1 = true then [va] else [] := ⟨_, rfl⟩
      obtain ⟨L2, hL2⟩ : ∃ l, l = L1 ++ if z2 = true then [b] else [] := ⟨_, rfl⟩
      obtain ⟨L3, hL3⟩ : ∃ l, l = L2 ++ if z3 = true then [a] else [] := ⟨_, rfl⟩
      have hl0 := HRL.out
      have hl1 : L1.length ≤ 101 := by rw [hL1]; cases z1 <;> simp <;> omega
      have hl2 : L2.length ≤ 102 := by rw [hL2]; cases z2 <;> simp <;> omega
      have husd : used = L3 := by
        rw [HUS.out, hL3, hL2, hL1, HZ1.out, HZ2.out, HZ3.out, HWR.out.1, HWR.out.2]
        cases writesS op <;> rfl
      have HL1 := Lib.hid hL1; clear hL1
      have HL2 := Lib.hid hL2; clear hL2
      have HL3 := Lib.hid hL3; clear hL3
      have HUSD := Lib.hid husd; clear husd
      obtain ⟨L1, hL1⟩ : ∃ l, l = L ++ if z1 = true then [va] else [] := ⟨_, rfl⟩
      obtain ⟨L2, hL2⟩ : ∃ l, l = L1 ++ if z2 = true then [b] else [] := ⟨_, rfl⟩
      obtain ⟨L3, hL3⟩ : ∃ l, l = L2 ++ if z3 = true then [a] else [] := ⟨_, rfl⟩
      have hl0 := HRL.out
      have hl1 : L1.length ≤ 101 := by rw [hL1]; cases z1 <;> simp <;> omega
      have hl2 : L2.length ≤ 102 := by rw [hL2]; cases z2 <;> simp <;> omega
      have husd : used = L3 := by
        rw [HUS.out, hL3, hL2, hL1, HZ1.out, HZ2.out, HZ3.out, HWR.out.1, HWR.out.2]
        cases writesS op <;> rfl
      have HL1 := Lib.hid hL1; clear hL1
      have HL2 := Lib.hid hL2; clear hL2
      have HL3 := Lib.hid hL3; clear hL3
      have HUSD := Lib.hid husd; clear husd
      obtain ⟨L1, hL1⟩ : ∃ l, l = L ++ if z1 = true then [va] else [] := ⟨_, rfl⟩
      obtain ⟨L2, hL2⟩ : ∃ l, l = L1 ++ if z2 = true then [b] else [] := ⟨_, rfl⟩
      obtain ⟨L3, hL3⟩ : ∃ l, l = L2 ++ if z3 = true then [a] else [] := ⟨_, rfl⟩
      have hl0 := HRL.out
      have hl1 : L1.length ≤ 101 := by rw [hL1]; cases z1 <;> simp <;> omega
      have hl2 : L2.length ≤ 102 := by rw [hL2]; cases z2 <;> simp <;> omega
      have husd : used = L3 := by
        rw [HUS.out, hL3, hL2, hL1, HZ1.out, HZ2.out, HZ3.out, HWR.out.1, HWR.out.2]
        cases writesS op <;> rfl
      have HL1 := Lib.hid hL1; clear hL1
      have HL2 := Lib.hid hL2; clear hL2
      have HL3 := Lib.hid hL3; clear hL3
      have HUSD := Lib.hid husd; clear husd
      go_upto_if 59 with fail
      go_cut [6] (fun v wx => Own intE wx W.heap.size v L1 ∧ Below W.heap.size W wx)
      case first =>
        cases z1
        · have e := HL1.out
          simp only [Bool.false_eq_true, if_false, List.append_nil] at e
          have HOE := Lib.hid (show Own intE wc W.heap.size _ L1 from e ▸ HO5.out)
          clear e
          go_wp2_with fail
          go_meet
          exact ⟨HOE.out, HB5'.out⟩
        · have e := HL1.out
          simp only [if_true] at e
          have HE := Lib.hid e
          clear e
          go_wp2_with (at_builtin; refine append_own intE rfl (.tmp 60) (.tmp 62) rfl W.heap.size L [va] _ rfl (HO5.out.alloc _) wc.heap.size 0 1 rfl (CellsAt.new _ _ _ _) ?c1 ?c2 ?_)
          case c1 => first | omega | (simp; omega)
          case c2 => have := HB5'.out.size; simp; omega
          intro v3 w3 hown3 hg3
          have hbg := below_grown (HB5'.out.alloc HB5'.out.size (.cells #[.int .i64 va] 3)) (HO5.out.alloc _) hg3 (by have := HB5'.out.size; simp; omega) (Nat.le_refl _)
          rw [← HE.out] at hown3
          clear hg3
          have HOWN3 := Lib.hid hown3; clear hown3
          have HBG := Lib.hid hbg; clear hbg
          go_wp2_with fail
          go_meet
          exact ⟨HOWN3.out, HBG.out⟩
      case rest =>
        obtain ⟨ho, hb⟩ := hcut
        have HOC := Lib.hid ho
        have HBC := Lib.hid hb
        clear ho hb
        have p0 : wc.cell? ⟨w.heap.size, 0, none⟩ = some _ := HQQ.out _ HBC.out 0 _ rfl
        have p1 : wc.cell? ⟨w.heap.size, 1, none⟩ = some _ := HQQ.out _ HBC.out 1 _ rfl
        have p2 : wc.cell? ⟨w.heap.size, 2, none⟩ = some _ := HQQ.out _ HBC.out 2 _ rfl
        have p3 : wc.cell? ⟨w.heap.size, 3, none⟩ = some _ := HQQ.out _ HBC.out 3 _ rfl
        have p4 : wc.cell? ⟨w.heap.size, 4, none⟩ = some _ := HQQ.out _ HBC.out 4 _ rfl
        have p5 : wc.cell? ⟨w.heap.size, 5, none⟩ = some _ := HQQ.out _ HBC.out 5 _ rfl
        have p6 : wc.cell? ⟨w.heap.size, 6, none⟩ = some _ := HQQ.out _ HBC.out 6 _ rfl
        have p7 : wc.cell? ⟨w.heap.size, 7, none⟩ = some _ := HQQ.out _ HBC.out 7 _ rfl
        have p8 : wc.cell? ⟨w.heap.size, 8, none⟩ = some _ := HQQ.out _ HBC.out 8 _ rfl
        have p9 : wc.cell? ⟨w.heap.size, 9, none⟩ = some _ := HQQ.out _ HBC.out 9 _ rfl
        have p10 : wc.cell? ⟨w.heap.size, 10, none⟩ = some _ := HQQ.out _ HBC.out 10 _ rfl
        have p11 : wc.cell? ⟨w.heap.size, 11, none⟩ = some _ := HQQ.out _ HBC.out 11 _ rfl
        have p12 : wc.cell? ⟨w.heap.size, 12, none⟩ = some _ := HQQ.out _ HBC.out 12 _ rfl
        have p13 : wc.cell? ⟨w.heap.size, 13, none⟩ = some _ := HQQ.out _ HBC.out 13 _ rfl
        go_upto_region 9 with fail
        go_cut [67] (fun o wx => o = .bool z2 ∧ wx = wc)
        case first =>
          go_wp2_with fail
          go_meet
          exact ⟨by rw [HZ2.out], rfl⟩
        case rest =>
          obtain ⟨rfl, rfl⟩ := hcut
          go_upto_if 67 with fail
          go_cut [6] (fun v wx => Own intE wx W.heap.size v L2 ∧ Below W.heap.size W wx)
          case first =>
            cases z2
            · have e := HL2.out
              simp only [Bool.false_eq_true, if_false, List.append_nil] at e
              have HOE := Lib.hid (show Own intE wc W.heap.size _ L2 from e ▸ HOC.out)
              clear e
              go_wp2_with fail
              go_meet
              exact ⟨HOE.out, HBC.out⟩
            · have e := HL2.out
              simp only [if_true] at e
              have HE := Lib.hid e
              clear e
              go_wp2_with (at_builtin; refine append_own intE rfl (.tmp 68) (.tmp 72) rfl W.heap.size L1 [b] _ rfl (HOC.out.alloc _) wc.heap.size 0 1 rfl (CellsAt.new _ _ _ _) ?c1 ?c2 ?_)
              case c1 => first | omega | (simp; omega)
              case c2 => have := HBC.out.size; simp; omega
              intro v3 w3 hown3 hg3
              have hbg := below_grown (HBC.out.alloc HBC.out.size (.cells #[.int .i64 b] 3)) (HOC.out.alloc _) hg3 (by have := HBC.out.size; simp; omega) (Nat.le_refl _)
              rw [← HE.out] at hown3
              clear hg3
              have HOWN3 := Lib.hid hown3; clear hown3
              have HBG := Lib.hid hbg; clear hbg
              go_wp2_with fail
              go_meet
              exact ⟨HOWN3.out, HBG.out⟩
          case rest =>
            obtain ⟨ho, hb⟩ := hcut
            have HOC := Lib.hid ho
            have HBC := Lib.hid hb
            clear ho hb
            clear p0 p1 p2 p3 p4 p5 p6 p7 p8 p9 p10 p11 p12 p13
            have p0 : wc.cell? ⟨w.heap.size, 0, none⟩ = some _ := HQQ.out _ HBC.out 0 _ rfl
            have p1 : wc.cell? ⟨w.heap.size, 1, none⟩ = some _ := HQQ.out _ HBC.out 1 _ rfl
            have p2 : wc.cell? ⟨w.heap.size, 2, none⟩ = some _ := HQQ.out _ HBC.out 2 _ rfl
            have p3 : wc.cell? ⟨w.heap.size, 3, none⟩ = some _ := HQQ.out _ HBC.out 3 _ rfl
            have p4 : wc.cell? ⟨w.heap.size, 4, none⟩ = some _ := HQQ.out _ HBC.out 4 _ rfl
            have p5 : wc.cell? ⟨w.heap.size, 5, none⟩ = some _ := HQQ.out _ HBC.out 5 _ rfl
            have p6 : wc.cell? ⟨w.heap.size, 6, none⟩ = some _ := HQQ.out _ HBC.out 6 _ rfl
            have p7 : wc.cell? ⟨w.heap.size, 7, none⟩ = some _ := HQQ.out _ HBC.out 7 _ rfl
            have p8 : wc.cell? ⟨w.heap.size, 8, none⟩ = some _ := HQQ.out _ HBC.out 8 _ rfl
            have p9 : wc.cell? ⟨w.heap.size, 9, none⟩ = some _ := HQQ.out _ HBC.out 9 _ rfl
            have p10 : wc.cell? ⟨w.heap.size, 10, none⟩ = some _ := HQQ.out _ HBC.out 10 _ rfl
            have p11 : wc.cell? ⟨w.heap.size, 11, none⟩ = some _ := HQQ.out _ HBC.out 11 _ rfl
            have p12 : wc.cell? ⟨w.heap.size, 12, none⟩ = some _ := HQQ.out _ HBC.out 12 _ rfl
            have p13 : wc.cell? ⟨w.heap.size, 13, none⟩ = some _ := HQQ.out _ HBC.out 13 _ rfl
            have QU5 := Lib.hid (QU.out wc HBC.out)
            go_upto_region 11 with fail
            go_cut [82] (fun o wx => o = .bool z3 ∧ Below wc.heap.size wc wx)
            case first =>
              by_cases h22 : op = 22
              · have e22 : (op == 22) = true := by simpa using h22
                clear h22
                go_wp2_with fail
                refine QU5.out.mono ?_
                rintro e w5 ⟨rfl, hb5⟩
                go_wp2_with fail
                go_meet
                exact ⟨by rw [HZ3.out, e22]; cases qb <;> rfl, hb5⟩
              · have e22 : (op == 22) = false := by simpa using h22
                clear h22
                go_wp2_with fail
                go_meet
                exact ⟨by rw [HZ3.out, e22]; rfl, Below.refl _ _⟩
            case rest =>
              obtain ⟨rfl, hb5⟩ := hcut
              have HOC := Lib.hid (HOC.out.below hb5)
              have HBC := Lib.hid (HBC.out.trans (hb5.mono HBC.out.size))
              clear hb5
              clear p0 p1 p2 p3 p4 p5 p6 p7 p8 p9 p10 p11 p12 p13
              have p0 : wc.cell? ⟨w.heap.size, 0, none⟩ = some _ := HQQ.out _ HBC.out 0 _ rfl
              have p1 : wc.cell? ⟨w.heap.size, 1, none⟩ = some _ := HQQ.out _ HBC.out 1 _ rfl
              have p2 : wc.cell? ⟨w.heap.size, 2, none⟩ = some _ := HQQ.out _ HBC.out 2 _ rfl
              have p3 : wc.cell? ⟨w.heap.size, 3, none⟩ = some _ := HQQ.out _ HBC.out 3 _ rfl
              have p4 : wc.cell? ⟨w.heap.size, 4, none⟩ = some _ := HQQ.out _ HBC.out 4 _ rfl
              have p5 : wc.cell? ⟨w.heap.size, 5, none⟩ = some _ := HQQ.out _ HBC.out 5 _ rfl
              have p6 : wc.cell? ⟨w.heap.size, 6, none⟩ = some _ := HQQ.out _ HBC.out 6 _ rfl
              have p7 : wc.cell? ⟨w.heap.size, 7, none⟩ = some _ := HQQ.out _ HBC.out 7 _ rfl
              have p8 : wc.cell? ⟨w.heap.size, 8, none⟩ = some _ := HQQ.out _ HBC.out 8 _ rfl
              have p9 : wc.cell? ⟨w.heap.size, 9, none⟩ = some _ := HQQ.out _ HBC.out 9 _ rfl
              have p10 : wc.cell? ⟨w.heap.size, 10, none⟩ = some _ := HQQ.out _ HBC.out 10 _ rfl
              have p11 : wc.cell? ⟨w.heap.size, 11, none⟩ = some _ := HQQ.out _ HBC.out 11 _ rfl
              have p12 : wc.cell? ⟨w.heap.size, 12, none⟩ = some _ := HQQ.out _ HBC.out 12 _ rfl
              have p13 : wc.cell? ⟨w.heap.size, 13, none⟩ = some _ := HQQ.out _ HBC.out 13 _ rfl
              go_upto_if 82 with fail
              go_cut [6] (fun v wx => Own intE wx W.heap.size v L3 ∧ Below W.heap.size W wx)
              case first =>
                cases z3
                · have e := HL3.out
                  simp only [Bool.false_eq_true, if_false, List.append_nil] at e
                  have HOE := Lib.hid (show Own intE wc W.heap.size _ L3 from e ▸ HOC.out)
                  clear e
                  go_wp2_with fail
                  go_meet
                  exact ⟨HOE.out, HBC.out⟩
                · have e := HL3.out
                  simp only [if_true] at e
                  have HE := Lib.hid e
                  clear e
                  go_wp2_with (at_builtin; refine append_own intE rfl (.tmp 83) (.tmp 87) rfl W.heap.size L2 [a] _ rfl (HOC.out.alloc _) wc.heap.size 0 1 rfl (CellsAt.new _ _ _ _) ?c1 ?c2 ?_)
                  case c1 => first | omega | (simp; omega)
                  case c2 => have := HBC.out.size; simp; omega
                  intro v3 w3 hown3 hg3
                  have hbg := below_grown (HBC.out.alloc HBC.out.size (.cells #[.int .i64 a] 3)) (HOC.out.alloc _) hg3 (by have := HBC.out.size; simp; omega) (Nat.le_refl _)
                  rw [← HE.out] at hown3
                  clear hg3
                  have HOWN3 := Lib.hid hown3; clear hown3
                  have HBG := Lib.hid hbg; clear hbg
                  go_wp2_with fail
                  go_meet
                  exact ⟨HOWN3.out, HBG.out⟩
              case rest =>
                obtain ⟨ho, hb⟩ := hcut
                have HOC := Lib.hid ho
                have HBC := Lib.hid hb
                clear ho hb
                clear p0 p1 p2 p3 p4 p5 p6 p7 p8 p9 p10 p11 p12 p13
                have HOC := Lib.hid (show Own intE wc W.heap.size _ used from HUSD.out ▸ HOC.out)
                obtain ⟨sa, sc, rfl, hsl⟩ := own_int HOC.out
                have hul : used.length ≤ 103 := by rw [HUSD.out, HL3.out]; cases z3 <;> simp <;> omega
                have p5 : wc.cell? ⟨w.heap.size, 5, none⟩ = some (.int .i64 s) := HQQ.out _ HBC.out 5 _ rfl
                have wi := fun x => within_any wc x s
                have hbf := HC0.out.trans (HBC.out.mono HC0.out.size)
                have WI := Lib.hid wi; clear wi
                have HSL := Lib.hid hsl; clear hsl
                have HBF := Lib.hid hbf; clear hbf
                go_wp2_with fail
                go_loopw [91] (fun i wr => ∃ k : Nat, k ≤ used.length ∧ i = .int .i64 k ∧ wr = wc ∧ (used.take k).all (withinB · s) = true) (fun i _ => used.length - (intOf i).toNat)
                case atStart => exact ⟨0, Nat.zero_le _, by first | rfl | trivial, by first | rfl | trivial, by first | rfl | trivial | simp⟩
                case round =>
                  obtain ⟨k, hk, rfl, rfl, hall⟩ := hrel
                  by_cases hlt : k < used.length
                  · obtain ⟨b', o', rfl, _, hx⟩ := HSL.out k hlt
                    have hsn := take_snoc used k hlt
                    have hmem := List.getElem_mem hlt
                    generalize used[k] = x at *
                    have WX := Lib.hid (WI.out x)
                    cases hwx : withinB x s
                    · have hno : used.all (withinB · s) = false := by
                        rw [List.all_eq_false]
                        exact ⟨x, hmem, by simp [hwx]⟩
                      rw [hwx] at WX
                      clear hmem hsn hall hwx
                      have HNO := Lib.hid hno; clear hno
                      go_wp2_with fail
                      refine WX.out.mono ?_
                      rintro e w9 ⟨rfl, rfl⟩
                      go_wp2_with fail
                      go_ret
                      exact ⟨by rw [HNO.out, HRO.out]; rfl, HBF.out⟩
                    · have hyes : (used.take (k + 1)).all (withinB · s) = true := by
                        rw [hsn, List.all_append, hall]; simp [hwx]
                      rw [hwx] at WX
                      clear hmem hsn hall hwx
                      have HYES := Lib.hid hyes; clear hyes
                      go_wp2_with fail
                      refine WX.out.mono ?_
                      rintro e w9 ⟨rfl, rfl⟩
                      go_wp2_with fail
                      go_roundw
                      case rel => exact ⟨k + 1, by omega, by go_num, by first | rfl | trivial, HYES.out⟩
                      case measure => simp [intOf]; omega
                  · have hk' : k = used.length := by omega
                    subst hk'
                    rw [List.take_length] at hall
                    have HALL := Lib.hid hall; clear hall
                    go_wp2_with fail
                    go_ret
                    exact ⟨by rw [HALL.out, HRO.out]; rfl, HBF.out⟩
end Go.Proofs.Ytmmdppjbofbjhaa
namespace Go.Proofs.Ytmmdppjbofbjhaa
open Go.ChangeShapes Go.WideShapes Go.ChangeAt Go.RowKit

theorem four_cells {w : World} {q : Nat} {x0 x1 x2 x3 : Value} {t : TypeId} (h : w.heap[q]? = some (.cells #[x0, x1, x2, x3] t)) :
    (w.cell? ⟨q, 0, none⟩ = some x0 ∧ w.cell? ⟨q, 1, none⟩ = some x1 ∧ w.cell? ⟨q, 2, none⟩ = some x2 ∧ w.cell? ⟨q, 3, none⟩ = some x3) ∧ w.frozen? ⟨q, 0, none⟩ = false ∧ w.frozen? ⟨q, 1, none⟩ = false ∧ w.frozen? ⟨q, 2, none⟩ = false ∧ w.frozen? ⟨q, 3, none⟩ = false :=
  ⟨⟨(row_cell h 0).1, (row_cell h 1).1, (row_cell h 2).1, (row_cell h 3).1⟩, (row_cell h 0).2, (row_cell h 1).2, (row_cell h 2).2, (row_cell h 3).2⟩
set_option maxRecDepth 100000 in
set_option maxHeartbeats 3200000 in
theorem rreadCode_any (b : ByteArray) (w : World) (hb : b.size ≤ 1000000) :
    Calls Try.prog 39 #[.string b] w (RReadPost b w) := by
  by_cases h7 : b.size % 7 = 0
  case neg =>
    have h7' : ((b.size : Int) % 7 != 0) = true := by rw [bne_iff_ne]; omega
    have hok : readOk b = false := by
      unfold readOk
      rw [show (b.size % 7 == 0) = false from by simpa using h7, Bool.false_and]
    have hP : RReadPost b w (.returned (.tuple #[.slice none 0 0, .bool false])) w := ⟨_, by rw [hok], by unfold readL; rw [hok]; exact Own.nil _ _ _, Below.refl _ _⟩
    clear hok h7
    have HP := Lib.hid hP; clear hP
    go_enter Try.func39, Try.ntmps39
    go_wp2_with fail
    go_ret2
    exact HP.out
  have h7' : ((b.size : Int) % 7 != 0) = false := by rw [bne_eq_false_iff_eq]; omega
  go_enter Try.func39, Try.ntmps39
  go_wp2_with fail
  clear h7'
  go_loopw [4, 5] (fun v i wr => ∃ at_ k : Nat, at_ = 7 * k ∧ at_ ≤ b.size ∧ i = .int .i64 at_ ∧ Own insE wr w.heap.size v (rdAll b k) ∧ Below w.heap.size w wr ∧ (rdAll b k).all rightB = true) (fun _ i _ => b.size - (intOf i).toNat)
  case atStart => exact ⟨0, 0, rfl, Nat.zero_le _, rfl, Own.nil _ _ _, Below.refl _ _, rfl⟩
  case round =>
    obtain ⟨at_, k, hak, hle, rfl, hown, hB, hall⟩ := hrel
    by_cases hlt : at_ < b.size
    · have h7le : at_ + 7 ≤ b.size := by omega
      obtain ⟨hs4, hg4⟩ := ext4 b at_ h7le
      have hrw := rword_any (b.extract (at_ + 3) (at_ + 7)) hs4
      rw [hg4 0 (by omega), hg4 1 (by omega), hg4 2 (by omega), hg4 3 (by omega)] at hrw
      have l1 : at_ + 1 < b.size := by omega
      have l2 : at_ + 2 < b.size := by omega
      have g0 := gb_get b at_ hlt
      have g1 := gb_get b (at_ + 1) l1
      have g2 := gb_get b (at_ + 2) l2
      have hx : rdAt b at_ = ⟨gb b at_, gb b (at_ + 1), readV (gb b (at_ + 3 + 0)) (gb b (at_ + 3 + 1)) (gb b (at_ + 3 + 2)) (gb b (at_ + 3 + 3)), gb b (at_ + 2)⟩ := rfl
      generalize readV (gb b (at_ + 3 + 0)) (gb b (at_ + 3 + 1)) (gb b (at_ + 3 + 2)) (gb b (at_ + 3 + 3)) = xb at *
      have hbd0 := gb_bd b at_
      have hbd1 := gb_bd b (at_ + 1)
      have hbd2 := gb_bd b (at_ + 2)
      clear hg4 hs4
      have hrr := right_rd b at_
      rw [hx] at hrr
      have kn := fun w => rknown_any w (gb b at_)
      unfold RKnownSaid at kn
      have un : ∀ w, Calls Try.prog 89 #[.agg #[.int .i64 (gb b at_), .int .i64 (gb b (at_ + 1)), .int .i64 xb, .int .i64 (gb b (at_ + 2))]] w fun e w' => e = .returned (.bool (unusedB ⟨gb b at_, gb b (at_ + 1), xb, gb b (at_ + 2)⟩)) ∧ Below w.heap.size w w' := unused_any ⟨gb b at_, gb b (at_ + 1), xb, gb b (at_ + 2)⟩
      generalize gb b at_ = xop at *
      generalize gb b (at_ + 1) = xa at *
      generalize gb b (at_ + 2) = xc at *
      generalize unusedB ⟨xop, xa, xb, xc⟩ = ub at *
      generalize knownS xop = kb at *
      have hno : (kb && ub) = false → readOk b = false := fun h => readOk_no b k (by rw [← hak]; exact hlt) h7 (by rw [← hak, hx, hrr]; exact h)
      have HAK := Lib.hid hak; clear hak
      have HALL := Lib.hid hall; clear hall
      have HRW := Lib.hid hrw; clear hrw
      have KN := Lib.hid kn; clear kn
      have UN := Lib.hid un; clear un
      have HX := Lib.hid hx; clear hx
      have HRR := Lib.hid hrr; clear hrr
      have HNO := Lib.hid hno; clear hno
      have HOWN := Lib.hid hown; clear hown
      have HB := Lib.hid hB; clear hB
      have n1 : (0 : Int) ≤ (at_ : Int) + 1 := by omega
      have n2 : (0 : Int) ≤ (at_ : Int) + 2 := by omega
      have n3 : (0 : Int) ≤ (at_ : Int) + 3 := by omega
      have n7 : (0 : Int) ≤ (at_ : Int) + 7 := by omega
      have m0 : (at_ : Int) < b.size := by omega
      have m1 : (at_ : Int) + 1 < b.size := by omega
      have m2 : (at_ : Int) + 2 < b.size := by omega
      have m3 : (at_ : Int) + 3 ≤ (at_ : Int) + 7 := by omega
      have m7 : (at_ : Int) + 7 ≤ b.size := by omega
      have ix0 : IntKind.i64.wrap xop = xop := IntWalk.i64_in _ (by omega)
      have ix1 : IntKind.i64.wrap xa = xa := IntWalk.i64_in _ (by omega)
      have ix2 : IntKind.i64.wrap xc = xc := IntWalk.i64_in _ (by omega)
      have t1 : ((at_ : Int) + 1).toNat = at_ + 1 := by omega
      have t2 : ((at_ : Int) + 2).toNat = at_ + 2 := by omega
      have t3 : ((at_ : Int) + 3).toNat = at_ + 3 := by omega
      have t7 : ((at_ : Int) + 7).toNat = at_ + 7 := by omega
      have i1 : IntKind.i64.wrap ((at_ : Int) + 1) = (at_ : Int) + 1 := IntWalk.i64_in _ (by omega)
      have i2 : IntKind.i64.wrap ((at_ : Int) + 2) = (at_ : Int) + 2 := IntWalk.i64_in _ (by omega)
      have i3 : IntKind.i64.wrap ((at_ : Int) + 3) = (at_ : Int) + 3 := IntWalk.i64_in _ (by omega)
      have i7 : IntKind.i64.wrap ((at_ : Int) + 7) = (at_ : Int) + 7 := IntWalk.i64_in _ (by omega)
      go_upto_region 7 with fail
      go_cut [6] (fun o wx => ∃ y : Nat, o = .pointer (some ⟨y, 0, none⟩) ∧ wr.heap.size ≤ y ∧ (wx.cell? ⟨y, 0, none⟩ = some (.int .i64 xop) ∧ wx.cell? ⟨y, 1, none⟩ = some (.int .i64 xa) ∧ wx.cell? ⟨y, 2, none⟩ = some (.int .i64 xb) ∧ wx.cell? ⟨y, 3, none⟩ = some (.int .i64 xc)) ∧ Below wr.heap.size wr wx)
      case first =>
        refine wp_region_noPanic ?_
        refine wp_region_any (by kernel_rfl) ?_
        change wpAny _ _ _ _ _ _ _ (World.drew _)
        refine wpAny_take (i := 0) (v := ?_) rfl (by kernel_rfl) (by kernel_rfl) (by kernel_rfl) (fun _ _ _ h => h) (Or.inl ⟨by rfl, ?tk0⟩) ?_
        case tk0 => (intro w; go_simp; try with_reducible rfl)
        refine wpAny_take (i := 1) (v := ?_) rfl (by kernel_rfl) (by kernel_rfl) (by kernel_rfl) (fun _ _ _ h => h) (Or.inl ⟨by rfl, ?tk1⟩) ?_
        case tk1 => (intro w; go_simp; try with_reducible rfl)
        refine wpAny_take (i := 2) (v := ?_) rfl (by kernel_rfl) (by kernel_rfl) (by kernel_rfl) (fun _ _ _ h => h) (Or.inl ⟨by rfl, ?tk2⟩) ?_
        case tk2 => (intro w; go_simp; try with_reducible rfl)
        refine wpAny_take (i := 3) (v := ?_) rfl (by kernel_rfl) (by kernel_rfl) (by kernel_rfl) (fun _ _ _ h => h) (Or.inl ⟨by rfl, ?tk3⟩) ?_
        case tk3 => (intro w; go_simp; try with_reducible rfl)
        refine wpAny_take (i := 4) (v := ?_) rfl (by kernel_rfl) (by kernel_rfl) (by kernel_rfl) (fun _ _ _ h => h) (Or.inl ⟨by rfl, ?tk4⟩) ?_
        case tk4 => (intro w; go_simp; try with_reducible rfl)
        refine wpAny_take (i := 5) (v := ?_) rfl (by kernel_rfl) (by kernel_rfl) (by kernel_rfl) (fun _ _ _ h => h) (Or.inl ⟨by rfl, ?tk5⟩) ?_
        case tk5 => (intro w; go_simp; try with_reducible rfl)
        refine wpAny_take (i := 6) (v := ?_) rfl (by kernel_rfl) (by kernel_rfl) (by kernel_rfl) (fun _ _ _ h => h) (Or.inl ⟨by rfl, ?tk6⟩) ?_
        case tk6 => (intro w; go_simp; try with_reducible rfl)
        refine wpAny_take (i := 7) (v := ?_) rfl (by kernel_rfl) (by kernel_rfl) (by kernel_rfl) (fun _ _ _ h => h) (Or.inl ⟨by rfl, ?tk7⟩) ?_
        case tk7 => (intro w; go_simp; try with_reducible rfl)
        refine wpAny_take (i := 8) (v := ?_) rfl (by kernel_rfl) (by kernel_rfl) (by kernel_rfl) (fun _ _ _ h => h) (Or.inl ⟨by rfl, ?tk8⟩) ?_
        case tk8 => (intro w; go_simp; try with_reducible rfl)
        refine wpAny_take (i := 9) (v := ?_) rfl (by kernel_rfl) (by kernel_rfl) (by kernel_rfl) (fun _ _ _ h => h) (Or.inl ⟨by rfl, ?tk9⟩) ?_
        case tk9 => (intro w; go_simp; try with_reducible rfl)
        refine wpAny_take (i := 10) (v := ?_) rfl (by kernel_rfl) (by kernel_rfl) (by kernel_rfl) (fun _ _ _ h => h) (Or.inl ⟨by rfl, ?tk10⟩) ?_
        case tk10 => (intro w; go_simp; try with_reducible rfl)
        refine wpAny_take (i := 11) (v := ?_) rfl (by kernel_rfl) (by kernel_rfl) (by kernel_rfl) (fun _ _ _ h => h) (Or.inl ⟨by rfl, ?tk11⟩) ?_
        case tk11 => (intro w; go_simp; try with_reducible rfl)
        refine wpAny_take (i := 12) (v := ?_) rfl (by kernel_rfl) (by kernel_rfl) (by kernel_rfl) (fun _ _ _ h => h) (Or.inl ⟨by rfl, ?tk12⟩) ?_
        case tk12 => (intro w; go_simp; try with_reducible rfl)
        refine wpAny_take (i := 13) (v := ?_) rfl (by kernel_rfl) (by kernel_rfl) (by kernel_rfl) (fun _ _ _ h => h) (Or.inl ⟨by rfl, ?tk13⟩) ?_
        case tk13 => (intro w; go_simp; try with_reducible rfl)
        refine wpAny_take (i := 14) (v := ?_) rfl (by kernel_rfl) (by kernel_rfl) (by kernel_rfl) (fun _ _ _ h => h) (Or.inl ⟨by rfl, ?tk14⟩) ?_
        case tk14 => (intro w; go_simp; try with_reducible rfl)
        refine wpAny_take (i := 16) (v := ?_) rfl (by kernel_rfl) (by kernel_rfl) (by kernel_rfl) (fun _ _ _ h => h) (Or.inl ⟨by rfl, ?tk16⟩) ?_
        case tk16 => (intro w; go_simp; try with_reducible rfl)
        refine wpAny_take (i := 17) (v := ?_) rfl (by kernel_rfl) (by kernel_rfl) (by kernel_rfl) (fun _ _ _ h => h) (Or.inl ⟨by rfl, ?tk17⟩) ?_
        case tk17 => (intro w; go_simp; try with_reducible rfl)
        refine wpAny_take (i := 18) (v := ?_) rfl (by kernel_rfl) (by kernel_rfl) (by kernel_rfl) (fun _ _ _ h => h) (Or.inl ⟨by rfl, ?tk18⟩) ?_
        case tk18 => (intro w; go_simp; try with_reducible rfl)
        refine wpAny_take (i := 19) (v := ?_) rfl (by kernel_rfl) (by kernel_rfl) (by kernel_rfl) (fun _ _ _ h => h) (Or.inl ⟨by rfl, ?tk19⟩) ?_
        case tk19 => (intro w; go_simp; try with_reducible rfl)
        refine wpAny_take (i := 20) (v := ?_) rfl (by kernel_rfl) (by kernel_rfl) (by kernel_rfl) (fun _ _ _ h => h) (Or.inl ⟨by rfl, ?tk20⟩) ?_
        case tk20 => (intro w; go_simp; try with_reducible rfl)
        refine wpAny_ready (rs := [15, 22]) (by kernel_rfl) (by simp) ?_
        refine AllReady.cons rfl (fun K hK => ?_) (AllReady.cons rfl (fun K hK => ?_) AllReady.nil)
        · go_simp
          go_at_call 33
          refine (HRW.out _).mono ?_
          rintro e w4 ⟨rfl, hw4⟩
          have hb4 : Below wr.heap.size wr w4 := by
            obtain ⟨n, rfl⟩ := hw4
            exact below_drewN ((Below.refl _ _).drew) n
          clear hw4
          refine hK _ _ ?_
          clear hK K
          refine wpAny_take (i := 21) (v := ?_) rfl (by kernel_rfl) (by kernel_rfl) (by kernel_rfl) (fun _ _ _ h => h) (Or.inl ⟨by rfl, ?tk21a⟩) ?_
          case tk21a => (intro w; go_simp; try with_reducible rfl)
          refine wpAny_ready (rs := [22]) (by kernel_rfl) (by simp) ?_
          refine AllReady.cons rfl (fun K hK => ?_) AllReady.nil
          go_simp
          refine hK _ _ ?_
          clear hK K
          refine wpAny_ready (rs := [23]) (by kernel_rfl) (by simp) ?_
          refine AllReady.cons rfl (fun K hK => ?_) AllReady.nil
          go_simp
          refine hK _ _ ?_
          clear hK K
          refine wpAny_done (by kernel_rfl) ?_ _
          refine NoPanic.normal ?_
          go_wp2_with fail
          go_meet
          case rel => exact ⟨_, rfl, hb4.size, ⟨cell_new w4 _ _ (0, 0) 0, cell_new w4 _ _ (0, 0) 1, cell_new w4 _ _ (0, 0) 2, cell_new w4 _ _ (0, 0) 3⟩, hb4.alloc hb4.size _⟩
        · go_simp
          refine hK _ _ ?_
          clear hK K
          refine wpAny_ready (rs := [15]) (by kernel_rfl) (by simp) ?_
          refine AllReady.cons rfl (fun K hK => ?_) AllReady.nil
          go_simp
          go_at_call 33
          refine (HRW.out _).mono ?_
          rintro e w4 ⟨rfl, hw4⟩
          obtain ⟨y, hy⟩ : ∃ y, y = wr.heap.size := ⟨_, rfl⟩
          have hb4 : Below wr.heap.size wr w4 := by
            obtain ⟨n, rfl⟩ := hw4
            exact below_drewN (((Below.refl wr.heap.size wr).drew).alloc (Nat.le_refl _) _) n
          have hh : w4.heap[wr.heap.size]? = some (.cells #[.int .i64 0, .int .i64 0, .int .i64 0, .int .i64 0] 58) := by
            obtain ⟨n, rfl⟩ := hw4
            exact heap_new wr.drew _
          obtain ⟨⟨c0, c1, c2, c3⟩, f0, f1, f2, f3⟩ := four_cells hh
          have HH := Lib.hid hh
          clear hw4 hh
          refine hK _ _ ?_
          clear hK K
          refine wpAny_take (i := 21) (v := ?_) rfl (by kernel_rfl) (by kernel_rfl) (by kernel_rfl) (fun _ _ _ h => h) (Or.inl ⟨by rfl, ?tk21b⟩) ?_
          case tk21b => (intro w; go_simp; try with_reducible rfl)
          refine wpAny_ready (rs := [23]) (by kernel_rfl) (by simp) ?_
          refine AllReady.cons rfl (fun K hK => ?_) AllReady.nil
          go_simp
          refine hK _ _ ?_
          clear hK K
          refine wpAny_done (by kernel_rfl) ?_ _
          refine NoPanic.normal ?_
          go_wp2_with fail
          go_meet
          case rel =>
            have hn := row_set (row_set (row_set (row_set HH.out 0 (.int .i64 xop)) 1 (.int .i64 xa)) 2 (.int .i64 xb)) 3 (.int .i64 xc)
            have hfr : Fr (onB wr.heap.size) w4 _ := ((((Fr.refl (onB wr.heap.size) w4).setCell (p := ⟨wr.heap.size, 0, none⟩) (fun _ => rfl) (.int .i64 xop)).setCell (p := ⟨wr.heap.size, 1, none⟩) (fun _ => rfl) (.int .i64 xa)).setCell (p := ⟨wr.heap.size, 2, none⟩) (fun _ => rfl) (.int .i64 xb)).setCell (p := ⟨wr.heap.size, 3, none⟩) (fun _ => rfl) (.int .i64 xc)
            exact ⟨_, rfl, Nat.le_refl _, (four_cells hn).1, hb4.trans (hfr.below hb4.size (fun k hk => by unfold onB at hk; omega))⟩
      case rest =>
        obtain ⟨y, rfl, hy, ⟨q0, q1, q2, q3⟩, hb5⟩ := hcut
        have hB5 := HB.out.trans (hb5.mono HB.out.size)
        have hO5 : Own insE wc w.heap.size _ (rdAll b k) := Own.below HOWN.out hb5
        clear hb5 n1 n2 n3 n7 m0 m1 m2 m3 m7 t1 t2 t3 t7 i1 i2 i3 i7 g0 g1 g2
        cases kb
        · have hno2 := HNO.out rfl
          have hP : RReadPost b w (.returned (.tuple #[.slice none 0 0, .bool false])) wc := ⟨_, by rw [hno2], by unfold readL; rw [hno2]; exact Own.nil _ _ _, hB5⟩
          clear hno2 hB5 hO5
          have HP := Lib.hid hP; clear hP
          go_wp2_with fail
          refine (KN.out _).mono ?_; rintro e w6 ⟨rfl, rfl⟩
          go_wp2_with fail
          go_ret2
          exact HP.out
        · skip
          have HB5 := Lib.hid hB5; clear hB5
          have HO5 := Lib.hid hO5; clear hO5
          go_wp2_with fail
          refine (KN.out _).mono ?_; rintro e w6 ⟨rfl, rfl⟩
          go_wp2_with fail
          refine (UN.out _).mono ?_; rintro e w6 ⟨rfl, hb6⟩
          have hB6 := HB5.out.trans (hb6.mono HB5.out.size)
          cases ub
          · have hno2 := HNO.out rfl
            have hP : RReadPost b w (.returned (.tuple #[.slice none 0 0, .bool false])) w6 := ⟨_, by rw [hno2], by unfold readL; rw [hno2]; exact Own.nil _ _ _, hB6⟩
            clear hno2 hB6 hb6
            have HP := Lib.hid hP; clear hP
            go_wp2_with fail
            go_ret2
            exact HP.out
          · have q0 := below_cell hb6 q0
            have q1 := below_cell hb6 q1
            have q2 := below_cell hb6 q2
            have q3 := below_cell hb6 q3
            have ho6 := Own.below HO5.out hb6
            clear hb6
            have HB6 := Lib.hid hB6; clear hB6
            have HO6 := Lib.hid ho6; clear ho6
            go_wp2_with (at_builtin; refine append_own insE rfl (.tmp 48) (.tmp 50) rfl w.heap.size (rdAll b k) [⟨xop, xa, xb, xc⟩] _ rfl (HO6.out.alloc _) w6.heap.size 0 1 rfl (CellsAt.new _ _ _ _) ?c1 ?c2 ?_)
            case c1 => rw [rdAll_len]; have := HAK.out; simp; omega
            case c2 => have := HB6.out.size; simp; omega
            intro v3 w3 hown3 hg3
            have hB7 := below_grown (HB6.out.alloc HB6.out.size _) (HO6.out.alloc _) hg3 (by have := HB6.out.size; simp; omega) (Nat.le_refl _)
            clear hg3 q0 q1 q2 q3
            have HB7 := Lib.hid hB7; clear hB7
            have HOWN3 := Lib.hid hown3; clear hown3
            go_wp2_with fail
            go_roundw
            case rel =>
              refine ⟨at_ + 7, k + 1, by have := HAK.out; omega, h7le, by go_num, ?_, HB7.out, ?_⟩
              · have hsn : rdAll b (k + 1) = rdAll b k ++ [⟨xop, xa, xb, xc⟩] := by rw [rdAll_snoc, ← HAK.out, HX.out]
                rw [hsn]; exact HOWN3.out
              · rw [rdAll_snoc, List.all_append, HALL.out, ← HAK.out]; simp [HX.out, HRR.out]
            case measure => simp [intOf]; omega
    · have hk' : at_ = b.size := by omega
      have hkk : b.size / 7 = k := by omega
      have hok : readOk b = true := by
        unfold readOk
        rw [hkk, hall, h7]; rfl
      have hP : ∀ v, Own insE wr w.heap.size v (rdAll b k) → RReadPost b w (.returned (.tuple #[v, .bool true])) wr := fun v hv => ⟨v, by rw [hok], by unfold readL; rw [hok, if_pos rfl, hkk]; exact hv, hB⟩
      have HP := Lib.hid (hP _ hown)
      clear hok hkk hall hown hB hak hP
      go_wp2_with fail
      go_ret2
      exact HP.out
end Go.Proofs.Ytmmdppjbofbjhaa
namespace Go.Proofs.Ytmmdppjbofbjhaa
open Go.ChangeShapes Go.WideShapes Go.ChangeAt Go.RowKit Go.Maps

/-- the instruction at a place -/
def iAt (p : Prg) (fn pc : Int) : Option Ins := if 0 ≤ pc ∧ pc < (codeOf p fn).length then (codeOf p fn)[pc.toNat]? else none
theorem cF_at (p : Prg) (fn pc : Int) (h : i64B fn ∧ i64B pc) : cF fn (codeOf p fn) (codeOf p fn).length ⟨(fn, pc), h⟩ = iAt p fn pc := by
  unfold cF iAt
  simp
theorem zero_instr (w : World) : (zeroValue 58).run Try.prog w = .ok (insVal ⟨0, 0, 0, 0⟩) w := by
  kernel_rfl
theorem look_run {w : World} {b m : Nat} {f : Pl → Option Ins} (h : CodeMap w b m f) (x : Pl) :
    (Instr.lookup 153 (.map (some b)) (.agg #[.int .i64 x.1.1, .int .i64 x.1.2]) true).run Try.prog w = .ok (.tuple #[insVal ((f x).getD ⟨0, 0, 0, 0⟩), .bool (f x).isSome]) w := by
  have ht : Try.prog.underlying 153 = some (.map plK.k 58) := Try.underlying153
  have hl := MapIs.look h ht (zero_instr w) x trivial
  cases hf : f x with
  | none => exact (hl.2 hf).2
  | some i => exact (hl.1 i hf).2
/-- the error of an instruction at a place -/
def instrE (p : Prg) (fn pc : Int) : Int := match iAt p fn pc with | none => 1 | some i => instrS p ((p.funcs[fn.toNat]?).getD fun0) i
theorem instrE_none {p : Prg} {fn pc : Int} (h : iAt p fn pc = none) : instrE p fn pc = 1 := by unfold instrE; rw [h]
theorem instrE_some {p : Prg} {fn pc : Int} {i : Ins} (h : iAt p fn pc = some i) : instrE p fn pc = instrS p ((p.funcs[fn.toNat]?).getD fun0) i := by unfold instrE; rw [h]
set_option maxRecDepth 100000 in
set_option maxHeartbeats 3200000 in
theorem instrC_any (w : World) (D : Nat → Prop) (p : Prg) (c0 c1 c2 : Value) (fn pc : Int) (hD : ∀ k, D k → k < w.heap.size) (hv : PrgVal w D p c0 c1 c2) (hfn : i64B fn) (hpc : i64B pc) (hln : (codeOf p fn).length ≤ 3000) (hla : ∀ i, (calleeG p i).args.length ≤ 3000) (hsl : ∀ f ∈ p.funcs, f.slots < 9223372036854775808) :
    Calls Try.prog 70 #[.agg #[c0, c1, c2], .agg #[.int .i64 fn, .int .i64 pc]] w fun e w' => e = .returned (.int .i64 (instrE p fn pc)) ∧ Below w.heap.size w w' := by
  have hP : ∀ wr, Below w.heap.size w wr → PrgVal wr D p c0 c1 c2 := fun wr hb => hv.fr (Fr.of_below hb (fun _ => False)) (fun _ _ h => h)
  have cd := fun wr (hb : Below w.heap.size w wr) => code_any wr D p c0 c1 c2 fn (fun k hk => Nat.lt_of_lt_of_le (hD k hk) hb.size) (hP wr hb) hfn hln
  have hPP := hP
  obtain ⟨⟨a0, m0, rfl, _⟩, ⟨a1, m1, rfl, _⟩, a2, m2, rfl, _⟩ := hv
  have hbx := fun wr h => box2 w #[.slice a0 p.globals.length m0, .slice a1 p.shapes.length m1, .slice a2 p.funcs.length m2] #[.int .i64 fn, .int .i64 pc] 71 88 wr h
  have hz0 : ((w.alloc (.cells #[.slice a0 p.globals.length m0, .slice a1 p.shapes.length m1, .slice a2 p.funcs.length m2] 71)).alloc (.cells #[.int .i64 fn, .int .i64 pc] 88)).heap.size = w.heap.size + 2 := by simp
  obtain ⟨W, hW⟩ : ∃ W, W = (w.alloc (.cells #[.slice a0 p.globals.length m0, .slice a1 p.shapes.length m1, .slice a2 p.funcs.length m2] 71)).alloc (.cells #[.int .i64 fn, .int .i64 pc] 88) := ⟨_, rfl⟩
  rw [← hW] at hbx hz0
  have hs : ∀ wr, Below W.heap.size W wr → wr.cell? ⟨w.heap.size, 0, none⟩ = some (.slice a0 p.globals.length m0) ∧ wr.cell? ⟨w.heap.size, 1, none⟩ = some (.slice a1 p.shapes.length m1) ∧ wr.cell? ⟨w.heap.size, 2, none⟩ = some (.slice a2 p.funcs.length m2) ∧ wr.cell? ⟨w.heap.size + 1, 0, none⟩ = some (.int .i64 fn) ∧ wr.cell? ⟨w.heap.size + 1, 1, none⟩ = some (.int .i64 pc) := fun wr h => by
    rw [hz0] at h
    have hb := hbx wr h
    exact ⟨hb.1 0 _ rfl, hb.1 1 _ rfl, hb.1 2 _ rfl, hb.2.1 0 _ rfl, hb.2.1 1 _ rfl⟩
  have hbw : ∀ wr, Below W.heap.size W wr → Below w.heap.size w wr := fun wr h => by rw [hz0] at h; exact (hbx wr h).2.2.1
  have HW := Lib.hid hW
  clear hW hbx hP
  obtain ⟨i, hi⟩ : ∃ i, i = (iAt p fn pc).getD ⟨0, 0, 0, 0⟩ := ⟨_, rfl⟩
  obtain ⟨is, his⟩ : ∃ is, is = (iAt p fn pc).isSome := ⟨_, rfl⟩
  have lk := fun wr b m (h : CodeMap wr b m (cF fn (codeOf p fn) (codeOf p fn).length)) => look_run h ⟨(fn, pc), hfn, hpc⟩
  rw [cF_at, ← hi, ← his] at lk
  unfold insVal at lk
  obtain ⟨E, hE⟩ : ∃ E, E = instrE p fn pc := ⟨_, rfl⟩
  rw [← hE]
  have hE0 : is = false → E = 1 := fun h => by rw [hE]; exact instrE_none (by rw [h] at his; cases hx : iAt p fn pc with | none => rfl | some v => rw [hx] at his; cases his)
  have hE1 : is = true → E = instrS p ((p.funcs[fn.toNat]?).getD fun0) i := fun h => by
    rw [hE]
    cases hx : iAt p fn pc with
    | none => rw [hx] at his; rw [h] at his; cases his
    | some v => rw [hx] at hi; rw [hi]; exact instrE_some hx
  clear hE
  obtain ⟨xop, xa, xb, xc⟩ := i
  dsimp only at lk
  have hr0 : Below W.heap.size W W.drew := (Below.refl _ _).drew
  have HR0 := Lib.hid hr0
  clear hr0
  have CD := Lib.hid cd; clear cd
  have HS := Lib.hid hs; clear hs
  have HBW := Lib.hid hbw; clear hbw
  have HPP := Lib.hid hPP; clear hPP
  have LK := Lib.hid lk; clear lk
  have HI := Lib.hid hi; clear hi
  have HIS := Lib.hid his; clear his
  have HZ0 := Lib.hid hz0; clear hz0
  have HE0 := Lib.hid hE0; clear hE0
  have HE1 := Lib.hid hE1; clear hE1
  have HLA := Lib.hid hla; clear hla
  have HSL := Lib.hid hsl; clear hsl
  have HD := Lib.hid hD; clear hD
  go_enter Try.func70, Try.ntmps70
  go_upto_region 1 with fail
  rw [← HW.out]
  go_cut [5, 6] (fun s5 s6 wx => ∃ y : Nat, s5 = .pointer (some ⟨y, 0, none⟩) ∧ s6 = .bool is ∧ wx.heap[y]? = some (.cells #[.int .i64 xop, .int .i64 xa, .int .i64 xb, .int .i64 xc] 58) ∧ Below W.heap.size W wx)
  case first =>
    refine wp_region_noPanic ?_
    refine wp_region_held_drew (S := fun wr => wr.cell? ⟨w.heap.size, 0, none⟩ = some (.slice a0 p.globals.length m0) ∧ wr.cell? ⟨w.heap.size, 1, none⟩ = some (.slice a1 p.shapes.length m1) ∧ wr.cell? ⟨w.heap.size, 2, none⟩ = some (.slice a2 p.funcs.length m2) ∧ wr.cell? ⟨w.heap.size + 1, 0, none⟩ = some (.int .i64 fn) ∧ wr.cell? ⟨w.heap.size + 1, 1, none⟩ = some (.int .i64 pc)) (by kernel_rfl) (HS.out _ HR0.out) (fun _ => ?_)
    generalize W.drew = r0 at *
    refine wpAnyH_take (i := 0) (v := ?_) rfl (by kernel_rfl) (by kernel_rfl) (by kernel_rfl) (fun _ _ _ h => h) (Or.inl ⟨by rfl, ?tk0⟩) (HS.out _ HR0.out) ?_
    case tk0 => (rintro wq ⟨q0, q1, q2, q3, q4⟩; go_simp; try with_reducible rfl)
    refine wpAnyH_take (i := 1) (v := ?_) rfl (by kernel_rfl) (by kernel_rfl) (by kernel_rfl) (fun _ _ _ h => h) (Or.inl ⟨by rfl, ?tk1⟩) (HS.out _ HR0.out) ?_
    case tk1 => (rintro wq ⟨q0, q1, q2, q3, q4⟩; go_simp; try with_reducible rfl)
    refine wpAnyH_take (i := 2) (v := ?_) rfl (by kernel_rfl) (by kernel_rfl) (by kernel_rfl) (fun _ _ _ h => h) (Or.inl ⟨by rfl, ?tk2⟩) (HS.out _ HR0.out) ?_
    case tk2 => (rintro wq ⟨q0, q1, q2, q3, q4⟩; go_simp; try with_reducible rfl)
    refine wpAnyH_take (i := 4) (v := ?_) rfl (by kernel_rfl) (by kernel_rfl) (by kernel_rfl) (fun _ _ _ h => h) (Or.inl ⟨by rfl, ?tk4⟩) (HS.out _ HR0.out) ?_
    case tk4 => (rintro wq ⟨q0, q1, q2, q3, q4⟩; go_simp; try with_reducible rfl)
    refine wpAnyH_ready (rs := [3, 9]) (by kernel_rfl) (by simp) ?_
    refine (AllReadyH.cons rfl (fun K hK => ?_) (AllReadyH.cons rfl (fun K hK => ?_) AllReadyH.nil))
    · skip
      go_simp
      go_at_call 134
      refine (CD.out r0 (HBW.out r0 HR0.out)).mono ?_
      rintro e r1 ⟨b, m, rfl, hm, _, hb⟩
      have HR1 := Lib.hid (HR0.out.trans (hb.mono HR0.out.size))
      have HM := Lib.hid hm
      clear hm hb
      refine hK.out _ _ (HS.out _ HR1.out) (fun _ => ?_)
      clear hK K
      refine wpAnyH_ready (rs := [5, 9]) (by kernel_rfl) (by simp) ?_
      refine (AllReadyH.cons rfl (fun K hK => ?_) (AllReadyH.cons rfl (fun K hK => ?_) AllReadyH.nil))
      · skip
        have hl := LK.out r1 b m HM.out
        go_simp
        clear hl
        refine hK.out _ _ (HS.out _ HR1.out) (fun _ => ?_)
        clear hK K
        refine wpAnyH_take (i := 6) (v := ?_) rfl (by kernel_rfl) (by kernel_rfl) (by kernel_rfl) (fun _ _ _ h => h) (Or.inl ⟨by rfl, ?tq1⟩) (HS.out _ HR1.out) ?_
        case tq1 => (intro wq _; go_simp; try with_reducible rfl)
        refine wpAnyH_take (i := 7) (v := ?_) rfl (by kernel_rfl) (by kernel_rfl) (by kernel_rfl) (fun _ _ _ h => h) (Or.inl ⟨by rfl, ?tq2⟩) (HS.out _ HR1.out) ?_
        case tq2 => (intro wq _; go_simp; try with_reducible rfl)
        refine wpAnyH_take (i := 8) (v := ?_) rfl (by kernel_rfl) (by kernel_rfl) (by kernel_rfl) (fun _ _ _ h => h) (Or.inl ⟨by rfl, ?tq3⟩) (HS.out _ HR1.out) ?_
        case tq3 => (intro wq _; go_simp; try with_reducible rfl)
        refine wpAnyH_ready (rs := [9]) (by kernel_rfl) (by simp) ?_
        refine (AllReadyH.cons rfl (fun K hK => ?_) AllReadyH.nil)
        · skip
          go_simp
          obtain ⟨r2, hr⟩ : ∃ r, r = r1.alloc (.cells #[.int .i64 0, .int .i64 0, .int .i64 0, .int .i64 0] 58) := ⟨_, rfl⟩
          obtain ⟨y, hy⟩ : ∃ y, y = r1.heap.size := ⟨_, rfl⟩
          have hl : r2.heap[y]? = some (.cells #[.int .i64 0, .int .i64 0, .int .i64 0, .int .i64 0] 58) := by rw [hr, hy]; exact heap_new _ _
          have hb : Below r1.heap.size r1 r2 := by rw [hr]; exact (Below.refl _ _).alloc (Nat.le_refl _) _
          rw [← hr, ← hy]
          have hyW : W.heap.size ≤ y := by have := HR1.out.size; omega
          have HR2 := Lib.hid (HR1.out.trans (hb.mono HR1.out.size))
          have HM := Lib.hid (HM.out.below hb)
          have HY := Lib.hid hl
          clear hl hb hr hy
          refine hK.out _ _ (HS.out _ HR2.out) (fun _ => ?_)
          clear hK K
          refine wpAnyH_ready (rs := [10]) (by kernel_rfl) (by simp) ?_
          refine (AllReadyH.cons rfl (fun K hK => ?_) AllReadyH.nil)
          obtain ⟨⟨k0, k1, k2, k3⟩, f0, f1, f2, f3⟩ := four_cells HY.out
          go_simp
          clear k0 k1 k2 k3 f0 f1 f2 f3
          have hl := row_set (row_set (row_set (row_set HY.out 0 (.int .i64 xop)) 1 (.int .i64 xa)) 2 (.int .i64 xb)) 3 (.int .i64 xc)
          have hf : Fr (onB y) r2 _ := (((((Fr.refl (onB y) r2).setCell (p := ⟨y, 0, none⟩) (fun _ => rfl) (.int .i64 xop)).setCell (p := ⟨y, 1, none⟩) (fun _ => rfl) (.int .i64 xa)).setCell (p := ⟨y, 2, none⟩) (fun _ => rfl) (.int .i64 xb)).setCell (p := ⟨y, 3, none⟩) (fun _ => rfl) (.int .i64 xc))
          generalize (((r2.setCell ⟨y, 0, none⟩ (.int .i64 xop)).setCell ⟨y, 1, none⟩ (.int .i64 xa)).setCell ⟨y, 2, none⟩ (.int .i64 xb)).setCell ⟨y, 3, none⟩ (.int .i64 xc) = r3 at *
          have HR3 := Lib.hid (HR2.out.trans (hf.below HR2.out.size (fun k hk => by unfold onB at hk; omega)))
          have HY := Lib.hid hl
          clear hl hf
          refine hK.out _ _ (HS.out _ HR3.out) (fun _ => ?_)
          clear hK K
          refine wpAnyH_ready (rs := [11]) (by kernel_rfl) (by simp) ?_
          refine (AllReadyH.cons rfl (fun K hK => ?_) AllReadyH.nil)
          go_simp
          refine hK.out _ _ (HS.out _ HR3.out) (fun _ => ?_)
          clear hK K
          refine wpAnyH_done (by kernel_rfl) ?_ _
          refine NoPanic.normal ?_
          go_wp2_with fail
          go_meet
          case rel => exact ⟨y, rfl, rfl, HY.out, HR3.out⟩
      · skip
        go_simp
        obtain ⟨r2, hr⟩ : ∃ r, r = r1.alloc (.cells #[.int .i64 0, .int .i64 0, .int .i64 0, .int .i64 0] 58) := ⟨_, rfl⟩
        obtain ⟨y, hy⟩ : ∃ y, y = r1.heap.size := ⟨_, rfl⟩
        have hl : r2.heap[y]? = some (.cells #[.int .i64 0, .int .i64 0, .int .i64 0, .int .i64 0] 58) := by rw [hr, hy]; exact heap_new _ _
        have hb : Below r1.heap.size r1 r2 := by rw [hr]; exact (Below.refl _ _).alloc (Nat.le_refl _) _
        rw [← hr, ← hy]
        have hyW : W.heap.size ≤ y := by have := HR1.out.size; omega
        have HR2 := Lib.hid (HR1.out.trans (hb.mono HR1.out.size))
        have HM := Lib.hid (HM.out.below hb)
        have HY := Lib.hid hl
        clear hl hb hr hy
        refine hK.out _ _ (HS.out _ HR2.out) (fun _ => ?_)
        clear hK K
        refine wpAnyH_ready (rs := [5]) (by kernel_rfl) (by simp) ?_
        refine (AllReadyH.cons rfl (fun K hK => ?_) AllReadyH.nil)
        · skip
          have hl := LK.out r2 b m HM.out
          go_simp
          clear hl
          refine hK.out _ _ (HS.out _ HR2.out) (fun _ => ?_)
          clear hK K
          refine wpAnyH_take (i := 6) (v := ?_) rfl (by kernel_rfl) (by kernel_rfl) (by kernel_rfl) (fun _ _ _ h => h) (Or.inl ⟨by rfl, ?tq4⟩) (HS.out _ HR2.out) ?_
          case tq4 => (intro wq _; go_simp; try with_reducible rfl)
          refine wpAnyH_take (i := 7) (v := ?_) rfl (by kernel_rfl) (by kernel_rfl) (by kernel_rfl) (fun _ _ _ h => h) (Or.inl ⟨by rfl, ?tq5⟩) (HS.out _ HR2.out) ?_
          case tq5 => (intro wq _; go_simp; try with_reducible rfl)
          refine wpAnyH_take (i := 8) (v := ?_) rfl (by kernel_rfl) (by kernel_rfl) (by kernel_rfl) (fun _ _ _ h => h) (Or.inl ⟨by rfl, ?tq6⟩) (HS.out _ HR2.out) ?_
          case tq6 => (intro wq _; go_simp; try with_reducible rfl)
          refine wpAnyH_ready (rs := [10]) (by kernel_rfl) (by simp) ?_
          refine (AllReadyH.cons rfl (fun K hK => ?_) AllReadyH.nil)
          obtain ⟨⟨k0, k1, k2, k3⟩, f0, f1, f2, f3⟩ := four_cells HY.out
          go_simp
          clear k0 k1 k2 k3 f0 f1 f2 f3
          have hl := row_set (row_set (row_set (row_set HY.out 0 (.int .i64 xop)) 1 (.int .i64 xa)) 2 (.int .i64 xb)) 3 (.int .i64 xc)
          have hf : Fr (onB y) r2 _ := (((((Fr.refl (onB y) r2).setCell (p := ⟨y, 0, none⟩) (fun _ => rfl) (.int .i64 xop)).setCell (p := ⟨y, 1, none⟩) (fun _ => rfl) (.int .i64 xa)).setCell (p := ⟨y, 2, none⟩) (fun _ => rfl) (.int .i64 xb)).setCell (p := ⟨y, 3, none⟩) (fun _ => rfl) (.int .i64 xc))
          generalize (((r2.setCell ⟨y, 0, none⟩ (.int .i64 xop)).setCell ⟨y, 1, none⟩ (.int .i64 xa)).setCell ⟨y, 2, none⟩ (.int .i64 xb)).setCell ⟨y, 3, none⟩ (.int .i64 xc) = r3 at *
          have HR3 := Lib.hid (HR2.out.trans (hf.below HR2.out.size (fun k hk => by unfold onB at hk; omega)))
          have HY := Lib.hid hl
          clear hl hf
          refine hK.out _ _ (HS.out _ HR3.out) (fun _ => ?_)
          clear hK K
          refine wpAnyH_ready (rs := [11]) (by kernel_rfl) (by simp) ?_
          refine (AllReadyH.cons rfl (fun K hK => ?_) AllReadyH.nil)
          go_simp
          refine hK.out _ _ (HS.out _ HR3.out) (fun _ => ?_)
          clear hK K
          refine wpAnyH_done (by kernel_rfl) ?_ _
          refine NoPanic.normal ?_
          go_wp2_with fail
          go_meet
          case rel => exact ⟨y, rfl, rfl, HY.out, HR3.out⟩
    · skip
      go_simp
      obtain ⟨r1, hr⟩ : ∃ r, r = r0.alloc (.cells #[.int .i64 0, .int .i64 0, .int .i64 0, .int .i64 0] 58) := ⟨_, rfl⟩
      obtain ⟨y, hy⟩ : ∃ y, y = r0.heap.size := ⟨_, rfl⟩
      have hl : r1.heap[y]? = some (.cells #[.int .i64 0, .int .i64 0, .int .i64 0, .int .i64 0] 58) := by rw [hr, hy]; exact heap_new _ _
      have hb : Below r0.heap.size r0 r1 := by rw [hr]; exact (Below.refl _ _).alloc (Nat.le_refl _) _
      rw [← hr, ← hy]
      have hyW : W.heap.size ≤ y := by have := HR0.out.size; omega
      have HR1 := Lib.hid (HR0.out.trans (hb.mono HR0.out.size))
      have HY := Lib.hid hl
      clear hl hb hr hy
      refine hK.out _ _ (HS.out _ HR1.out) (fun _ => ?_)
      clear hK K
      refine wpAnyH_ready (rs := [3]) (by kernel_rfl) (by simp) ?_
      refine (AllReadyH.cons rfl (fun K hK => ?_) AllReadyH.nil)
      · skip
        go_simp
        go_at_call 134
        refine (CD.out r1 (HBW.out r1 HR1.out)).mono ?_
        rintro e r2 ⟨b, m, rfl, hm, _, hb⟩
        have HR2 := Lib.hid (HR1.out.trans (hb.mono HR1.out.size))
        have HM := Lib.hid hm
        have HY := Lib.hid ((Fr.of_below hb (fun _ => False)).heap HY.out (fun h => h))
        clear hm hb
        refine hK.out _ _ (HS.out _ HR2.out) (fun _ => ?_)
        clear hK K
        refine wpAnyH_ready (rs := [5]) (by kernel_rfl) (by simp) ?_
        refine (AllReadyH.cons rfl (fun K hK => ?_) AllReadyH.nil)
        · skip
          have hl := LK.out r2 b m HM.out
          go_simp
          clear hl
          refine hK.out _ _ (HS.out _ HR2.out) (fun _ => ?_)
          clear hK K
          refine wpAnyH_take (i := 6) (v := ?_) rfl (by kernel_rfl) (by kernel_rfl) (by kernel_rfl) (fun _ _ _ h => h) (Or.inl ⟨by rfl, ?tq7⟩) (HS.out _ HR2.out) ?_
          case tq7 => (intro wq _; go_simp; try with_reducible rfl)
          refine wpAnyH_take (i := 7) (v := ?_) rfl (by kernel_rfl) (by kernel_rfl) (by kernel_rfl) (fun _ _ _ h => h) (Or.inl ⟨by rfl, ?tq8⟩) (HS.out _ HR2.out) ?_
          case tq8 => (intro wq _; go_simp; try with_reducible rfl)
          refine wpAnyH_take (i := 8) (v := ?_) rfl (by kernel_rfl) (by kernel_rfl) (by kernel_rfl) (fun _ _ _ h => h) (Or.inl ⟨by rfl, ?tq9⟩) (HS.out _ HR2.out) ?_
          case tq9 => (intro wq _; go_simp; try with_reducible rfl)
          refine wpAnyH_ready (rs := [10]) (by kernel_rfl) (by simp) ?_
          refine (AllReadyH.cons rfl (fun K hK => ?_) AllReadyH.nil)
          obtain ⟨⟨k0, k1, k2, k3⟩, f0, f1, f2, f3⟩ := four_cells HY.out
          go_simp
          clear k0 k1 k2 k3 f0 f1 f2 f3
          have hl := row_set (row_set (row_set (row_set HY.out 0 (.int .i64 xop)) 1 (.int .i64 xa)) 2 (.int .i64 xb)) 3 (.int .i64 xc)
          have hf : Fr (onB y) r2 _ := (((((Fr.refl (onB y) r2).setCell (p := ⟨y, 0, none⟩) (fun _ => rfl) (.int .i64 xop)).setCell (p := ⟨y, 1, none⟩) (fun _ => rfl) (.int .i64 xa)).setCell (p := ⟨y, 2, none⟩) (fun _ => rfl) (.int .i64 xb)).setCell (p := ⟨y, 3, none⟩) (fun _ => rfl) (.int .i64 xc))
          generalize (((r2.setCell ⟨y, 0, none⟩ (.int .i64 xop)).setCell ⟨y, 1, none⟩ (.int .i64 xa)).setCell ⟨y, 2, none⟩ (.int .i64 xb)).setCell ⟨y, 3, none⟩ (.int .i64 xc) = r3 at *
          have HR3 := Lib.hid (HR2.out.trans (hf.below HR2.out.size (fun k hk => by unfold onB at hk; omega)))
          have HY := Lib.hid hl
          clear hl hf
          refine hK.out _ _ (HS.out _ HR3.out) (fun _ => ?_)
          clear hK K
          refine wpAnyH_ready (rs := [11]) (by kernel_rfl) (by simp) ?_
          refine (AllReadyH.cons rfl (fun K hK => ?_) AllReadyH.nil)
          go_simp
          refine hK.out _ _ (HS.out _ HR3.out) (fun _ => ?_)
          clear hK K
          refine wpAnyH_done (by kernel_rfl) ?_ _
          refine NoPanic.normal ?_
          go_wp2_with fail
          go_meet
          case rel => exact ⟨y, rfl, rfl, HY.out, HR3.out⟩
  case rest =>
    obtain ⟨y, rfl, rfl, hY, hR⟩ := hcut
    cases is
    · have e := HE0.out rfl
      subst e
      have hbr := HBW.out wc hR
      clear hY hR
      have HBR := Lib.hid hbr; clear hbr
      go_wp2_with fail
      go_ret
      exact ⟨rfl, HBR.out⟩
    · have hin : withinB fn p.funcs.length = true := by
        cases hw : withinB fn p.funcs.length
        · have h0 := HIS.out
          unfold iAt codeOf at h0
          rw [hw] at h0
          simp at h0
        · rfl
      obtain ⟨j, rfl, hj⟩ : ∃ j : Nat, fn = j ∧ j < p.funcs.length := by
        simp [withinB] at hin
        exact ⟨fn.toNat, by omega, by omega⟩
      obtain ⟨_, _, _, _, e1, hfs⟩ := HPP.out wc (HBW.out wc hR)
      injection e1 with e1 e2 e3
      clear e2 e3
      rw [← e1] at hfs
      clear e1
      obtain ⟨bb, o, rfl, _, y0, y1, y2, y3, y4, g0, g1, g2, g3, g4, hfv⟩ := hfs j hj
      obtain ⟨rfl, rfl, ⟨e0, e1, rfl, _⟩, ⟨e2, e3, rfl, _⟩, e4, e5, rfl, _⟩ := hfv
      have hE2 := HE1.out rfl
      rw [show (p.funcs[((j : Int)).toNat]?).getD fun0 = p.funcs[j] from by simp [hj]] at hE2
      have hfs2 := HSL.out p.funcs[j] (List.getElem_mem hj)
      generalize p.funcs[j] = f at *
      have HE2 := Lib.hid hE2
      clear hE2
      obtain ⟨k0, k1, k2, k3, k4⟩ := HS.out wc hR
      obtain ⟨⟨q0, q1, q2, q3⟩, _⟩ := four_cells hY
      have hj1 : (j : Int) < p.funcs.length := by omega
      have b0 := World.block_lt k0
      have b3 := World.block_lt k3
      have bg := World.block_lt g0
      have bq := World.block_lt q0
      dsimp only at b0 b3 bg bq
      have HY := Lib.hid hY; clear hY
      have HR := Lib.hid hR; clear hR
      go_upto_region 4 with fail
      go_cut [7] (fun s wx => ∃ z : Nat, s = .pointer (some ⟨z, 0, none⟩) ∧ wx.heap[z]? = some (.cells #[.slice a0 p.globals.length m0, .slice a1 p.shapes.length m1, .slice (some ⟨bb, o, none⟩) p.funcs.length m2, .slice e0 f.args.length e1, .int .i64 f.result, .int .i64 f.slots, .slice e2 f.objects.length e3, .slice e4 f.code.length e5, .int .i64 xop, .int .i64 xa, .int .i64 xb, .int .i64 xc, .int .i64 (j : Int), .int .i64 pc] 156) ∧ Below W.heap.size W wx)
      case first =>
        go_region
        all_goals
          go_wp2_with fail
          go_meet
          case rel => exact ⟨_, rfl, heap_new _ _, (HR.out.drew).alloc (HR.out.size) _⟩
      case rest =>
        obtain ⟨z, rfl, hz, hRz⟩ := hcut
        clear k0 k1 k2 k3 k4 q0 q1 q2 q3 g0 g1 g2 g3 g4
        have fo := fun W' (h : Below W.heap.size W W') => form_any W' D (fun k hk => Nat.lt_of_lt_of_le (HD.out k hk) (HBW.out W' h).size) p (.slice a0 p.globals.length m0) (.slice a1 p.shapes.length m1) (.slice (some ⟨bb, o, none⟩) p.funcs.length m2) (.slice e0 f.args.length e1) (.slice e2 f.objects.length e3) (.slice e4 f.code.length e5) f.result f.slots ⟨xop, xa, xb, xc⟩ j pc (HPP.out W' (HBW.out W' h)) rfl rfl rfl
        have th := fun W' (h : Below W.heap.size W W') => things_any W' D (fun k hk => Nat.lt_of_lt_of_le (HD.out k hk) (HBW.out W' h).size) p f (.slice a0 p.globals.length m0) (.slice a1 p.shapes.length m1) (.slice (some ⟨bb, o, none⟩) p.funcs.length m2) (.slice e0 f.args.length e1) e2 e4 e3 e5 f.result f.slots ⟨xop, xa, xb, xc⟩ j pc (HPP.out W' (HBW.out W' h))
        have sl := fun W' (h : Below W.heap.size W W') => slots_any W' D (fun k hk => Nat.lt_of_lt_of_le (HD.out k hk) (HBW.out W' h).size) p (.slice a0 p.globals.length m0) (.slice a1 p.shapes.length m1) (.slice (some ⟨bb, o, none⟩) p.funcs.length m2) (.slice e0 f.args.length e1) (.slice e2 f.objects.length e3) (.slice e4 f.code.length e5) f.result f.slots ⟨xop, xa, xb, xc⟩ j pc (HPP.out W' (HBW.out W' h)) rfl rfl rfl hfs2 (HLA.out _)
        have ki := fun W' (h : Below W.heap.size W W') => kindsL_any W' D (fun k hk => Nat.lt_of_lt_of_le (HD.out k hk) (HBW.out W' h).size) p (.slice a0 p.globals.length m0) (.slice a1 p.shapes.length m1) (.slice (some ⟨bb, o, none⟩) p.funcs.length m2) (.slice e0 f.args.length e1) (.slice e2 f.objects.length e3) (.slice e4 f.code.length e5) f.result f.slots ⟨xop, xa, xb, xc⟩ j pc (HPP.out W' (HBW.out W' h)) (HLA.out _)
        have hfb : ∀ q, formB p f ⟨xop, xa, xb, xc⟩ = q → q = formB p f ⟨xop, xa, xb, xc⟩ := fun q h => h.symm
        have fo : ∀ W', Below W.heap.size W W' → Calls Try.prog 135 _ W' fun e w' => e = .returned (.bool (formB p f ⟨xop, xa, xb, xc⟩)) ∧ Below W'.heap.size W' w' := fun W' h => by
          have := fo W' h
          rw [quiet_eq p f] at this
          exact this
        rw [slots_eq] at sl
        rw [kinds_eq] at ki
        have hE3 := HE2.out
        unfold instrS at hE3
        clear hfb
        generalize formB p f ⟨xop, xa, xb, xc⟩ = fb at *
        generalize thingsB p f ⟨xop, xa, xb, xc⟩ = tb at *
        generalize slotsB p f ⟨xop, xa, xb, xc⟩ = sb at *
        generalize kindsB p ⟨xop, xa, xb, xc⟩ = kb at *
        unfold lookC at fo th sl ki
        have hz0' := hz
        have FO := Lib.hid fo; clear fo
        have TH := Lib.hid th; clear th
        have SL := Lib.hid sl; clear sl
        have KI := Lib.hid ki; clear ki
        have HE3 := Lib.hid hE3; clear hE3
        have HZ0' := Lib.hid hz0'; clear hz0'
        have HRZ := Lib.hid hRz
        clear hRz
        have p0 : wc.cell? ⟨z, 0, none⟩ = some _ := (row_cell hz 0).1
        have p1 : wc.cell? ⟨z, 1, none⟩ = some _ := (row_cell hz 1).1
        have p2 : wc.cell? ⟨z, 2, none⟩ = some _ := (row_cell hz 2).1
        have p3 : wc.cell? ⟨z, 3, none⟩ = some _ := (row_cell hz 3).1
        have p4 : wc.cell? ⟨z, 4, none⟩ = some _ := (row_cell hz 4).1
        have p5 : wc.cell? ⟨z, 5, none⟩ = some _ := (row_cell hz 5).1
        have p6 : wc.cell? ⟨z, 6, none⟩ = some _ := (row_cell hz 6).1
        have p7 : wc.cell? ⟨z, 7, none⟩ = some _ := (row_cell hz 7).1
        have p8 : wc.cell? ⟨z, 8, none⟩ = some _ := (row_cell hz 8).1
        have p9 : wc.cell? ⟨z, 9, none⟩ = some _ := (row_cell hz 9).1
        have p10 : wc.cell? ⟨z, 10, none⟩ = some _ := (row_cell hz 10).1
        have p11 : wc.cell? ⟨z, 11, none⟩ = some _ := (row_cell hz 11).1
        have p12 : wc.cell? ⟨z, 12, none⟩ = some _ := (row_cell hz 12).1
        have p13 : wc.cell? ⟨z, 13, none⟩ = some _ := (row_cell hz 13).1
        clear hz
        go_wp2_with fail
        refine (FO.out wc HRZ.out).mono ?_
        rintro e v1 ⟨rfl, hb1⟩
        have hr1 := HRZ.out.trans (hb1.mono HRZ.out.size)
        have hz1 := (Fr.of_below hb1 (fun _ => False)).heap HZ0'.out (fun h => h)
        clear hb1
        clear p0 p1 p2 p3 p4 p5 p6 p7 p8 p9 p10 p11 p12 p13
        have p0 : v1.cell? ⟨z, 0, none⟩ = some _ := (row_cell hz1 0).1
        have p1 : v1.cell? ⟨z, 1, none⟩ = some _ := (row_cell hz1 1).1
        have p2 : v1.cell? ⟨z, 2, none⟩ = some _ := (row_cell hz1 2).1
        have p3 : v1.cell? ⟨z, 3, none⟩ = some _ := (row_cell hz1 3).1
        have p4 : v1.cell? ⟨z, 4, none⟩ = some _ := (row_cell hz1 4).1
        have p5 : v1.cell? ⟨z, 5, none⟩ = some _ := (row_cell hz1 5).1
        have p6 : v1.cell? ⟨z, 6, none⟩ = some _ := (row_cell hz1 6).1
        have p7 : v1.cell? ⟨z, 7, none⟩ = some _ := (row_cell hz1 7).1
        have p8 : v1.cell? ⟨z, 8, none⟩ = some _ := (row_cell hz1 8).1
        have p9 : v1.cell? ⟨z, 9, none⟩ = some _ := (row_cell hz1 9).1
        have p10 : v1.cell? ⟨z, 10, none⟩ = some _ := (row_cell hz1 10).1
        have p11 : v1.cell? ⟨z, 11, none⟩ = some _ := (row_cell hz1 11).1
        have p12 : v1.cell? ⟨z, 12, none⟩ = some _ := (row_cell hz1 12).1
        have p13 : v1.cell? ⟨z, 13, none⟩ = some _ := (row_cell hz1 13).1
        have HZ1 := Lib.hid hz1
        have HR1 := Lib.hid hr1
        have HB1 := Lib.hid (HBW.out v1 hr1)
        clear hz1 hr1
        cases fb
        · have e := HE3.out
          simp at e
          subst e
          go_wp2_with fail
          go_ret
          exact ⟨rfl, HB1.out⟩
        · skip
          go_wp2_with fail
          refine (TH.out v1 HR1.out).mono ?_
          rintro e v2 ⟨rfl, hb⟩
          have hr := HR1.out.trans (hb.mono HR1.out.size)
          have hz := (Fr.of_below hb (fun _ => False)).heap HZ1.out (fun h => h)
          clear hb
          clear p0 p1 p2 p3 p4 p5 p6 p7 p8 p9 p10 p11 p12 p13
          have p0 : v2.cell? ⟨z, 0, none⟩ = some _ := (row_cell hz 0).1
          have p1 : v2.cell? ⟨z, 1, none⟩ = some _ := (row_cell hz 1).1
          have p2 : v2.cell? ⟨z, 2, none⟩ = some _ := (row_cell hz 2).1
          have p3 : v2.cell? ⟨z, 3, none⟩ = some _ := (row_cell hz 3).1
          have p4 : v2.cell? ⟨z, 4, none⟩ = some _ := (row_cell hz 4).1
          have p5 : v2.cell? ⟨z, 5, none⟩ = some _ := (row_cell hz 5).1
          have p6 : v2.cell? ⟨z, 6, none⟩ = some _ := (row_cell hz 6).1
          have p7 : v2.cell? ⟨z, 7, none⟩ = some _ := (row_cell hz 7).1
          have p8 : v2.cell? ⟨z, 8, none⟩ = some _ := (row_cell hz 8).1
          have p9 : v2.cell? ⟨z, 9, none⟩ = some _ := (row_cell hz 9).1
          have p10 : v2.cell? ⟨z, 10, none⟩ = some _ := (row_cell hz 10).1
          have p11 : v2.cell? ⟨z, 11, none⟩ = some _ := (row_cell hz 11).1
          have p12 : v2.cell? ⟨z, 12, none⟩ = some _ := (row_cell hz 12).1
          have p13 : v2.cell? ⟨z, 13, none⟩ = some _ := (row_cell hz 13).1
          have HZ2 := Lib.hid hz
          have HR2 := Lib.hid hr
          have HB2 := Lib.hid (HBW.out v2 hr)
          clear hz hr
          cases tb
          · have e := HE3.out
            simp at e
            subst e
            go_wp2_with fail
            go_ret
            exact ⟨rfl, HB2.out⟩
          · skip
            go_wp2_with fail
            refine (SL.out v2 HR2.out).mono ?_
            rintro e v3 ⟨rfl, hb⟩
            have hr := HR2.out.trans (hb.mono HR2.out.size)
            have hz := (Fr.of_below hb (fun _ => False)).heap HZ2.out (fun h => h)
            clear hb
            clear p0 p1 p2 p3 p4 p5 p6 p7 p8 p9 p10 p11 p12 p13
            have p0 : v3.cell? ⟨z, 0, none⟩ = some _ := (row_cell hz 0).1
            have p1 : v3.cell? ⟨z, 1, none⟩ = some _ := (row_cell hz 1).1
            have p2 : v3.cell? ⟨z, 2, none⟩ = some _ := (row_cell hz 2).1
            have p3 : v3.cell? ⟨z, 3, none⟩ = some _ := (row_cell hz 3).1
            have p4 : v3.cell? ⟨z, 4, none⟩ = some _ := (row_cell hz 4).1
            have p5 : v3.cell? ⟨z, 5, none⟩ = some _ := (row_cell hz 5).1
            have p6 : v3.cell? ⟨z, 6, none⟩ = some _ := (row_cell hz 6).1
            have p7 : v3.cell? ⟨z, 7, none⟩ = some _ := (row_cell hz 7).1
            have p8 : v3.cell? ⟨z, 8, none⟩ = some _ := (row_cell hz 8).1
            have p9 : v3.cell? ⟨z, 9, none⟩ = some _ := (row_cell hz 9).1
            have p10 : v3.cell? ⟨z, 10, none⟩ = some _ := (row_cell hz 10).1
            have p11 : v3.cell? ⟨z, 11, none⟩ = some _ := (row_cell hz 11).1
            have p12 : v3.cell? ⟨z, 12, none⟩ = some _ := (row_cell hz 12).1
            have p13 : v3.cell? ⟨z, 13, none⟩ = some _ := (row_cell hz 13).1
            have HZ3 := Lib.hid hz
            have HR3 := Lib.hid hr
            have HB3 := Lib.hid (HBW.out v3 hr)
            clear hz hr
            cases sb
            · have e := HE3.out
              simp at e
              subst e
              go_wp2_with fail
              go_ret
              exact ⟨rfl, HB3.out⟩
            · skip
              go_wp2_with fail
              refine (KI.out v3 HR3.out).mono ?_
              rintro e v4 ⟨rfl, hb⟩
              have hr := HR3.out.trans (hb.mono HR3.out.size)
              have hz := (Fr.of_below hb (fun _ => False)).heap HZ3.out (fun h => h)
              clear hb
              clear p0 p1 p2 p3 p4 p5 p6 p7 p8 p9 p10 p11 p12 p13
              have p0 : v4.cell? ⟨z, 0, none⟩ = some _ := (row_cell hz 0).1
              have p1 : v4.cell? ⟨z, 1, none⟩ = some _ := (row_cell hz 1).1
              have p2 : v4.cell? ⟨z, 2, none⟩ = some _ := (row_cell hz 2).1
              have p3 : v4.cell? ⟨z, 3, none⟩ = some _ := (row_cell hz 3).1
              have p4 : v4.cell? ⟨z, 4, none⟩ = some _ := (row_cell hz 4).1
              have p5 : v4.cell? ⟨z, 5, none⟩ = some _ := (row_cell hz 5).1
              have p6 : v4.cell? ⟨z, 6, none⟩ = some _ := (row_cell hz 6).1
              have p7 : v4.cell? ⟨z, 7, none⟩ = some _ := (row_cell hz 7).1
              have p8 : v4.cell? ⟨z, 8, none⟩ = some _ := (row_cell hz 8).1
              have p9 : v4.cell? ⟨z, 9, none⟩ = some _ := (row_cell hz 9).1
              have p10 : v4.cell? ⟨z, 10, none⟩ = some _ := (row_cell hz 10).1
              have p11 : v4.cell? ⟨z, 11, none⟩ = some _ := (row_cell hz 11).1
              have p12 : v4.cell? ⟨z, 12, none⟩ = some _ := (row_cell hz 12).1
              have p13 : v4.cell? ⟨z, 13, none⟩ = some _ := (row_cell hz 13).1
              have HZ4 := Lib.hid hz
              have HR4 := Lib.hid hr
              have HB4 := Lib.hid (HBW.out v4 hr)
              clear hz hr
              cases kb
              · have e := HE3.out
                simp at e
                subst e
                go_wp2_with fail
                go_ret
                exact ⟨rfl, HB4.out⟩
              · have e := HE3.out
                simp at e
                subst e
                go_wp2_with fail
                go_ret
                exact ⟨rfl, HB4.out⟩
end Go.Proofs.Ytmmdppjbofbjhaa
