import Derived.Test.YtjcjhfnjamphlaaGreatZBl
import Derived.Test.YtjcjhfnjamphlaaGreatZAa
import Derived.ProofKit
set_option linter.unusedVariables false
set_option linter.unusedSimpArgs false
namespace Go.Proofs.YtjcjhfnjamphlaaGreat
open Go.ChangeShapes Go.WideShapes Go.ChangeAt Go.RowKit Go.Maps
def wF0 (w : World) : World := w.alloc (.cells #[.int .i64 1] 3)
def wF1 (w : World) : World := (wF0 w).alloc (.cells #[.slice (some ⟨w.heap.size, 0, none⟩) 1 1] 55)
def wF2 (w : World) : World := (wF1 w).alloc (.cells #[.int .i64 1, .int .i64 0, .int .i64 1, .int .i64 0, .int .i64 10, .int .i64 0, .int .i64 3, .int .i64 0, .int .i64 11, .int .i64 0, .int .i64 0, .int .i64 0, .int .i64 27, .int .i64 0, .int .i64 0, .int .i64 0] 60)
def wF3 (w : World) : World := (wF2 w).alloc (.cells #[.slice none 0 0, .int .i64 0, .int .i64 1, .slice none 0 0, .slice (some ⟨w.heap.size + 2, 0, none⟩) 4 4] 58)
def wF (w : World) : World := (wF3 w).alloc (.cells #[.slice none 0 0, .slice (some ⟨w.heap.size + 1, 0, none⟩) 1 1, .slice (some ⟨w.heap.size + 3, 0, none⟩) 1 1] 26)
theorem wF_sizes (w : World) : (wF0 w).heap.size = w.heap.size + 1 ∧ (wF1 w).heap.size = w.heap.size + 2 ∧ (wF2 w).heap.size = w.heap.size + 3 ∧ (wF3 w).heap.size = w.heap.size + 4 ∧ (wF w).heap.size = w.heap.size + 5 := by
 simp [wF, wF3, wF2, wF1, wF0]
theorem wF_below (w : World) : Below (wF3 w).heap.size (wF3 w) (wF w) ∧ Below (wF2 w).heap.size (wF2 w) (wF w) ∧ Below (wF1 w).heap.size (wF1 w) (wF w) ∧ Below (wF0 w).heap.size (wF0 w) (wF w) ∧ Below w.heap.size w (wF w) := by
 obtain ⟨s0, s1, s2, s3, s4⟩ := wF_sizes w
 have b3 : Below (wF3 w).heap.size (wF3 w) (wF w) := (Below.refl _ _).alloc (Nat.le_refl _) _
 have b2 : Below (wF2 w).heap.size (wF2 w) (wF w) := ((Below.refl _ _).alloc (Nat.le_refl _) _).trans (b3.mono (by rw [s2, s3]; omega))
 have b1 : Below (wF1 w).heap.size (wF1 w) (wF w) := ((Below.refl _ _).alloc (Nat.le_refl _) _).trans (b2.mono (by rw [s1, s2]; omega))
 have b0 : Below (wF0 w).heap.size (wF0 w) (wF w) := ((Below.refl _ _).alloc (Nat.le_refl _) _).trans (b1.mono (by rw [s0, s1]; omega))
 exact ⟨b3, b2, b1, b0, ((Below.refl _ _).alloc (Nat.le_refl _) _).trans (b0.mono (by rw [s0]; omega))⟩
theorem wF_rows (w : World) : (wF w).heap[w.heap.size]? = some (.cells #[.int .i64 1] 3) ∧ (wF w).heap[w.heap.size + 1]? = some (.cells #[.slice (some ⟨w.heap.size, 0, none⟩) 1 1] 55) ∧
  (wF w).heap[w.heap.size + 2]? = some (.cells #[.int .i64 1, .int .i64 0, .int .i64 1, .int .i64 0, .int .i64 10, .int .i64 0, .int .i64 3, .int .i64 0, .int .i64 11, .int .i64 0, .int .i64 0, .int .i64 0, .int .i64 27, .int .i64 0, .int .i64 0, .int .i64 0] 60) ∧
  (wF w).heap[w.heap.size + 3]? = some (.cells #[.slice none 0 0, .int .i64 0, .int .i64 1, .slice none 0 0, .slice (some ⟨w.heap.size + 2, 0, none⟩) 4 4] 58) ∧
  (wF w).heap[w.heap.size + 4]? = some (.cells #[.slice none 0 0, .slice (some ⟨w.heap.size + 1, 0, none⟩) 1 1, .slice (some ⟨w.heap.size + 3, 0, none⟩) 1 1] 26) := by
 obtain ⟨s0, s1, s2, s3, s4⟩ := wF_sizes w
 obtain ⟨b3, b2, b1, b0, _⟩ := wF_below w
 have h : ∀ {a : World}, Below a.heap.size a (wF w) → ∀ {k o}, a.heap[k]? = some o → (wF w).heap[k]? = some o := fun hb _ _ hk => (Fr.of_below hb (fun _ => False)).heap hk (fun h => h)
 have e1 := heap_new (wF0 w) (.cells #[.slice (some ⟨w.heap.size, 0, none⟩) 1 1] 55)
 have e2 := heap_new (wF1 w) (.cells #[.int .i64 1, .int .i64 0, .int .i64 1, .int .i64 0, .int .i64 10, .int .i64 0, .int .i64 3, .int .i64 0, .int .i64 11, .int .i64 0, .int .i64 0, .int .i64 0, .int .i64 27, .int .i64 0, .int .i64 0, .int .i64 0] 60)
 have e3 := heap_new (wF2 w) (.cells #[.slice none 0 0, .int .i64 0, .int .i64 1, .slice none 0 0, .slice (some ⟨w.heap.size + 2, 0, none⟩) 4 4] 58)
 have e4 := heap_new (wF3 w) (.cells #[.slice none 0 0, .slice (some ⟨w.heap.size + 1, 0, none⟩) 1 1, .slice (some ⟨w.heap.size + 3, 0, none⟩) 1 1] 26)
 rw [s0] at e1
 rw [s1] at e2
 rw [s2] at e3
 rw [s3] at e4
 exact ⟨h b0 (heap_new w _), h b1 e1, h b2 e2, h b3 e3, e4⟩
theorem wF_prg (w : World) : PrgVal (wF w) (fun k => k < w.heap.size + 4) pf (.slice none 0 0) (.slice (some ⟨w.heap.size + 1, 0, none⟩) 1 1) (.slice (some ⟨w.heap.size + 3, 0, none⟩) 1 1) := by
 obtain ⟨r0, r1, r2, r3, _⟩ := wF_rows w
 refine ⟨⟨none, 0, rfl, fun j hj => by cases hj⟩, ⟨_, 1, rfl, fun j hj => ?_⟩, _, 1, rfl, fun j hj => ?_⟩
 ·obtain rfl : j = 0 := by have : j < 1 := hj; omega
  refine ⟨w.heap.size + 1, 0, rfl, by show w.heap.size + 1 < w.heap.size + 4; omega, _, 1, (row_cell r1 0).1, fun i hi => ?_⟩
  obtain rfl : i = 0 := by have : i < 1 := hi; omega
  exact ⟨w.heap.size, 0, rfl, by show w.heap.size < w.heap.size + 4; omega, (row_cell r0 0).1⟩
 ·obtain rfl : j = 0 := by have : j < 1 := hj; omega
  refine ⟨w.heap.size + 3, 0, rfl, by show w.heap.size + 3 < w.heap.size + 4; omega, _, _, _, _, _, (row_cell r3 0).1, (row_cell r3 1).1, (row_cell r3 2).1, (row_cell r3 3).1, (row_cell r3 4).1, rfl, rfl, ⟨none, 0, rfl, fun j hj => by cases hj⟩, ⟨none, 0, rfl, fun j hj => by cases hj⟩, _, 4, rfl, fun i hi => ?_⟩
  have hi4 : i = 0 ∨ i = 1 ∨ i = 2 ∨ i = 3 := by have : i < 4 := hi; omega
  rcases hi4 with rfl | rfl | rfl | rfl
  ·exact ⟨w.heap.size + 2, 0, rfl, by show w.heap.size + 2 < w.heap.size + 4; omega, (row_cell r2 0).1, (row_cell r2 1).1, (row_cell r2 2).1, (row_cell r2 3).1⟩
  ·exact ⟨w.heap.size + 2, 0, rfl, by show w.heap.size + 2 < w.heap.size + 4; omega, (row_cell r2 4).1, (row_cell r2 5).1, (row_cell r2 6).1, (row_cell r2 7).1⟩
  ·exact ⟨w.heap.size + 2, 0, rfl, by show w.heap.size + 2 < w.heap.size + 4; omega, (row_cell r2 8).1, (row_cell r2 9).1, (row_cell r2 10).1, (row_cell r2 11).1⟩
  ·exact ⟨w.heap.size + 2, 0, rfl, by show w.heap.size + 2 < w.heap.size + 4; omega, (row_cell r2 12).1, (row_cell r2 13).1, (row_cell r2 14).1, (row_cell r2 15).1⟩
set_option maxRecDepth 100000 in
set_option maxHeartbeats 3200000 in
theorem alive12 (w : World) :
  Calls Tryz.prog 5 #[] w fun e w' => e = .returned (.bool true) ∧ Below w.heap.size w w' := by
 obtain ⟨_, _, _, _, hB⟩ := wF_below w
 obtain ⟨_, _, _, _, hsz⟩ := wF_sizes w
 obtain ⟨_, _, _, _, r4⟩ := wF_rows w
 have fp := flowProg_any (wF w) _ (fun k hk => by rw [hsz]; have : k < w.heap.size + 4 := hk; omega) pf _ _ _ (wF_prg w) pf_B.1 pf_B.2
 have k0 := (row_cell r4 0).1
 have k1 := (row_cell r4 1).1
 have k2 := (row_cell r4 2).1
 have hwa : wF w = wF w := rfl
 conv at hwa => rhs; unfold wF wF3 wF2 wF1 wF0
 generalize wF w = W at *
 clear r4 hsz
 have FP := Lib.hid fp; clear fp
 have HB := Lib.hid hB; clear hB
 have HWA := Lib.hid hwa; clear hwa
 go_enter Tryz.func5, Tryz.ntmps5
 go_upto_region 2 with fail
 rw [← HWA.out]
 have k0 : W.cell? ⟨w.heap.size + 4, 0, none⟩ = some (.slice none 0 0) := k0
 have k1 : W.cell? ⟨w.heap.size + 4, 1, none⟩ = some (.slice (some ⟨w.heap.size + 1, 0, none⟩) 1 1) := k1
 have k2 : W.cell? ⟨w.heap.size + 4, 2, none⟩ = some (.slice (some ⟨w.heap.size + 3, 0, none⟩) 1 1) := k2
 go_wp2_with fail
 refine FP.out.mono ?_
 rintro e w1 ⟨hb1, ⟨E, fn, pc, hfe, _⟩ | ⟨_, Ms, mb, b, nm, V, hms, rfl, hmp⟩⟩
 ·exact (pf_err hfe).elim
 clear k0 k1 k2
 have hfl := (hms 0 (by decide)).1
 obtain ⟨_, _, hM2, hM3, hM4⟩ := pf_flow (show IsFlow pf ff (Ms 0) from hfl)
 have hcl : ∀ x K, allM pf.funcs.length Ms x = some K → K.length ≤ 100000 := fun x K hx => by
  unfold allM at hx
  split at hx
  ·next h1 =>
   split at hx
   ·have h2 : x.1.1.toNat = 0 := by have h3 : x.1.1 < ((1 : Nat) : Int) := h1.2; omega
    rw [h2] at hx
    have := (hfl.1.len _ _ hx).2
    have h4 : K.length = 1 := this
    omega
   ·cases hx
  ·cases hx
 have hI : ∀ q : Int, 0 ≤ q → q ≤ 4 → i64B 0 ∧ i64B q := fun q h1 h2 => ⟨⟨by omega, by omega⟩, ⟨by omega, by omega⟩⟩
 have km := fun W' (h : MapsAt W' W.heap.size mb b nm V (allM pf.funcs.length Ms)) q h1 h2 => kindsM_any W' _ mb b nm V _ h 0 q (hI q h1 h2) hcl
 have rm := fun W' (h : MapsAt W' W.heap.size mb b nm V (allM pf.funcs.length Ms)) q h1 h2 => reachedM_any W' _ mb b nm V _ h 0 q (hI q h1 h2)
 have e2 : allM pf.funcs.length Ms ⟨(0, 2), hI 2 (by omega) (by omega)⟩ = some [1] := hM2
 have e3 : allM pf.funcs.length Ms ⟨(0, 3), hI 3 (by omega) (by omega)⟩ = some [0] := hM3
 have e4 : allM pf.funcs.length Ms ⟨(0, 4), hI 4 (by omega) (by omega)⟩ = none := hM4
 have k2 := fun W' h => km W' h 2 (by omega) (by omega)
 have k3 := fun W' h => km W' h 3 (by omega) (by omega)
 have q3 := fun W' h => rm W' h 3 (by omega) (by omega)
 have q4 := fun W' h => rm W' h 4 (by omega) (by omega)
 rw [e2] at k2
 rw [e3] at k3 q3
 rw [e4] at q4
 have hB1 := HB.out.trans (hb1.mono HB.out.size)
 have hb2 := hB1.alloc hB1.size (.cells #[.int .i64 0, .int .i64 0] 32)
 have hmp2 := hmp.below ((Below.refl w1.heap.size w1).alloc (Nat.le_refl _) (.cells #[.int .i64 0, .int .i64 0] 32))
 obtain ⟨w2, hw2⟩ : ∃ w2, w2 = w1.alloc (.cells #[.int .i64 0, .int .i64 0] 32) := ⟨_, rfl⟩
 rw [← hw2] at hb2 hmp2
 have HW2 := Lib.hid hw2
 clear hms hmp hb1 hfl hM2 hM3 hM4 hcl hI km rm e2 e3 e4 hw2 hB1
 generalize allM pf.funcs.length Ms = C at *
 have HMP := Lib.hid hmp2
 have HBB := Lib.hid hb2
 have K2 := Lib.hid k2
 have K3 := Lib.hid k3
 have Q3 := Lib.hid q3
 have Q4 := Lib.hid q4
 clear hmp2 hb2 k2 k3 q3 q4
 go_upto_region 5 with fail
 rw [← HW2.out]
 go_wp2_with fail
 refine (K2.out _ HMP.out).mono ?_
 rintro e w3 ⟨v3, rfl, ho3, hb3⟩
 have HMP3 := Lib.hid (HMP.out.below hb3)
 have HO3 := Lib.hid ho3
 have HB3 := Lib.hid (HBB.out.trans (hb3.mono HBB.out.size))
 clear ho3 hb3
 go_wp2_with fail
 refine (K3.out _ HMP3.out).mono ?_
 rintro e w4 ⟨v4, rfl, ho4, hb4⟩
 obtain ⟨a3, c3, rfl, hs3⟩ := own_int (HO3.out.below hb4)
 obtain ⟨a4, c4, rfl, hs4⟩ := own_int ho4
 obtain ⟨b3, o3, rfl, _, hx3⟩ := hs3 0 (by decide)
 obtain ⟨b4, o4, rfl, _, hx4⟩ := hs4 0 (by decide)
 have hx3 : w4.cell? ⟨b3, o3, none⟩ = some (.int .i64 1) := hx3
 have hx4 : w4.cell? ⟨b4, o4, none⟩ = some (.int .i64 0) := hx4
 have HMP4 := Lib.hid (HMP3.out.below hb4)
 have HB4 := Lib.hid (HB3.out.trans (hb4.mono HB3.out.size))
 clear ho4 hb4 hs3 hs4
 go_wp2_with fail
 refine (Q3.out _ HMP4.out).mono ?_
 rintro e w5 ⟨rfl, rfl⟩
 go_wp2_with fail
 refine (Q4.out _ HMP4.out).mono ?_
 rintro e w5 ⟨rfl, rfl⟩
 go_wp2_with fail
 go_ret
 exact ⟨rfl, HB4.out⟩
end Go.Proofs.YtjcjhfnjamphlaaGreat
namespace Go.Proofs.YtjcjhfnjamphlaaGreat
open Go.RowKit
theorem trodAll_stays {H : Type} {enc : TypeId × Value → H} {P : Program} (hl : laidOutB P = true) {W W' : World} (hb : Below W.heap.size W W') :
  ∀ (ts : List TypeId) (vs : List Value) (ds : List (DataW H)) (ps : List MemPlace), (∀ t ∈ ts, P.readableRec t = true ∧ t < P.types.size) →
   DataW.TrodAll enc P W 0 (fun _ => true) true ts vs ds ps → (∀ x ∈ ps, x.block < W.heap.size) → DataW.TrodAll enc P W' 0 (fun b => decide (b < W.heap.size)) true ts vs ds ps
 | [], [], [], _, _, h, _ => h
 | t :: ts, v :: vs, d :: ds, _, ht, ⟨p, q, h1, h2, he⟩, hlt => by
  subst he
  exact ⟨p, q, Below.trod hl (ht t (List.mem_cons_self ..)).1 (ht t (List.mem_cons_self ..)).2 h1 hb (fun x hx => hlt x (List.mem_append_left _ hx)),
   trodAll_stays hl hb ts vs ds q (fun t' h' => ht t' (List.mem_cons_of_mem _ h')) h2 (fun x hx => hlt x (List.mem_append_right _ hx)), rfl⟩
theorem trodAll_length {H : Type} {enc : TypeId × Value → H} {P : Program} {W : World} {b : Nat} {sp : Nat → Bool} {hd : Bool} :
  ∀ (ts : List TypeId) (vs : List Value) (ds : List (DataW H)) (ps : List MemPlace), DataW.TrodAll enc P W b sp hd ts vs ds ps → ds.length = ts.length
 | [], [], [], _, _ => rfl
 | _ :: ts, _ :: vs, _ :: ds, _, ⟨_, q, _, h, _⟩ => congrArg (· + 1) (trodAll_length ts vs ds q h)
theorem law_post {H : Type} {enc : TypeId × Value → H} {P : Program} {f : Func} {s : ChangeSpec} {W W' : World} {args : Array Value} {ds gs : List (DataW H)} {before : List MemPlace} {T : TypeId}
  (hl : laidOutB P = true) (hps : f.params.toList.all (fun t => P.readableRec t && decide (t < P.types.size)) = true) (hrt : f.resultTypes = #[T]) (hT : P.underlying T = some .bool)
  (hW : DataW.Whole enc P f.params.toList s.vars false W args.toList ds gs before) (hv : s.vars = [])
  (hs : ∀ ds : List (DataW H), ds.length = f.params.toList.length → s.fn H ds = { results := [.lit (.bool true)], args := ds }) (hb : Below W.heap.size W W') :
  s.post enc P f false true false false W args (.bool true) W' := by
 have hW0 := hW
 obtain ⟨p, q, hA, hV, hpq, hz, hn⟩ := hW
 rw [hv] at hV
 match gs, hV with
 | [], hV =>
  have hq : q = [] := hV
  subst hq
  rw [List.append_nil] at hpq
  subst hpq
  have hfn := hs ds (trodAll_length _ _ _ _ hA)
  have hps' : ∀ t ∈ f.params.toList, P.readableRec t = true ∧ t < P.types.size := fun t ht => by
   have := List.all_eq_true.1 hps t ht
   simpa using this
  refine ⟨ds, [], before, [], before, [], hW0, ?_, ?_, ?_, ?_, fun h => by cases h⟩
  ·rw [List.append_nil, hfn, hrt]
   exact ⟨[], [], ⟨1, by simp [DataW.trod, hT, Value.cells]⟩, rfl, rfl⟩
  ·rw [List.append_nil, hfn]
   exact trodAll_stays hl hb _ _ _ _ hps' hA hW0.lt
  ·rw [List.append_nil, hfn, hv]
   exact rfl
  ·exact hb.frame _
 | _ :: _, hV => exact hV.elim
end Go.Proofs.YtjcjhfnjamphlaaGreat
