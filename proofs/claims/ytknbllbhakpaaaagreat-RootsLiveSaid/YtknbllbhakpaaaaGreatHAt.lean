/- Walks: a step of flow: the kind that is set; the kinds behind it. Walks: slices.Clone, of numbers, of instructions. Walks: what two lists have in common, the program's and the reference's. -/
import Derived.Test.YtknbllbhakpaaaaGreatHAr
import Derived.Test.YtknbllbhakpaaaaGreatHAd
import Derived.Test.YtknbllbhakpaaaaGreatHAc
import Derived.Test.YtknbllbhakpaaaaGreatHAo
set_option linter.unusedVariables false
set_option linter.unusedSimpArgs false
namespace Go.Proofs.YtknbllbhakpaaaaGreat
open Go.ChangeShapes Go.WideShapes Go.ChangeAt Go.RowKit
set_option maxRecDepth 100000 in
set_option maxHeartbeats 6400000 in
theorem setsF_any (w : World) (D : Nat → Prop) (p : Prg) (f : Fun) (K : List Int) (c0 c1 c2 d0 d3 d4 kv : Value) (i : Ins) (hv : StepV w D p f K c0 c1 c2 d0 d3 d4 kv) (ho : StepOk p f i K.length) (hob : ∀ x ∈ f.objects, 0 ≤ x ∧ x < 16) :
    Calls Tryz.prog 119 #[.agg (stepC c0 c1 c2 d0 d3 d4 kv f.result f.slots i)] w fun e w' => e = .returned (.int .i64 (setsK p f i K)) ∧ Below w.heap.size w w' := by
  obtain ⟨op, a, b, c⟩ := i
  have kd := fun W h k => kind_any W D p f K c0 c1 c2 d0 d3 d4 kv ⟨op, a, b, c⟩ h k
  have th := fun W h k j => through_any W D p f K c0 c1 c2 d0 d3 d4 kv ⟨op, a, b, c⟩ h k j
  have ca := fun W h (hop : op = 21) => calleeF_any W D p f K c0 c1 c2 d0 d3 d4 kv ⟨op, a, b, c⟩ h (ho.call (.inl hop)).1
  have hgl : op = 16 → _ := ho.gload
  have had : op = 18 → _ := ho.addr
  have hnw : op = 11 ∨ op = 13 → _ := ho.news
  dsimp only at kd th ca hgl had hnw ⊢
  have hbx := fun wr h => box2 w (stepC c0 c1 c2 d0 d3 d4 kv f.result f.slots ⟨op, a, b, c⟩) #[.int .i64 op, .int .i64 a, .int .i64 b, .int .i64 c] 136 28 wr h
  have hz0 : ((w.alloc (.cells (stepC c0 c1 c2 d0 d3 d4 kv f.result f.slots ⟨op, a, b, c⟩) 136)).alloc (.cells #[.int .i64 op, .int .i64 a, .int .i64 b, .int .i64 c] 28)).heap.size = w.heap.size + 2 := by simp
  obtain ⟨W, hW⟩ : ∃ W, W = (w.alloc (.cells (stepC c0 c1 c2 d0 d3 d4 kv f.result f.slots ⟨op, a, b, c⟩) 136)).alloc (.cells #[.int .i64 op, .int .i64 a, .int .i64 b, .int .i64 c] 28) := ⟨_, rfl⟩
  rw [← hW] at hbx hz0
  have hC0 : Below w.heap.size w W := (hbx W (by rw [← hz0]; exact Below.refl _ _)).2.2.1
  have q : ∀ W', Below W.heap.size W W' → ∀ j u, (stepC c0 c1 c2 d0 d3 d4 kv f.result f.slots ⟨op, a, b, c⟩)[j]? = some u → W'.cell? ⟨w.heap.size, j, none⟩ = some u := fun W' h => (hbx W' (by rw [← hz0]; exact h)).1
  have q2 : ∀ W', Below W.heap.size W W' → ∀ j u, (#[.int .i64 op, .int .i64 a, .int .i64 b, .int .i64 c] : Array Value)[j]? = some u → W'.cell? ⟨w.heap.size + 1, j, none⟩ = some u := fun W' h => (hbx W' (by rw [← hz0]; exact h)).2.1
  have HW := Lib.hid hW
  clear hW hbx
  have hvW : ∀ W', Below W.heap.size W W' → StepV W' D p f K c0 c1 c2 d0 d3 d4 kv := fun W' h => hv.below (hC0.trans (h.mono hC0.size))
  obtain ⟨o0, o1, o2, o3, o4, o5, o6⟩ := hv.one
  have HQQ := Lib.hid q
  have HQR := Lib.hid q2
  clear q q2
  have HC0 := Lib.hid hC0; clear hC0
  have HVW := Lib.hid hvW; clear hvW
  have HZ0 := Lib.hid hz0; clear hz0
  have KD := Lib.hid fun W' (h : Below W.heap.size W W') k => kd W' (HVW.out W' h) k
  have TH := Lib.hid fun W' (h : Below W.heap.size W W') kj => th W' (HVW.out W' h) (Prod.fst kj) (Prod.snd kj)
  have CA := Lib.hid (ca W (HVW.out W (Below.refl _ _)))
  clear kd th ca ho
  generalize hR : setsK p f ⟨op, a, b, c⟩ K = R at *
  generalize f.slots = fs at *
  generalize f.result = fr at *
  have HR := Lib.hid hR
  clear hR
  have HV := Lib.hid hv
  have HGL := Lib.hid hgl
  have HAD := Lib.hid had
  have HNW := Lib.hid hnw
  have HOB := Lib.hid hob
  clear hv hgl had hnw hob
  unfold stepC at *
  go_enter Tryz.func119, Tryz.ntmps119
  go_upto_region 2 with fail
  rw [← HW.out]
  have p0 : W.cell? ⟨w.heap.size, 0, none⟩ = some _ := HQQ.out _ (Below.refl _ _) 0 _ rfl
  have p1 : W.cell? ⟨w.heap.size, 1, none⟩ = some _ := HQQ.out _ (Below.refl _ _) 1 _ rfl
  have p2 : W.cell? ⟨w.heap.size, 2, none⟩ = some _ := HQQ.out _ (Below.refl _ _) 2 _ rfl
  have p3 : W.cell? ⟨w.heap.size, 3, none⟩ = some _ := HQQ.out _ (Below.refl _ _) 3 _ rfl
  have p4 : W.cell? ⟨w.heap.size, 4, none⟩ = some _ := HQQ.out _ (Below.refl _ _) 4 _ rfl
  have p5 : W.cell? ⟨w.heap.size, 5, none⟩ = some _ := HQQ.out _ (Below.refl _ _) 5 _ rfl
  have p6 : W.cell? ⟨w.heap.size, 6, none⟩ = some _ := HQQ.out _ (Below.refl _ _) 6 _ rfl
  have p7 : W.cell? ⟨w.heap.size, 7, none⟩ = some _ := HQQ.out _ (Below.refl _ _) 7 _ rfl
  have p8 : W.cell? ⟨w.heap.size, 8, none⟩ = some (.int .i64 _) := HQQ.out _ (Below.refl _ _) 8 _ rfl
  have p9 : W.cell? ⟨w.heap.size, 9, none⟩ = some (.int .i64 _) := HQQ.out _ (Below.refl _ _) 9 _ rfl
  have p10 : W.cell? ⟨w.heap.size, 10, none⟩ = some (.int .i64 _) := HQQ.out _ (Below.refl _ _) 10 _ rfl
  have p11 : W.cell? ⟨w.heap.size, 11, none⟩ = some (.int .i64 _) := HQQ.out _ (Below.refl _ _) 11 _ rfl
  have p12 : W.cell? ⟨w.heap.size, 12, none⟩ = some _ := HQQ.out _ (Below.refl _ _) 12 _ rfl
  have r0 : W.cell? ⟨w.heap.size + 1, 0, none⟩ = some (.int .i64 _) := HQR.out _ (Below.refl _ _) 0 _ rfl
  have r1 : W.cell? ⟨w.heap.size + 1, 1, none⟩ = some (.int .i64 _) := HQR.out _ (Below.refl _ _) 1 _ rfl
  have r2 : W.cell? ⟨w.heap.size + 1, 2, none⟩ = some (.int .i64 _) := HQR.out _ (Below.refl _ _) 2 _ rfl
  have r3 : W.cell? ⟨w.heap.size + 1, 3, none⟩ = some (.int .i64 _) := HQR.out _ (Below.refl _ _) 3 _ rfl
  by_cases h2 : op = 2
  · subst h2
    have hrr : R = kindA K b := by rw [← HR.out]; simp [setsK]
    have kb := fun W' h => KD.out W' h b
    generalize kindA K b = x at *
    have KB := Lib.hid kb
    clear kb KD TH CA
    have HRR := Lib.hid hrr
    clear hrr HR
    go_wp2_with fail
    refine (KB.out _ (Below.refl _ _)).mono ?_
    rintro e w1 ⟨rfl, hb1⟩
    have HB1 := Lib.hid ((Below.refl W.heap.size W).trans (hb1.mono (Below.refl W.heap.size W).size))
    have HG1 := Lib.hid (HC0.out.trans (HB1.out.mono HC0.out.size))
    clear hb1
    clear p0 p1 p2 p3 p4 p5 p6 p7 p8 p9 p10 p11 p12
    clear r0 r1 r2 r3
    go_wp2_with fail
    go_ret
    exact ⟨by rw [HRR.out]; rfl, HG1.out⟩
  by_cases h11 : op = 11
  · subst h11
    have hrr : R = 16 + b := by rw [← HR.out]; simp [setsK]
    have i1 : IntKind.i64.wrap (16 + b) = 16 + b := IntWalk.i64_in _ (by have := HNW.out (by simp); omega)
    clear KD TH CA
    have HRR := Lib.hid hrr
    clear hrr HR
    go_wp2_with fail
    go_ret
    exact ⟨by rw [HRR.out]; rfl, HC0.out⟩
  by_cases h13 : op = 13
  · subst h13
    have hrr : R = 16 + b := by rw [← HR.out]; simp [setsK]
    have i1 : IntKind.i64.wrap (16 + b) = 16 + b := IntWalk.i64_in _ (by have := HNW.out (by simp); omega)
    clear KD TH CA
    have HRR := Lib.hid hrr
    clear hrr HR
    go_wp2_with fail
    go_ret
    exact ⟨by rw [HRR.out]; rfl, HC0.out⟩
  by_cases h14 : op = 14
  · subst h14
    have hrr : R = throughA p 14 K b c := by rw [← HR.out]; simp [setsK]
    have kb := fun W' h => TH.out W' h (b, c)
    generalize throughA p 14 K b c = x at *
    have KB := Lib.hid kb
    clear kb KD TH CA
    have HRR := Lib.hid hrr
    clear hrr HR
    go_wp2_with fail
    refine (KB.out _ (Below.refl _ _)).mono ?_
    rintro e w1 ⟨rfl, hb1⟩
    have HB1 := Lib.hid ((Below.refl W.heap.size W).trans (hb1.mono (Below.refl W.heap.size W).size))
    have HG1 := Lib.hid (HC0.out.trans (HB1.out.mono HC0.out.size))
    clear hb1
    clear p0 p1 p2 p3 p4 p5 p6 p7 p8 p9 p10 p11 p12
    clear r0 r1 r2 r3
    go_wp2_with fail
    go_ret
    exact ⟨by rw [HRR.out]; rfl, HG1.out⟩
  by_cases h19 : op = 19
  · subst h19
    have hrr : R = throughA p 19 K b c := by rw [← HR.out]; simp [setsK]
    have kb := fun W' h => TH.out W' h (b, c)
    generalize throughA p 19 K b c = x at *
    have KB := Lib.hid kb
    clear kb KD TH CA
    have HRR := Lib.hid hrr
    clear hrr HR
    go_wp2_with fail
    refine (KB.out _ (Below.refl _ _)).mono ?_
    rintro e w1 ⟨rfl, hb1⟩
    have HB1 := Lib.hid ((Below.refl W.heap.size W).trans (hb1.mono (Below.refl W.heap.size W).size))
    have HG1 := Lib.hid (HC0.out.trans (HB1.out.mono HC0.out.size))
    clear hb1
    clear p0 p1 p2 p3 p4 p5 p6 p7 p8 p9 p10 p11 p12
    clear r0 r1 r2 r3
    go_wp2_with fail
    go_ret
    exact ⟨by rw [HRR.out]; rfl, HG1.out⟩
  by_cases h16 : op = 16
  · subst h16
    have hrr : R = globA p b := by rw [← HR.out]; simp [setsK]
    obtain ⟨⟨ga, gc, hc0, hgl⟩, _⟩ := (HVW.out W (Below.refl _ _)).prg
    obtain ⟨j, hja⟩ : ∃ j : Nat, b = j := ⟨b.toNat, by have := HGL.out rfl; omega⟩
    have hj : j < p.globals.length := by have := HGL.out rfl; omega
    have hga : globA p b = p.globals[j] := by unfold globA; rw [hja]; simp [hj]
    obtain ⟨gb, go, hgae, _, hx⟩ := hgl j hj
    rw [hga] at hrr
    subst hja hc0 hgae
    have hlt : (j : Int) < (p.globals.length : Int) := by omega
    clear hga hgl HGL HVW
    generalize p.globals[j] = y at *
    generalize p.globals.length = n at *
    clear KD TH CA
    have HRR := Lib.hid hrr
    clear hrr HR
    go_wp2_with fail
    go_ret
    exact ⟨by rw [HRR.out]; rfl, HC0.out⟩
  by_cases h18 : op = 18
  · subst h18
    have hrr : R = 64 + (f.objects[b.toNat]?).getD 0 := by rw [← HR.out]; simp [setsK]
    obtain ⟨_, _, _, ⟨ga, gc, hc0, hgl⟩, _⟩ := (HVW.out W (Below.refl _ _)).fn
    obtain ⟨j, hja⟩ : ∃ j : Nat, b = j := ⟨b.toNat, by have := HAD.out rfl; omega⟩
    have hj : j < f.objects.length := by have := HAD.out rfl; omega
    have hga : (f.objects[b.toNat]?).getD 0 = f.objects[j] := by rw [hja]; simp [hj]
    have hob := HOB.out _ (List.getElem_mem hj)
    obtain ⟨gb, go, hgae, _, hx⟩ := hgl j hj
    rw [hga] at hrr
    have i1 : IntKind.i64.wrap (64 + f.objects[j]) = 64 + f.objects[j] := IntWalk.i64_in _ (by omega)
    subst hja hc0 hgae
    have hlt : (j : Int) < (f.objects.length : Int) := by omega
    clear hga hgl HAD HVW HOB hob
    generalize f.objects[j] = y at *
    generalize f.objects.length = n at *
    clear KD TH CA
    have HRR := Lib.hid hrr
    clear hrr HR
    go_wp2_with fail
    go_ret
    exact ⟨by rw [HRR.out]; rfl, HC0.out⟩
  by_cases h21 : op = 21
  · subst h21
    have hrr : R = (calleeR p b).result := by rw [← HR.out]; simp [setsK]
    have CA2 := Lib.hid (CA.out rfl)
    clear KD TH CA
    generalize calleeR p b = g at *
    unfold FunPost at CA2
    have HRR := Lib.hid hrr
    clear hrr HR
    go_wp2_with fail
    refine CA2.out.mono ?_
    rintro e w1 ⟨x0, x3, x4, rfl, _, hb1⟩
    have HG1 := Lib.hid (HC0.out.trans (hb1.mono HC0.out.size))
    clear hb1 CA2
    clear p0 p1 p2 p3 p4 p5 p6 p7 p8 p9 p10 p11 p12
    clear r0 r1 r2 r3
    have fa := fun w => fld_result x0 g.result g.slots x3 x4 w
    generalize g.result = gr at *
    generalize g.slots = gs at *
    go_wp2_with fail
    go_ret
    exact ⟨by rw [HRR.out]; rfl, HG1.out⟩
  have hrr : R = 1 := by
    rw [← HR.out]
    unfold setsK
    dsimp only
    rw [if_neg (by omega), if_neg (by omega), if_neg (by omega), if_neg (by omega), if_neg (by omega), if_neg (by omega)]
  have n2 : (op == 2) = false := by simpa using h2
  have n11 : (op == 11) = false := by simpa using h11
  have n13 : (op == 13) = false := by simpa using h13
  have n14 : (op == 14) = false := by simpa using h14
  have n19 : (op == 19) = false := by simpa using h19
  have n16 : (op == 16) = false := by simpa using h16
  have n18 : (op == 18) = false := by simpa using h18
  have n21 : (op == 21) = false := by simpa using h21
  clear h2 h11 h13 h14 h19 h16 h18 h21 KD TH CA
  have HRR := Lib.hid hrr
  clear hrr HR
  go_wp2_with fail
  go_ret
  exact ⟨by rw [HRR.out]; rfl, HC0.out⟩
end Go.Proofs.YtknbllbhakpaaaaGreat
namespace Go.Proofs.YtknbllbhakpaaaaGreat
open Go.ChangeShapes Go.WideShapes Go.ChangeAt Go.RowKit
theorem append_own_addr {P : Program} {α : Type} (E : Elem P α) {ops : Array Oper} {rest : List Oper} {o : Oper} {a : Act} {Q : Exit → Act → World → Prop} {w : World} (hgd : o.guard = none) (s x : Operand)
    (ho : o.op = .call { callee := .builtin .append, args := #[s, x], argTypes := #[E.t, E.t] })
    (B : Nat) (l m : List α) (v : Value) (hs : a.eval s = v) (hown : Own E w B v l) (xa : Addr) (c : Nat) (hx : a.eval x = .slice (some xa) m.length c)
    (hm : ∀ j u, (m.flatMap E.enc)[j]? = some u → w.cell? (xa.add j) = some u) (hlen : l.length + m.length ≤ 100000000) (hB : B ≤ w.heap.size)
    (h : ∀ v' w', Own E w' B v' (l ++ m) → w.grownBy w' v.ownBlock → wpList P ops Q rest (a.put o.dst v') w') : wpList P ops Q (o :: rest) a w := by
  obtain ⟨i0, hi, hz0, hz1, hz2⟩ := info_parts E.info
  refine wpList_append_own _ hgd s x E.t ho B E.e i0 E.zero E.size E.bytes E.ht hi hz0 hz1 hz2 E.hzs E.hsz v l.length (l.flatMap E.enc) hs hown xa m.length c (m.flatMap E.enc) hx (E.len m) hm ?_ ?_ ?_ hB ?_
  · intro u hu
    obtain ⟨y, _, hy⟩ := List.mem_flatMap.1 hu
    exact E.hone y u hy
  · unfold maxLen; omega
  · have h1 := E.hby
    have h2 : (l.length + m.length) * E.bytes ≤ 100000000 * 1000 := Nat.mul_le_mul hlen h1
    omega
  · intro v' w' ho' hg _
    refine h v' w' ?_ hg
    unfold Own
    rw [List.length_append, List.flatMap_append]
    exact ho'
theorem cells_addr {w : World} {b o : Nat} {cs : List Value} (h : CellsAt w b o cs) : ∀ j u, cs[j]? = some u → w.cell? ((⟨b, o, none⟩ : Addr).add j) = some u := by
  intro j u hj
  have := h j u hj
  unfold Addr.add
  by_cases h0 : j = 0
  · subst h0; rw [if_pos rfl]; exact this
  · rw [if_neg h0]; exact this
theorem sl_addrInts {w : World} {D : Nat → Prop} {xa : Addr} {l : List Int} (h : IntSl w D (some xa) l) : ∀ j u, (l.flatMap intE.enc)[j]? = some u → w.cell? (xa.add j) = some u := by
  by_cases h0 : 1 ≤ l.length
  · obtain ⟨b, o, e, hc⟩ := sl_cellsInts h h0
    injection e with e
    subst e
    exact cells_addr hc
  · have : l = [] := List.length_eq_zero_iff.1 (by omega)
    subst this
    intro j u hj
    simp at hj
theorem alloc_cells {w : World} {xa : Addr} {o : Obj} {v : Value} (h : w.cell? xa = some v) : (w.alloc o).cell? xa = some v := by
  have hp := plain_addr h
  rw [hp] at h ⊢
  rw [cell_under _ _ (World.block_lt h)]; exact h
theorem eq_nil_run {α : Type} (E : Elem Tryz.prog α) (a : Option Addr) (n c : Nat) (w : World) : (binOp .eql E.t (.slice a n c) (.slice none 0 0)).run Tryz.prog w = .ok (.bool a.isNone) w := by
  have h : (Op.equalIn (9999 + 1) E.t (.slice a n c) (.slice none 0 0)).run Tryz.prog w = .ok a.isNone w := by
    unfold Op.equalIn
    cases a <;> simp [run_underlying E.ht]
  have h2 : binOp .eql E.t (.slice a n c) (.slice none 0 0) = (do pure (.bool (← Op.equalIn (9999 + 1) E.t (.slice a n c) (.slice none 0 0)))) := rfl
  rw [h2]
  simp [h]
set_option maxRecDepth 100000 in
set_option maxHeartbeats 1600000 in
theorem cloneInts_any (w : World) (D : Nat → Prop) (a : Option Addr) (l : List Int) (c : Nat) (hsl : IntSl w D a l) (hn : l.length ≤ 1000000) :
    Calls Tryz.prog 115 #[.slice a l.length c] w fun e w' => ∃ v, e = .returned v ∧ Own intE w' w.heap.size v l ∧ Below w.heap.size w w' := by
  cases a with
  | none =>
    have hl : l = [] := by
      cases l with
      | nil => rfl
      | cons x l => obtain ⟨b, o, h, _⟩ := hsl 0 (by simp); cases h
    subst hl
    have hnil := fun w => eq_nil_run intE none 0 c w
    have hnil : ∀ w, (binOp .eql 23 (.slice none 0 c) (.slice none 0 0)).run Tryz.prog w = .ok (.bool true) w := hnil
    go_enter Tryz.func115, Tryz.ntmps115
    go_wp2_with fail
    go_ret
    exact ⟨_, rfl, Own.nil _ _ _, Below.refl _ _⟩
  | some xa =>
    have hc := sl_addrInts hsl
    have ho := own_new intE w [] #[] rfl (by decide)
    have hb0 := (Below.refl w.heap.size w).alloc (Nat.le_refl _) (.cells #[] intE.e)
    have hc2 := fun j u hj => alloc_cells (o := .cells #[] intE.e) (hc j u hj)
    have hnil := fun w => eq_nil_run intE (some xa) l.length c w
    have hnil : ∀ w, (binOp .eql 23 (.slice (some xa) l.length c) (.slice none 0 0)).run Tryz.prog w = .ok (.bool false) w := hnil
    clear hsl hc
    have HC2 := Lib.hid hc2; clear hc2
    have HO := Lib.hid ho; clear ho
    have HB0 := Lib.hid hb0; clear hb0
    go_enter Tryz.func115, Tryz.ntmps115
    go_wp2_with (at_builtin; refine append_own_addr intE rfl (.tmp 5) (.tmp 6) rfl w.heap.size [] l _ rfl HO.out xa c rfl HC2.out ?c1 ?c2 ?_)
    case c1 => simp; omega
    case c2 => simp
    intro v2 w2 hown2 hg2
    have hB2 := below_grown HB0.out HO.out hg2 (by simp) (Nat.le_refl _)
    clear hg2
    have HB2 := Lib.hid hB2; clear hB2
    have HOWN2 := Lib.hid hown2; clear hown2
    go_wp2_with fail
    go_ret
    exact ⟨_, rfl, HOWN2.out, HB2.out⟩
end Go.Proofs.YtknbllbhakpaaaaGreat
namespace Go.Proofs.YtknbllbhakpaaaaGreat
open Go.ChangeShapes Go.WideShapes Go.ChangeAt Go.RowKit
theorem joinL_take (l m : List Int) (k : Nat) (h : k < l.length) (h2 : k < m.length) : (joinL l m).take (k + 1) = (joinL l m).take k ++ [if l[k] = m[k] then l[k] else 0] := by
  have hk : k < (joinL l m).length := by rw [joinL_len]; omega
  rw [take_snoc _ k hk]
  simp [joinL]
theorem joinL_all (l m : List Int) (k : Nat) (h : ¬ (k < l.length ∧ k < m.length)) (hk : k ≤ l.length ∧ k ≤ m.length) : (joinL l m).take k = joinL l m := by
  rw [List.take_of_length_le (by rw [joinL_len]; omega)]
set_option maxRecDepth 100000 in
set_option maxHeartbeats 3200000 in
theorem join_any (w : World) (D D' : Nat → Prop) (a a' : Option Addr) (l m : List Int) (c c' : Nat) (hl : IntSl w D a l) (hm : IntSl w D' a' m) (hn : l.length ≤ 100000) (hn2 : m.length ≤ 100000) :
    Calls Tryz.prog 113 #[.slice a l.length c, .slice a' m.length c'] w fun e w' => ∃ v, e = .returned v ∧ Own intE w' w.heap.size v (joinL l m) ∧ Below w.heap.size w w' := by
  by_cases hmin : (l.length : Int) ≤ (m.length : Int)
  · go_enter Tryz.func113, Tryz.ntmps113
    go_upto_region 3 with fail
    go_loopw [5, 12] (fun v i wr => ∃ k : Nat, k ≤ l.length ∧ k ≤ m.length ∧ i = .int .i64 k ∧ Own intE wr w.heap.size v ((joinL l m).take k) ∧ Below w.heap.size w wr) (fun _ i _ => l.length - (intOf i).toNat)
    case atStart => exact ⟨0, Nat.zero_le _, Nat.zero_le _, rfl, Own.nil _ _ _, Below.refl _ _⟩
    case round =>
      obtain ⟨k, hk1, hk2, rfl, hown, hB⟩ := hrel
      by_cases hlt : k < l.length ∧ k < m.length
      · obtain ⟨h1, h2⟩ := hlt
        obtain ⟨b1, o1, rfl, _, q1⟩ := hl k h1
        obtain ⟨b2, o2, rfl, _, q2⟩ := hm k h2
        have q1 := below_cell hB q1
        have q2 := below_cell hB q2
        have hjs := joinL_take l m k h1 h2
        have hjl : ((joinL l m).take k).length = k := by rw [List.length_take, joinL_len]; omega
        have n1 : (k : Int) < (l.length : Int) := by omega
        have n2 : (k : Int) < (m.length : Int) := by omega
        generalize (joinL l m).take k = J at *
        generalize l[k] = x at *
        generalize m[k] = y at *
        have HJL := Lib.hid hjl
        clear hjl hl hm
        have HOWN := Lib.hid hown
        have HB := Lib.hid hB
        clear hown hB
        have i1 : IntKind.i64.wrap ((k : Int) + 1) = (k : Int) + 1 := IntWalk.i64_in _ (by omega)
        by_cases hxy : x = y
        · subst hxy
          rw [if_pos rfl] at hjs
          have HJS := Lib.hid hjs
          clear hjs
          go_upto_region 5 with fail
          go_quiet (fail)
          have HOQ := Lib.hid (HOWN.out.below (below_drewN (Below.refl wr.heap.size wr) nq))
          have HBQ := Lib.hid (below_drewN HB.out nq)
          have q1 := below_cell (below_drewN (Below.refl wr.heap.size wr) nq) q1
          clear HOWN HB q2
          go_wp2_with (at_builtin; refine append_own intE rfl (.tmp 24) (.tmp 29) rfl w.heap.size J [x] _ rfl (HOQ.out.alloc _) wr.heap.size 0 1 rfl (CellsAt.new _ _ _ _) ?c1 ?c2 ?_)
          case c1 => rw [HJL.out]; simp; omega
          case c2 => have hz : (wr.drewN nq).heap.size = wr.heap.size := rfl; have := HBQ.out.size; simp; omega
          intro v2 w2 hown2 hg2
          have hB2 := Lib.hid (below_grown (HBQ.out.alloc HBQ.out.size _) (HOQ.out.alloc _) hg2 (by have hz : (wr.drewN nq).heap.size = wr.heap.size := rfl; have := HBQ.out.size; simp; omega) (Nat.le_refl _))
          have HO2 := Lib.hid hown2
          clear hown2 hg2
          go_wp2_with fail
          go_roundw
          case rel => exact ⟨k + 1, by omega, by omega, by go_num, by rw [HJS.out]; exact HO2.out, hB2.out⟩
          case measure => simp [intOf]; omega
        · have hne : (x == y) = false := by simpa using hxy
          rw [if_neg hxy] at hjs
          have HJS := Lib.hid hjs
          clear hjs hxy
          go_upto_region 5 with fail
          go_quiet (fail)
          have HOQ := Lib.hid (HOWN.out.below (below_drewN (Below.refl wr.heap.size wr) nq))
          have HBQ := Lib.hid (below_drewN HB.out nq)
          clear HOWN HB q1 q2
          go_wp2_with (at_builtin; refine append_own intE rfl (.tmp 31) (.tmp 32) rfl w.heap.size J [0] _ rfl (HOQ.out.alloc _) wr.heap.size 0 1 rfl (CellsAt.new _ _ _ _) ?c1 ?c2 ?_)
          case c1 => rw [HJL.out]; simp; omega
          case c2 => have hz : (wr.drewN nq).heap.size = wr.heap.size := rfl; have := HBQ.out.size; simp; omega
          intro v2 w2 hown2 hg2
          have hB2 := Lib.hid (below_grown (HBQ.out.alloc HBQ.out.size _) (HOQ.out.alloc _) hg2 (by have hz : (wr.drewN nq).heap.size = wr.heap.size := rfl; have := HBQ.out.size; simp; omega) (Nat.le_refl _))
          have HO2 := Lib.hid hown2
          clear hown2 hg2
          go_wp2_with fail
          go_roundw
          case rel => exact ⟨k + 1, by omega, by omega, by go_num, by rw [HJS.out]; exact HO2.out, hB2.out⟩
          case measure => simp [intOf]; omega
      · have hall := joinL_all l m k hlt ⟨hk1, hk2⟩
        rw [hall] at hown
        have HOWN := Lib.hid hown; clear hown
        have HB := Lib.hid hB; clear hB
        have HALL := Lib.hid hall; clear hall
        have n3 : ¬ ((k : Int) < (l.length : Int) ∧ (k : Int) < (m.length : Int)) := by omega
        clear hl hm
        by_cases n4 : (k : Int) < (l.length : Int)
        · have n5 : ¬ (k : Int) < (m.length : Int) := fun h => n3 ⟨n4, h⟩
          clear n3 hlt
          (exfalso; omega)
        · skip
          clear n3 hlt
          (go_wp2_with fail; go_ret; exact ⟨_, rfl, HOWN.out, HB.out⟩)
  · have hmin : (m.length : Int) < (l.length : Int) := by omega
    go_enter Tryz.func113, Tryz.ntmps113
    go_upto_region 3 with fail
    go_loopw [5, 12] (fun v i wr => ∃ k : Nat, k ≤ l.length ∧ k ≤ m.length ∧ i = .int .i64 k ∧ Own intE wr w.heap.size v ((joinL l m).take k) ∧ Below w.heap.size w wr) (fun _ i _ => l.length - (intOf i).toNat)
    case atStart => exact ⟨0, Nat.zero_le _, Nat.zero_le _, rfl, Own.nil _ _ _, Below.refl _ _⟩
    case round =>
      obtain ⟨k, hk1, hk2, rfl, hown, hB⟩ := hrel
      by_cases hlt : k < l.length ∧ k < m.length
      · obtain ⟨h1, h2⟩ := hlt
        obtain ⟨b1, o1, rfl, _, q1⟩ := hl k h1
        obtain ⟨b2, o2, rfl, _, q2⟩ := hm k h2
        have q1 := below_cell hB q1
        have q2 := below_cell hB q2
        have hjs := joinL_take l m k h1 h2
        have hjl : ((joinL l m).take k).length = k := by rw [List.length_take, joinL_len]; omega
        have n1 : (k : Int) < (l.length : Int) := by omega
        have n2 : (k : Int) < (m.length : Int) := by omega
        generalize (joinL l m).take k = J at *
        generalize l[k] = x at *
        generalize m[k] = y at *
        have HJL := Lib.hid hjl
        clear hjl hl hm
        have HOWN := Lib.hid hown
        have HB := Lib.hid hB
        clear hown hB
        have i1 : IntKind.i64.wrap ((k : Int) + 1) = (k : Int) + 1 := IntWalk.i64_in _ (by omega)
        by_cases hxy : x = y
        · subst hxy
          rw [if_pos rfl] at hjs
          have HJS := Lib.hid hjs
          clear hjs
          go_upto_region 5 with fail
          go_quiet (fail)
          have HOQ := Lib.hid (HOWN.out.below (below_drewN (Below.refl wr.heap.size wr) nq))
          have HBQ := Lib.hid (below_drewN HB.out nq)
          have q1 := below_cell (below_drewN (Below.refl wr.heap.size wr) nq) q1
          clear HOWN HB q2
          go_wp2_with (at_builtin; refine append_own intE rfl (.tmp 24) (.tmp 29) rfl w.heap.size J [x] _ rfl (HOQ.out.alloc _) wr.heap.size 0 1 rfl (CellsAt.new _ _ _ _) ?c1 ?c2 ?_)
          case c1 => rw [HJL.out]; simp; omega
          case c2 => have hz : (wr.drewN nq).heap.size = wr.heap.size := rfl; have := HBQ.out.size; simp; omega
          intro v2 w2 hown2 hg2
          have hB2 := Lib.hid (below_grown (HBQ.out.alloc HBQ.out.size _) (HOQ.out.alloc _) hg2 (by have hz : (wr.drewN nq).heap.size = wr.heap.size := rfl; have := HBQ.out.size; simp; omega) (Nat.le_refl _))
          have HO2 := Lib.hid hown2
          clear hown2 hg2
          go_wp2_with fail
          go_roundw
          case rel => exact ⟨k + 1, by omega, by omega, by go_num, by rw [HJS.out]; exact HO2.out, hB2.out⟩
          case measure => simp [intOf]; omega
        · have hne : (x == y) = false := by simpa using hxy
          rw [if_neg hxy] at hjs
          have HJS := Lib.hid hjs
          clear hjs hxy
          go_upto_region 5 with fail
          go_quiet (fail)
          have HOQ := Lib.hid (HOWN.out.below (below_drewN (Below.refl wr.heap.size wr) nq))
          have HBQ := Lib.hid (below_drewN HB.out nq)
          clear HOWN HB q1 q2
          go_wp2_with (at_builtin; refine append_own intE rfl (.tmp 31) (.tmp 32) rfl w.heap.size J [0] _ rfl (HOQ.out.alloc _) wr.heap.size 0 1 rfl (CellsAt.new _ _ _ _) ?c1 ?c2 ?_)
          case c1 => rw [HJL.out]; simp; omega
          case c2 => have hz : (wr.drewN nq).heap.size = wr.heap.size := rfl; have := HBQ.out.size; simp; omega
          intro v2 w2 hown2 hg2
          have hB2 := Lib.hid (below_grown (HBQ.out.alloc HBQ.out.size _) (HOQ.out.alloc _) hg2 (by have hz : (wr.drewN nq).heap.size = wr.heap.size := rfl; have := HBQ.out.size; simp; omega) (Nat.le_refl _))
          have HO2 := Lib.hid hown2
          clear hown2 hg2
          go_wp2_with fail
          go_roundw
          case rel => exact ⟨k + 1, by omega, by omega, by go_num, by rw [HJS.out]; exact HO2.out, hB2.out⟩
          case measure => simp [intOf]; omega
      · have hall := joinL_all l m k hlt ⟨hk1, hk2⟩
        rw [hall] at hown
        have HOWN := Lib.hid hown; clear hown
        have HB := Lib.hid hB; clear hB
        have HALL := Lib.hid hall; clear hall
        have n3 : ¬ ((k : Int) < (l.length : Int) ∧ (k : Int) < (m.length : Int)) := by omega
        clear hl hm
        by_cases n4 : (k : Int) < (l.length : Int)
        · have n5 : ¬ (k : Int) < (m.length : Int) := fun h => n3 ⟨n4, h⟩
          clear n3 hlt
          (go_wp2_with fail; go_ret; exact ⟨_, rfl, HOWN.out, HB.out⟩)
        · skip
          clear n3 hlt
          (exfalso; omega)
end Go.Proofs.YtknbllbhakpaaaaGreat
