/- Walk: kinds are brought to a place. -/
import Derived.Test.YtknbllbhakpaaaaGreatHAy
import Derived.Test.YtknbllbhakpaaaaGreatHAd
set_option linter.unusedVariables false
set_option linter.unusedSimpArgs false
namespace Go.Proofs.YtknbllbhakpaaaaGreat
open Go.ChangeShapes Go.WideShapes Go.ChangeAt Go.RowKit Go.Maps
theorem wp_que {w : World} {ops : Array Oper} {rest : List Oper} {o : Oper} {a : Act} {Q : Exit → Act → World → Prop} (hgd : o.guard = none) (s x : Operand)
    (ho : o.op = .call { callee := .builtin .append, args := #[s, x], argTypes := #[23, 23] })
    (B : Nat) (l : List Int) (v : Value) (hs : a.eval s = v) (hq : Que w B v l) (z : Int) (b c : Nat) (hx : a.eval x = .slice (some ⟨b, 0, none⟩) 1 c)
    (hc : w.cell? ⟨b, 0, none⟩ = some (.int .i64 z)) (hl : l.length ≤ 1000000) (hB : B ≤ w.heap.size)
    (h : ∀ v' w', Que w' B v' (l ++ [z]) → w.grownBy w' v.ownBlock → Fresh w v v' → wpList Tryz.prog ops Q rest (a.put o.dst v') w') : wpList Tryz.prog ops Q (o :: rest) a w := by
  refine wpList_plain hgd fun K' hK' => ?_
  obtain ⟨v', w', hr, h2, h3, h4⟩ := hq.append hB o.type z b c hc hl
  unfold Oper.wp
  simp [execOp, ho, resolve, invoke, builtin, hs, hx, hr, Result.andThen]
  exact hK' _ _ (h v' w' h2 h3 h4)
structure WalkV (w : World) (B wb b n : Nat) (V : Nat → Prop) (c0 c1 c2 : Value) (fn : Int) (C : Pl → Option (List Int)) (tv : Value) (l : List Int) : Prop where
  row : w.heap[wb]? = some (.cells #[c0, c1, c2, .int .i64 fn, .map (some b), tv] 93)
  map : FlMap w b n V C
  que : Que w B tv l
  vlo : ∀ k, V k → B ≤ k ∧ k < w.heap.size ∧ k ≠ wb ∧ k ≠ b ∧ tv.ownBlock ≠ some k
  bs : B ≤ wb ∧ B ≤ b ∧ wb ≠ b ∧ tv.ownBlock ≠ some wb ∧ tv.ownBlock ≠ some b
/-- what it may turn -/
def WF (wb b : Nat) (tv : Value) : Nat → Prop := fun k => k = wb ∨ k = b ∨ tv.ownBlock = some k
def nowK (o : Option (List Int)) (K : List Int) : List Int := match o with | none => K | some was => joinL was K
def chgB (o : Option (List Int)) (K : List Int) : Bool := match o with | none => true | some was => !decide (was = joinL was K)
theorem WalkV.cells {w : World} {B wb b n : Nat} {V : Nat → Prop} {c0 c1 c2 : Value} {fn : Int} {C : Pl → Option (List Int)} {tv : Value} {l : List Int} (h : WalkV w B wb b n V c0 c1 c2 fn C tv l) {w' : World} (hf : w'.heap[wb]? = w.heap[wb]?) :
    w'.cell? ⟨wb, 0, none⟩ = some c0 ∧ w'.cell? ⟨wb, 1, none⟩ = some c1 ∧ w'.cell? ⟨wb, 2, none⟩ = some c2 ∧ w'.cell? ⟨wb, 3, none⟩ = some (.int .i64 fn) ∧ w'.cell? ⟨wb, 4, none⟩ = some (.map (some b)) ∧ w'.cell? ⟨wb, 5, none⟩ = some tv ∧ w'.frozen? ⟨wb, 5, none⟩ = false := by
  have hr := h.row
  rw [← hf] at hr
  exact ⟨(row_cell hr 0).1, (row_cell hr 1).1, (row_cell hr 2).1, (row_cell hr 3).1, (row_cell hr 4).1, (row_cell hr 5).1, (row_cell hr 5).2⟩
theorem WalkV.fr {F : Nat → Prop} {w w' : World} {B wb b n : Nat} {V : Nat → Prop} {c0 c1 c2 : Value} {fn : Int} {C : Pl → Option (List Int)} {tv : Value} {l : List Int} (h : WalkV w B wb b n V c0 c1 c2 fn C tv l) (hf : Fr F w w') (h1 : ¬ F wb) (h2 : ¬ F b) (h3 : ∀ k, V k → ¬ F k) (h4 : ∀ k, tv.ownBlock = some k → ¬ F k) : WalkV w' B wb b n V c0 c1 c2 fn C tv l :=
  ⟨hf.heap h.row h1, h.map.fr hf h2 h3, h.que.fr hf h4, fun k hk => by obtain ⟨a1, a2, a3⟩ := h.vlo k hk; have := hf.size; exact ⟨a1, by omega, a3⟩, h.bs⟩
theorem WalkV.below {w w' : World} {B wb b n : Nat} {V : Nat → Prop} {c0 c1 c2 : Value} {fn : Int} {C : Pl → Option (List Int)} {tv : Value} {l : List Int} (h : WalkV w B wb b n V c0 c1 c2 fn C tv l) (hb : Below w.heap.size w w') : WalkV w' B wb b n V c0 c1 c2 fn C tv l :=
  h.fr (Fr.of_below hb (fun _ => False)) (fun h => h) (fun h => h) (fun _ _ h => h) (fun _ _ h => h)
theorem come_fin {w w2 w3 w4 : World} {B wb b n n' : Nat} {V : Nat → Prop} {c0 c1 c2 : Value} {fn : Int} {C C' : Pl → Option (List Int)} {tv tv' v : Value} {l N : List Int} {x : Int} {ob : Obj} (h : WalkV w B wb b n V c0 c1 c2 fn C tv l) (hB : B ≤ w.heap.size)
    (hb2 : Below w.heap.size w w2) (ho : Own intE w2 w.heap.size v N) (hm : FlMap w3 b n' (fun k => V k ∨ v.ownBlock = some k) C') (ht : w2.mapTurned w3 b) (hg : (w3.alloc ob).grownBy w4 tv.ownBlock) (hq : Que w4 B tv' (l ++ [x])) (hfr : Fresh (w3.alloc ob) tv tv') :
    WalkV (w4.setCell ⟨wb, 5, none⟩ tv') B wb b n' (fun k => V k ∨ v.ownBlock = some k) c0 c1 c2 fn C' tv' (l ++ [x]) ∧ Fr (WF wb b tv) w (w4.setCell ⟨wb, 5, none⟩ tv') ∧ (∀ k, tv'.ownBlock = some k → tv.ownBlock = some k ∨ w.heap.size ≤ k) := by
  obtain ⟨b1, b2, b3, b4, b5⟩ := h.bs
  have hwb := heap_lt h.row
  have hbl := h.map.lt
  have f23 := turned_fr ht
  have f3a := (Fr.refl (fun _ => False) w3).alloc ob
  have s2 := hb2.size
  have s3 := f23.size
  have sa : (w3.alloc ob).heap.size = w3.heap.size + 1 := by simp
  have s4 := hg.size
  have f34 : Fr (fun k => tv.ownBlock = some k) w3 w4 := ((Fr.refl (fun k => tv.ownBlock = some k) w3).alloc ob).grown hg (fun k hk _ => hk)
  have f45 : Fr (fun k => k = wb) w4 (w4.setCell ⟨wb, 5, none⟩ tv') := (Fr.refl (fun k => k = wb) w4).setCell (p := ⟨wb, 5, none⟩) (fun _ => rfl) tv'
  have f24 : Fr (WF wb b tv) w2 w4 := (f23.mono (G := WF wb b tv) (fun k hk => .inr (.inl hk))).trans f34 (fun k _ hk => .inr (.inr hk))
  have f25 : Fr (WF wb b tv) w2 (w4.setCell ⟨wb, 5, none⟩ tv') := f24.trans f45 (fun k _ hk => .inl hk)
  have r2 := (Fr.of_below hb2 (fun _ => False)).heap h.row (fun h => h)
  have r3 := f23.heap r2 (fun e => b3 e)
  have r4 := f34.heap r3 b4
  have r5 := row_set r4 5 tv'
  have hvb : ∀ k, v.ownBlock = some k → w.heap.size ≤ k ∧ k < w2.heap.size := fun k hk => ho.lt hk
  have htl : ∀ k, tv.ownBlock = some k → B ≤ k ∧ k < w.heap.size := fun k hk => h.que.lt hk
  have htn : ∀ k, tv'.ownBlock = some k → tv.ownBlock = some k ∨ w3.heap.size + 1 ≤ k := fun k hk => (hfr k hk).elim .inl (fun e => .inr (by omega))
  have hVk : ∀ k, (V k ∨ v.ownBlock = some k) → B ≤ k ∧ k < w2.heap.size ∧ k ≠ wb ∧ k ≠ b ∧ tv.ownBlock ≠ some k := fun k hk => by
    rcases hk with hk | hk
    · obtain ⟨a1, a2, a3, a4, a5⟩ := h.vlo k hk
      exact ⟨a1, by omega, a3, a4, a5⟩
    · have := hvb k hk
      exact ⟨by omega, this.2, by omega, by omega, fun e => by have := htl k e; omega⟩
  refine ⟨⟨r5, ?_, hq.fr f45 (fun k hk e => by subst e; exact (htn k hk).elim b4 (fun e => by omega)), fun k hk => ?_, b1, b2, b3, fun e => (htn _ e).elim b4 (fun e => by omega), fun e => (htn _ e).elim b5 (fun e => by omega)⟩, ?_, fun k hk => (htn k hk).elim .inl (fun e => .inr (by omega))⟩
  · exact (hm.fr f34 b5 (fun k hk => (hVk k hk).2.2.2.2)).fr f45 (fun e => b3 e.symm) (fun k hk e => (hVk k hk).2.2.1 e)
  · obtain ⟨a1, a2, a3, a4, a5⟩ := hVk k hk
    have := f45.size
    have := f34.size
    exact ⟨a1, by omega, a3, a4, fun e => (htn k e).elim a5 (fun e => by omega)⟩
  · exact (Fr.of_below hb2 (WF wb b tv)).trans f25 (fun _ _ h => h)
def ComePost (w : World) (B wb b n : Nat) (V : Nat → Prop) (c0 c1 c2 : Value) (fn : Int) (C : Pl → Option (List Int)) (tv : Value) (l : List Int) (at' : Pl) (K : List Int) (e : Ending) (w' : World) : Prop :=
  e = .returned (.tuple #[]) ∧ ∃ V' tv', WalkV w' B wb b (if (C at').isSome then n else n + 1) V' c0 c1 c2 fn (upd C at' (some (nowK (C at') K))) tv' (if chgB (C at') K then l ++ [at'.1.2] else l) ∧ Fr (WF wb b tv) w w' ∧ (∀ k, tv'.ownBlock = some k → tv.ownBlock = some k ∨ w.heap.size ≤ k)
set_option maxRecDepth 100000 in
set_option maxHeartbeats 6400000 in
theorem come_any (w : World) (B wb b n : Nat) (V : Nat → Prop) (c0 c1 c2 : Value) (fn : Int) (C : Pl → Option (List Int)) (tv : Value) (l : List Int) (h : WalkV w B wb b n V c0 c1 c2 fn C tv l) (hB : B ≤ w.heap.size) (pc : Int) (hpl : i64B fn ∧ i64B pc) (D : Nat → Prop) (ka : Option Addr) (K : List Int) (kc : Nat) (hk : IntSl w D ka K) (hKl : K.length ≤ 100000) (hCl : ∀ x K', C x = some K' → K'.length ≤ 100000) (hn : n < maxLen) (hl : l.length ≤ 1000000) :
    Calls Tryz.prog 76 #[.pointer (some ⟨wb, 0, none⟩), .int .i64 pc, .slice ka K.length kc] w (ComePost w B wb b n V c0 c1 c2 fn C tv l ⟨(fn, pc), hpl⟩ K) := by
  obtain ⟨at', hat⟩ : ∃ at' : Pl, at' = ⟨(fn, pc), hpl⟩ := ⟨_, rfl⟩
  have hplA : plA at' = .agg #[.int .i64 fn, .int .i64 pc] := by rw [hat]; rfl
  have hpc : at'.1.2 = pc := by rw [hat]
  rw [← hat]
  clear hat
  have hb1 := (Below.refl w.heap.size w).alloc (Nat.le_refl _) (.cells #[.int .i64 fn, .int .i64 pc] 50)
  have hly := heap_new w (.cells #[.int .i64 fn, .int .i64 pc] 50)
  obtain ⟨j0, j1, j2, j3, j4, j5, j6⟩ := h.cells rfl
  obtain ⟨y, hy⟩ : ∃ y, y = w.heap.size := ⟨_, rfl⟩
  obtain ⟨w1, hw1⟩ : ∃ w1, w1 = w.alloc (.cells #[.int .i64 fn, .int .i64 pc] 50) := ⟨_, rfl⟩
  rw [← hw1] at hb1 hly
  rw [← hy] at hly
  have hsz1 : w.heap.size ≤ w1.heap.size := hb1.size
  obtain ⟨⟨y0, y1⟩, _⟩ : (w1.cell? ⟨y, 0, none⟩ = some (.int .i64 fn) ∧ w1.cell? ⟨y, 1, none⟩ = some (.int .i64 pc)) ∧ True := ⟨⟨(row_cell hly 0).1, (row_cell hly 1).1⟩, trivial⟩
  have h1 := h.below hb1
  have hk1 := hk.fr (Fr.of_below hb1 (fun _ => False)) (fun _ _ h => h)
  have HH := Lib.hid h
  have HHB := Lib.hid hB
  have HN := Lib.hid hn
  have HL := Lib.hid hl
  have HPC := Lib.hid hpc
  have HPLA := Lib.hid hplA
  have HW1 := Lib.hid hw1
  have HYY := Lib.hid hy
  obtain ⟨k0, k1, k2, k3, k4, k5, k6⟩ := h1.cells rfl
  cases ho : C at' with
  | none =>
    have hlkd : (Instr.lookup 90 (.map (some b)) (.agg #[.int .i64 fn, .int .i64 pc]) true).run Tryz.prog w1.drew = .ok (.tuple #[.slice none 0 0, .bool false]) w1.drew := by
      have := ((h1.below ((Below.refl w1.heap.size w1).drew)).map.none_run at' ho).1
      rw [hplA] at this
      exact this
    obtain ⟨o, hoo⟩ : ∃ o : Option (List Int), o = none := ⟨_, rfl⟩
    obtain ⟨NW, hNN⟩ : ∃ NW : List Int, NW = K := ⟨_, rfl⟩
    have hOC : C at' = o := by rw [ho, hoo]
    have hNW : nowK o K = NW := by rw [hoo, hNN]; rfl
    have hCG : chgB o K = true := by rw [hoo]; rfl
    clear hoo ho h1 hly hplA hw1 hy hpc
    have hcl : Calls Tryz.prog 115 #[.slice ka K.length kc] w1.drew.drew fun e w' => ∃ v, e = .returned v ∧ Own intE w' w1.drew.drew.heap.size v NW ∧ Below w1.drew.drew.heap.size w1.drew.drew w' := by
      rw [hNN]
      exact cloneInts_any w1.drew.drew _ ka K kc (show IntSl w1.drew.drew D ka K from hk1) (by omega)
    have HBX := Lib.hid (show Below w.heap.size w w1.drew from hb1.drew)
    have HY0 := Lib.hid (show w1.drew.drew.cell? ⟨y, 0, none⟩ = some (.int .i64 fn) from y0)
    have HY1 := Lib.hid (show w1.drew.drew.cell? ⟨y, 1, none⟩ = some (.int .i64 pc) from y1)
    have HNN := Lib.hid hNN
    clear h hB hn hl hk hk1 hCl hNN hb1 hsz1
    have HCL := Lib.hid hcl; clear hcl
    have HOC := Lib.hid hOC; clear hOC
    have HNW := Lib.hid hNW; clear hNW
    have HCG := Lib.hid hCG; clear hCG
    go_enter Tryz.func76, Tryz.ntmps76
    go_upto_region 1 with fail
    rw [← HYY.out, ← HW1.out]
    clear j0 j1 j2 j3 j4 j5 j6
    go_cut [7, 8] (fun s7 s8 wx => s7 = .slice none 0 0 ∧ s8 = .bool false ∧ wx = w1.drew)
    case first =>
      go_region_law (fail)
      all_goals
        go_wp2_with fail
        go_meet
        exact ⟨rfl, rfl, rfl⟩
    case rest =>
      obtain ⟨rfl, rfl, rfl⟩ := hcut
      clear hlkd
      replace k0 : w1.drew.cell? _ = _ := k0
      replace k1 : w1.drew.cell? _ = _ := k1
      replace k2 : w1.drew.cell? _ = _ := k2
      replace k3 : w1.drew.cell? _ = _ := k3
      replace k4 : w1.drew.cell? _ = _ := k4
      replace k5 : w1.drew.cell? _ = _ := k5
      replace y0 : w1.drew.cell? _ = _ := y0
      replace y1 : w1.drew.cell? _ = _ := y1
      obtain ⟨wD, hwD⟩ : ∃ wD, wD = w1.drew := ⟨_, rfl⟩
      rw [← hwD] at k0 k1 k2 k3 k4 k5 y0 y1 HCL HBX HY0 HY1 ⊢
      clear hwD HW1
      go_upto_region 6 with fail
      go_cut [] (fun wx => ∃ v w2, Below w.heap.size w w2 ∧ Own intE w2 w.heap.size v NW ∧ FlMap wx b (if o.isSome = true then n else n + 1) (fun k => V k ∨ v.ownBlock = some k) (upd C at' (some NW)) ∧ w2.mapTurned wx b)
      case first =>
        go_region_law (first
          | (go_simp
             go_at_call 115
             refine HCL.out.mono ?_
             rintro e w2 ⟨v, rfl, ho2, hb2⟩
             obtain ⟨va, vc, rfl, hvs⟩ := own_int ho2
             have hbx2 := hb2
             have hb2 := HBX.out.drew.trans (hb2.mono HBX.out.size)
             have hk2 : w2.cell? ⟨wb, 4, none⟩ = some (.map (some b)) := below_cell hb2 (HH.out.cells rfl).2.2.2.2.1
             have hk3 : w2.cell? ⟨y, 0, none⟩ = some (.int .i64 fn) := below_cell hbx2 HY0.out
             have hk4 : w2.cell? ⟨y, 1, none⟩ = some (.int .i64 pc) := below_cell hbx2 HY1.out
             have ho2 := ho2.base (B' := w.heap.size) (fun k hk => Nat.le_trans HBX.out.size (ho2.lt hk).1)
             have HO2 := Lib.hid ho2
             have HB2 := Lib.hid hb2
             have HM2 := Lib.hid ((HH.out.below hb2).map.wide (V' := fun k => V k ∨ (Value.slice va NW.length vc).ownBlock = some k) (fun k hk => .inl hk))
             have HVS := Lib.hid (hvs.wide (D' := fun k => V k ∨ (Value.slice va NW.length vc).ownBlock = some k) (fun k hk => .inr hk))
             have HVB := Lib.hid (show ∀ k, (V k ∨ (Value.slice va NW.length vc).ownBlock = some k) → k ≠ b from fun k hk => hk.elim (fun h => (HH.out.vlo k h).2.2.2.1) (fun h => by have := (HO2.out.lt h).1; have := HH.out.map.lt; omega))
             obtain ⟨w3, hrun, hm3, ht3⟩ := HM2.out.put HN.out at' va NW vc HVS.out HVB.out
             rw [HPLA.out] at hrun
             clear ho2 hb2 hvs hbx2))
        all_goals
          clear hrun
          have hoo : (if (C at').isSome then n else n + 1) = if o.isSome = true then n else n + 1 := by rw [HOC.out]
          rw [hoo] at hm3
          have HM3 := Lib.hid hm3
          have HT3 := Lib.hid ht3
          clear hm3 ht3 hoo
          go_wp2_with fail
          go_meet
          exact ⟨_, _, HB2.out, HO2.out, HM3.out, HT3.out⟩
      case rest =>
        obtain ⟨v, w2, hb2, ho2, hm3, ht3⟩ := hcut
        have r3 := (turned_fr ht3).heap ((Fr.of_below hb2 (fun _ => False)).heap HH.out.row (fun h => h)) (fun e => HH.out.bs.2.2.1 e)
        obtain ⟨k0, k1, k2, k3, k4, k5, k6⟩ := HH.out.cells (r3.trans HH.out.row.symm)
        have q3 : Que wc B tv l := (HH.out.que.fr (Fr.of_below hb2 (fun _ => False)) (fun _ _ h => h)).fr (turned_fr ht3) (fun k hk e => HH.out.bs.2.2.2.2 (by rw [← e]; exact hk))
        have hsz : B ≤ wc.heap.size := by have := hb2.size; have := (turned_fr ht3).size; have := HHB.out; omega
        have q4 := q3.fr ((Fr.refl (fun _ => False) wc).alloc (.cells #[.int .i64 pc] 3)) (fun _ _ h => h)
        have hwl := heap_lt r3
        have HB2 := Lib.hid hb2; clear hb2
        have HO2 := Lib.hid ho2; clear ho2
        have HM3 := Lib.hid hm3; clear hm3
        have HT3 := Lib.hid ht3; clear ht3
        have Q3 := Lib.hid q3; clear q3
        have Q4 := Lib.hid q4; clear q4
        have HSZ := Lib.hid hsz; clear hsz
        go_wp2_with (at_builtin; refine wp_que rfl (.tmp 49) (.tmp 51) rfl B l tv rfl Q4.out pc wc.heap.size 1 rfl (cell_new _ _ _ _ 0) HL.out ?c1 ?_)
        case c1 => have := HSZ.out; simp; omega
        intro v5 w5 hq5 hg5 hf5
        obtain ⟨f1, f2, f3⟩ := come_fin HH.out HHB.out HB2.out HO2.out HM3.out HT3.out hg5 hq5 hf5
        have r5 := ((Fr.refl (fun k => tv.ownBlock = some k) wc).alloc (.cells #[.int .i64 pc] 3)).grown hg5 (fun k hk _ => hk) |>.heap r3 HH.out.bs.2.2.2.1
        have k7 : w5.cell? ⟨wb, 5, none⟩ = some tv := (row_cell r5 5).1
        have k8 : w5.frozen? ⟨wb, 5, none⟩ = false := (row_cell r5 5).2
        obtain ⟨va5, vc5, hv5⟩ := hq5.slice
        obtain ⟨ln, hln⟩ : ∃ ln, ln = (l ++ [pc]).length := ⟨_, rfl⟩
        rw [← hln] at hv5
        clear hln
        subst hv5
        clear k0 k1 k2 k3 k4 k5 k6 hq5 hg5 hf5 r3 r5 hwl
        have F1 := Lib.hid f1; clear f1
        have F2 := Lib.hid f2; clear f2
        have F3 := Lib.hid f3; clear f3
        go_wp2_with fail
        go_end0
        exact ⟨rfl, _, _, by rw [HOC.out, HNW.out, HCG.out, if_pos rfl, HPC.out]; exact F1.out, F2.out, F3.out⟩
  | some was =>
    obtain ⟨wa, wc', hws, hlk, _⟩ := (h1.below ((Below.refl w1.heap.size w1).drew)).map.some_run at' was ho
    rw [hplA] at hlk
    obtain ⟨J, hJ⟩ : ∃ J, J = joinL was K := ⟨_, rfl⟩
    have hwl := hCl _ _ ho
    have hJl : J.length ≤ 100000 := by rw [hJ, joinL_len]; omega
    have hjo := join_any w1.drew _ _ wa ka was K wc' kc hws (show IntSl w1.drew D ka K from hk1) hwl hKl
    rw [← hJ] at hjo
    obtain ⟨o, hoo⟩ : ∃ o : Option (List Int), o = some was := ⟨_, rfl⟩
    have hOC : C at' = o := by rw [ho, hoo]
    have hNW : nowK o K = J := by rw [hoo, hJ]; rfl
    have hCG : chgB o K = !decide (was = J) := by rw [hoo, hJ]; rfl
    have hos : o.isSome = true := by rw [hoo]; rfl
    have HSAME := Lib.hid (show was = J → upd C at' (some J) = C from fun e => by
      funext x
      unfold upd
      by_cases hx : x = at'
      · rw [if_pos hx, hx, ho, e]
      · rw [if_neg hx])
    clear hoo ho h1 hly hplA hw1 hy hpc hJ
    have HBX := Lib.hid (show Below w.heap.size w w1.drew from hb1.drew)
    have HY0 := Lib.hid (show w1.drew.cell? ⟨y, 0, none⟩ = some (.int .i64 fn) from y0)
    have HY1 := Lib.hid (show w1.drew.cell? ⟨y, 1, none⟩ = some (.int .i64 pc) from y1)
    have HWS := Lib.hid hws
    have HKL := Lib.hid hKl
    have HJL := Lib.hid hJl
    have HWL := Lib.hid hwl
    have hlk' : (Instr.lookup 90 (.map (some b)) (.agg #[.int .i64 fn, .int .i64 pc]) true).run Tryz.prog w1.drew = .ok (.tuple #[.slice wa was.length wc', .bool true]) w1.drew := hlk
    clear h hB hn hl hk hk1 hCl hb1 hsz1 hws hlk hJl hwl
    have HJO := Lib.hid hjo; clear hjo
    have HOC := Lib.hid hOC; clear hOC
    have HNW := Lib.hid hNW; clear hNW
    have HCG := Lib.hid hCG; clear hCG
    have HOS := Lib.hid hos; clear hos
    go_enter Tryz.func76, Tryz.ntmps76
    go_upto_region 1 with fail
    rw [← HYY.out, ← HW1.out]
    clear j0 j1 j2 j3 j4 j5 j6
    go_cut [7, 8] (fun s7 s8 wx => s7 = .slice wa was.length wc' ∧ s8 = .bool true ∧ wx = w1.drew)
    case first =>
      go_region_law (fail)
      all_goals
        go_wp2_with fail
        go_meet
        exact ⟨rfl, rfl, rfl⟩
    case rest =>
      obtain ⟨rfl, rfl, rfl⟩ := hcut
      clear hlk' k0 k1 k2 k3 k4 k5 k6 y0 y1 hKl
      obtain ⟨wD, hwD⟩ : ∃ wD, wD = w1.drew := ⟨_, rfl⟩
      rw [← hwD] at HBX HY0 HY1 HJO HWS ⊢
      clear hwD HW1
      go_wp2_with fail
      refine HJO.out.mono ?_
      rintro e w2 ⟨v, rfl, ho2, hb2⟩
      obtain ⟨ja, jc, rfl, hjs⟩ := own_int ho2
      have eq := eq_ints w2 _ _ wa ja was J wc' jc (HWS.out.fr (Fr.of_below hb2 (fun _ => False)) (fun _ _ h => h)) hjs (by have := HWL.out; omega) (by have := HJL.out; omega)
      have hb3 := HBX.out.trans (hb2.mono HBX.out.size)
      have y0 := below_cell hb2 HY0.out
      have y1 := below_cell hb2 HY1.out
      have HO2 := Lib.hid ho2
      have HJS := Lib.hid hjs
      clear ho2 hjs hb2 HJO HWS
      by_cases hE : was = J
      · rw [show decide (was = J) = true from by simp [hE]] at eq
        have hu := HSAME.out hE
        have hcg : chgB o K = false := by rw [HCG.out]; simp [hE]
        clear hE HSAME
        have EQ := Lib.hid eq; clear eq
        have HU := Lib.hid hu; clear hu
        have HCG := Lib.hid hcg; clear hcg
        have HB3 := Lib.hid hb3; clear hb3
        go_wp2_with fail
        refine EQ.out.mono ?_
        rintro e w3 ⟨rfl, m3, rfl⟩
        have hh := HH.out.below (below_drewN HB3.out m3)
        have hf := Fr.of_below (below_drewN HB3.out m3) (WF wb b tv)
        have HH2 := Lib.hid hh
        have HF := Lib.hid hf
        clear hh hf
        go_wp2_with fail
        go_end0
        exact ⟨rfl, V, tv, by rw [HOC.out, HNW.out, HCG.out, HU.out, HOS.out, if_pos rfl, if_neg (by decide)]; exact HH2.out, HF.out, fun k hk => .inl hk⟩
      · rw [show decide (was = J) = false from by simp [hE]] at eq
        have hcg : chgB o K = true := by rw [HCG.out]; simp [hE]
        clear hE HSAME
        have HEQ := Lib.hid eq
        have HB3 := Lib.hid hb3
        clear eq HCG hb3
        have HCG := Lib.hid hcg
        clear hcg
        go_wp2_with fail
        refine HEQ.out.mono ?_
        rintro e w3 ⟨rfl, m3, rfl⟩
        obtain ⟨NW, hNN⟩ : ∃ NW : List Int, NW = J := ⟨_, rfl⟩
        have hcl : Calls Tryz.prog 115 #[.slice ja J.length jc] (w2.drewN m3).drew fun e w' => ∃ v, e = .returned v ∧ Own intE w' (w2.drewN m3).drew.heap.size v NW ∧ Below (w2.drewN m3).drew.heap.size (w2.drewN m3).drew w' := by
          rw [hNN]
          exact cloneInts_any (w2.drewN m3).drew _ ja J jc (show IntSl (w2.drewN m3).drew _ ja J from HJS.out) (by have := HJL.out; omega)
        have hnw : nowK o K = NW := by rw [HNW.out, hNN]
        have HBX := Lib.hid (below_drewN HB3.out m3)
        have hcell := fun a v (h : w2.cell? a = some v) => (show (w2.drewN m3).cell? a = some v from h)
        obtain ⟨k0, k1, k2, k3, k4, k5, k6⟩ := (HH.out.below HB3.out).cells rfl
        replace k0 := hcell _ _ k0
        replace k1 := hcell _ _ k1
        replace k2 := hcell _ _ k2
        replace k3 := hcell _ _ k3
        replace k4 := hcell _ _ k4
        replace k5 := hcell _ _ k5
        replace y0 := hcell _ _ y0
        replace y1 := hcell _ _ y1
        have HY0 := Lib.hid (show (w2.drewN m3).drew.cell? ⟨y, 0, none⟩ = some (.int .i64 fn) from y0)
        have HY1 := Lib.hid (show (w2.drewN m3).drew.cell? ⟨y, 1, none⟩ = some (.int .i64 pc) from y1)
        clear k6 HNW hNN hcell
        have HCL := Lib.hid hcl; clear hcl
        have HNW := Lib.hid hnw; clear hnw
        obtain ⟨wE, hwE⟩ : ∃ wE, wE = w2.drewN m3 := ⟨_, rfl⟩
        rw [← hwE] at k0 k1 k2 k3 k4 k5 y0 y1 HCL HBX HY0 HY1 ⊢
        clear hwE HB3 HEQ
        go_upto_region 6 with fail
        go_cut [] (fun wx => ∃ v w2, Below w.heap.size w w2 ∧ Own intE w2 w.heap.size v NW ∧ FlMap wx b (if o.isSome = true then n else n + 1) (fun k => V k ∨ v.ownBlock = some k) (upd C at' (some NW)) ∧ w2.mapTurned wx b)
        case first =>
          go_region_law (first
            | (go_simp
               go_at_call 115
               refine HCL.out.mono ?_
               rintro e w2 ⟨v, rfl, ho2, hb2⟩
               obtain ⟨va, vc, rfl, hvs⟩ := own_int ho2
               have hbx2 := hb2
               have hb2 := HBX.out.drew.trans (hb2.mono HBX.out.size)
               have hk2 : w2.cell? ⟨wb, 4, none⟩ = some (.map (some b)) := below_cell hb2 (HH.out.cells rfl).2.2.2.2.1
               have hk3 : w2.cell? ⟨y, 0, none⟩ = some (.int .i64 fn) := below_cell hbx2 HY0.out
               have hk4 : w2.cell? ⟨y, 1, none⟩ = some (.int .i64 pc) := below_cell hbx2 HY1.out
               have ho2 := ho2.base (B' := w.heap.size) (fun k hk => Nat.le_trans HBX.out.size (ho2.lt hk).1)
               have HO2 := Lib.hid ho2
               have HB2 := Lib.hid hb2
               have HM2 := Lib.hid ((HH.out.below hb2).map.wide (V' := fun k => V k ∨ (Value.slice va NW.length vc).ownBlock = some k) (fun k hk => .inl hk))
               have HVS := Lib.hid (hvs.wide (D' := fun k => V k ∨ (Value.slice va NW.length vc).ownBlock = some k) (fun k hk => .inr hk))
               have HVB := Lib.hid (show ∀ k, (V k ∨ (Value.slice va NW.length vc).ownBlock = some k) → k ≠ b from fun k hk => hk.elim (fun h => (HH.out.vlo k h).2.2.2.1) (fun h => by have := (HO2.out.lt h).1; have := HH.out.map.lt; omega))
               obtain ⟨w3, hrun, hm3, ht3⟩ := HM2.out.put HN.out at' va NW vc HVS.out HVB.out
               rw [HPLA.out] at hrun
               clear ho2 hb2 hvs hbx2))
          all_goals
            clear hrun
            have hoo : (if (C at').isSome then n else n + 1) = if o.isSome = true then n else n + 1 := by rw [HOC.out]
            rw [hoo] at hm3
            have HM3 := Lib.hid hm3
            have HT3 := Lib.hid ht3
            clear hm3 ht3 hoo
            go_wp2_with fail
            go_meet
            exact ⟨_, _, HB2.out, HO2.out, HM3.out, HT3.out⟩
        case rest =>
          obtain ⟨v, w2, hb2, ho2, hm3, ht3⟩ := hcut
          have r3 := (turned_fr ht3).heap ((Fr.of_below hb2 (fun _ => False)).heap HH.out.row (fun h => h)) (fun e => HH.out.bs.2.2.1 e)
          obtain ⟨k0, k1, k2, k3, k4, k5, k6⟩ := HH.out.cells (r3.trans HH.out.row.symm)
          have q3 : Que wc B tv l := (HH.out.que.fr (Fr.of_below hb2 (fun _ => False)) (fun _ _ h => h)).fr (turned_fr ht3) (fun k hk e => HH.out.bs.2.2.2.2 (by rw [← e]; exact hk))
          have hsz : B ≤ wc.heap.size := by have := hb2.size; have := (turned_fr ht3).size; have := HHB.out; omega
          have q4 := q3.fr ((Fr.refl (fun _ => False) wc).alloc (.cells #[.int .i64 pc] 3)) (fun _ _ h => h)
          have hwl := heap_lt r3
          have HB2 := Lib.hid hb2; clear hb2
          have HO2 := Lib.hid ho2; clear ho2
          have HM3 := Lib.hid hm3; clear hm3
          have HT3 := Lib.hid ht3; clear ht3
          have Q3 := Lib.hid q3; clear q3
          have Q4 := Lib.hid q4; clear q4
          have HSZ := Lib.hid hsz; clear hsz
          go_wp2_with (at_builtin; refine wp_que rfl (.tmp 49) (.tmp 51) rfl B l tv rfl Q4.out pc wc.heap.size 1 rfl (cell_new _ _ _ _ 0) HL.out ?c1 ?_)
          case c1 => have := HSZ.out; simp; omega
          intro v5 w5 hq5 hg5 hf5
          obtain ⟨f1, f2, f3⟩ := come_fin HH.out HHB.out HB2.out HO2.out HM3.out HT3.out hg5 hq5 hf5
          have r5 := ((Fr.refl (fun k => tv.ownBlock = some k) wc).alloc (.cells #[.int .i64 pc] 3)).grown hg5 (fun k hk _ => hk) |>.heap r3 HH.out.bs.2.2.2.1
          have k7 : w5.cell? ⟨wb, 5, none⟩ = some tv := (row_cell r5 5).1
          have k8 : w5.frozen? ⟨wb, 5, none⟩ = false := (row_cell r5 5).2
          obtain ⟨va5, vc5, hv5⟩ := hq5.slice
          obtain ⟨ln, hln⟩ : ∃ ln, ln = (l ++ [pc]).length := ⟨_, rfl⟩
          rw [← hln] at hv5
          clear hln
          subst hv5
          clear k0 k1 k2 k3 k4 k5 k6 hq5 hg5 hf5 r3 r5 hwl
          have F1 := Lib.hid f1; clear f1
          have F2 := Lib.hid f2; clear f2
          have F3 := Lib.hid f3; clear f3
          go_wp2_with fail
          go_end0
          exact ⟨rfl, _, _, by rw [HOC.out, HNW.out, HCG.out, if_pos rfl, HPC.out]; exact F1.out, F2.out, F3.out⟩
end Go.Proofs.YtknbllbhakpaaaaGreat
