/- Walks: the reference's bytes of numbers and of instructions. -/
import Derived.Test.YtmmdppjbofbjhaaEqs
import Derived.Test.YtmmdppjbofbjhaaBox
import Derived.Test.YtmmdppjbofbjhaaPlainR
import Derived.Deep.RegionLaw
import Derived.Deep.RegionHeld3
namespace Go.Proofs.Ytmmdppjbofbjhaa
open Go.ChangeShapes Go.WideShapes Go.ChangeAt Go.RowKit

/-- may the reference lay these numbers? -/
def lstOk (l : List Int) : Bool := decide (l.length ≤ 255) && !badB l
def lstRes (l : List Int) : Value := if lstOk l then .tuple #[.string (bytesS (encL l)), .bool true] else .tuple #[.string ⟨#[]⟩, .bool false]
theorem badB_snoc (t : List Int) (x : Int) : badB (t ++ [x]) = (badB t || (decide (x < 0) || decide (255 < x))) := by simp [badB]
theorem lst_no (l : List Int) (k : Nat) (hk : k < l.length) (h : l[k] < 0 ∨ 255 < l[k]) : lstRes l = .tuple #[.string ⟨#[]⟩, .bool false] := by
  have : badB l = true := by
    unfold badB
    rw [List.any_eq_true]
    exact ⟨l[k], List.getElem_mem hk, by simpa using h⟩
  simp [lstRes, lstOk, this]
set_option maxRecDepth 100000 in
set_option maxHeartbeats 1600000 in
theorem rlst_any (w : World) (D : Nat → Prop) (a : Option Addr) (l : List Int) (c : Nat) (hsl : IntSl w D a l) (hn : l.length ≤ 1000000) :
    Calls Try.prog 117 #[.slice a l.length c] w fun e w' => e = .returned (lstRes l) ∧ Below w.heap.size w w' := by
  by_cases h255 : l.length ≤ 255
  case neg =>
    have hr : lstRes l = .tuple #[.string ⟨#[]⟩, .bool false] := by simp [lstRes, lstOk, h255]
    rw [hr]
    clear hr hsl
    go_enter Try.func117, Try.ntmps117
    go_wp2_with fail
    go_ret2
    exact ⟨rfl, Below.refl _ _⟩
  have e256 : (l.length : Int) % 256 = l.length := by omega
  have HE := Lib.hid e256; clear e256
  have HSL := Lib.hid hsl; clear hsl
  go_enter Try.func117, Try.ntmps117
  go_wp2_with fail
  have hown0 : Own u8E (w.alloc (.cells #[.int .u8 (l.length : Int)] 5)) w.heap.size (.slice (some ⟨w.heap.size, 0, none⟩) 1 1) ((l.length : Int) :: l.take 0) :=
    own_new u8E w [(l.length : Int)] _ rfl (by unfold maxLen; simp)
  have HO0 := Lib.hid hown0; clear hown0
  go_loopw [4, 5] (fun v i wr => ∃ k : Nat, k ≤ l.length ∧ i = .int .i64 k ∧ Own u8E wr w.heap.size v ((l.length : Int) :: l.take k) ∧ Below w.heap.size w wr ∧ badB (l.take k) = false) (fun _ i _ => l.length - (intOf i).toNat)
  case atStart => exact ⟨0, Nat.zero_le _, rfl, HO0.out, (Below.refl _ _).alloc (Nat.le_refl _) _, rfl⟩
  case round =>
    obtain ⟨k, hk, rfl, hown, hB, hbad⟩ := hrel
    by_cases hlt : k < l.length
    · obtain ⟨b, o, rfl, _, hx⟩ := HSL.out k hlt
      have hx := below_cell hB hx
      have hno := lst_no l k hlt
      have hsn := take_snoc l k hlt
      have hbs := badB_snoc (l.take k) l[k]
      generalize l[k] = x at *
      have HNO := Lib.hid hno; clear hno
      have HSN := Lib.hid hsn; clear hsn
      have HBS := Lib.hid hbs; clear hbs
      have HOWN := Lib.hid hown; clear hown
      have HB := Lib.hid hB; clear hB
      have HBAD := Lib.hid hbad; clear hbad
      by_cases hx0 : x < 0
      · go_wp2_with fail
        go_ret2
        exact ⟨by rw [HNO.out (.inl hx0)]; rfl, HB.out⟩
      by_cases hx1 : 255 < x
      · go_wp2_with fail
        go_ret2
        exact ⟨by rw [HNO.out (.inr hx1)]; rfl, HB.out⟩
      have hx2 : 0 ≤ x := by omega
      have hx3 : x ≤ 255 := by omega
      have hx4 : x % 256 = x := by omega
      have HX4 := Lib.hid hx4; clear hx4
      clear hx0 hx1
      go_wp2_with (at_builtin; refine append_own u8E rfl (.tmp 31) (.tmp 37) rfl w.heap.size ((l.length : Int) :: l.take k) [x] _ rfl (HOWN.out.alloc _) wr.heap.size 0 1 rfl (CellsAt.new _ _ _ _) ?c1 ?c2 ?_)
      case c1 => simp; omega
      case c2 => have := HB.out.size; simp; omega
      intro v2 w2 hown2 hg2
      have hB2 := Lib.hid (below_grown (HB.out.alloc HB.out.size _) (HOWN.out.alloc _) hg2 (by have := HB.out.size; simp; omega) (Nat.le_refl _))
      have HO2 := Lib.hid hown2; clear hown2
      clear hg2 hx
      go_wp2_with fail
      go_roundw
      case rel =>
        refine ⟨k + 1, by omega, by go_num, ?_, hB2.out, ?_⟩
        · rw [HSN.out]; exact HO2.out
        · rw [HSN.out, HBS.out, HBAD.out]; simp; omega
      case measure => simp [intOf]; omega
    · have hk' : k = l.length := by omega
      subst hk'
      rw [List.take_length] at hown hbad
      have hcv := own_str hown
      have hres : lstRes l = .tuple #[.string (bytesS ((l.length : Int) :: l)), .bool true] := by simp [lstRes, lstOk, hbad, h255, encL]
      have HR := Lib.hid hres
      have HB := Lib.hid hB
      clear hres hB hown hbad
      go_wp2_with fail
      go_ret2
      exact ⟨by rw [HR.out]; rfl, HB.out⟩

theorem step_append_str {ops : Array Oper} {o : Oper} {a : Act} {w : World} {K : Act → World → Prop} {Q : Exit → Act → World → Prop} {F : Prop} (hgd : o.guard = none) (sl x : Operand)
    (ho : o.op = .call { callee := .builtin .append, args := #[sl, x], argTypes := #[29, 9] })
    (B : Nat) (l : List Int) (v : Value) (hs : a.eval sl = v) (hown : Own u8E w B v l) (s : ByteArray) (hx : a.eval x = .string s)
    (hlen : l.length + s.size ≤ 100000000) (hB : B ≤ w.heap.size)
    (h : ∀ v' w', Own u8E w' B v' (l ++ strInts s) → w.grownBy w' v.ownBlock → Fresh w v v' → K (a.put o.dst v') w') : if Region.wanted o (yielded ops a.tmps) = true then Oper.wp Try.prog o a w K Q else F := by
  have hw : Region.wanted o (yielded ops a.tmps) = true := by simp [Region.wanted, hgd]
  rw [if_pos hw]
  obtain ⟨v', w', hr, h2, h3, h4⟩ := run_append_str w o.type B l v hown s hlen hB
  unfold Oper.wp execOp
  simp only [ho, resolve, invoke, builtin, Sem.run_bind, Sem.run_pure, Result.andThen_ok, List.map_toArray, List.map_cons, List.map_nil, hs, hx, hr]
  exact h v' w' h2 h3 h4
theorem bytes4_ints (v : Int) : strInts (bytes4 v) = [byteOf v 0, byteOf v 1, byteOf v 2, byteOf v 3] ∧ (bytes4 v).size = 4 := by
  have h : ∀ k, 0 ≤ byteOf v k ∧ byteOf v k < 256 := fun k => by unfold byteOf; omega
  refine ⟨strInts_bytesS _ (fun x hx => ?_), bytesS_size _⟩
  simp at hx
  rcases hx with rfl | rfl | rfl | rfl <;> exact h _
def rlcRes (l : List Ins) : Value := if laid l then .tuple #[.string (bytesS (layL l)), .bool true] else .tuple #[.string ⟨#[]⟩, .bool false]
theorem rlcRes_no (l : List Ins) (k : Nat) (hk : k < l.length) (h : rightB l[k] = false) : rlcRes l = .tuple #[.string ⟨#[]⟩, .bool false] := by
  have : laid l = false := by
    unfold laid
    rw [List.all_eq_false]
    exact ⟨l[k], List.getElem_mem hk, by simp [h]⟩
  simp [rlcRes, this]
set_option maxRecDepth 100000 in
set_option maxHeartbeats 4000000 in
theorem rlayCode_any (l : List Ins) (a : Option Addr) (c : Nat) (w : World) (hl : l.length ≤ 100000) (hc : InsSl w a l) :
    Calls Try.prog 37 #[.slice a l.length c] w fun e w' => e = .returned (rlcRes l) ∧ Below w.heap.size w w' := by
  have HC := Lib.hid hc; clear hc
  go_enter Try.func37, Try.ntmps37
  go_wp2_with fail
  go_loopw [4, 5] (fun v i wr => ∃ k : Nat, k ≤ l.length ∧ i = .int .i64 k ∧ Own u8E wr w.heap.size v (layL (l.take k)) ∧ Below w.heap.size w wr ∧ laid (l.take k) = true) (fun _ i _ => l.length - (intOf i).toNat)
  case atStart => exact ⟨0, Nat.zero_le _, rfl, Own.nil _ _ _, Below.refl _ _, rfl⟩
  case round =>
    obtain ⟨k, hk, rfl, hown, hB, hlaid⟩ := hrel
    by_cases hlt : k < l.length
    · have hx := HC.out.below hB k hlt
      obtain ⟨b, o, rfl, hx0, hx1, hx2, hx3⟩ := hx
      have hno := rlcRes_no l k hlt
      have hsn := take_snoc l k hlt
      have hll : (layL (l.take k)).length = 7 * k := by rw [layL_len, List.length_take]; omega
      generalize l[k] = x at *
      obtain ⟨xop, xa, xb, xc⟩ := x
      dsimp only at hx0 hx1 hx2 hx3
      have kn := fun w => rknown_any w xop
      unfold RKnownSaid at kn
      have o1 := rof_any xb
      have un := unused_any ⟨xop, xa, xb, xc⟩
      have un : ∀ w, Calls Try.prog 89 #[.agg #[.int .i64 xop, .int .i64 xa, .int .i64 xb, .int .i64 xc]] w fun e w' => e = .returned (.bool (unusedB ⟨xop, xa, xb, xc⟩)) ∧ Below w.heap.size w w' := un
      have hr : rightB ⟨xop, xa, xb, xc⟩ = (knownS xop && decide (0 ≤ xa) && decide (xa ≤ 255) && decide (0 ≤ xc) && decide (xc ≤ 255) && decide (wrap32 xb = xb) && unusedB ⟨xop, xa, xb, xc⟩) := rfl
      rw [hr] at hno
      have q0 : ∀ W : BelowW (wr.alloc (.cells #[.int .i64 xop, .int .i64 xa, .int .i64 xb, .int .i64 xc] 58)), W.val.cell? ⟨wr.heap.size, 0, none⟩ = some (.int .i64 xop) := fun W => W.cell (cell_new ..)
      have q1 : ∀ W : BelowW (wr.alloc (.cells #[.int .i64 xop, .int .i64 xa, .int .i64 xb, .int .i64 xc] 58)), W.val.cell? ⟨wr.heap.size, 1, none⟩ = some (.int .i64 xa) := fun W => W.cell (cell_new ..)
      have q2 : ∀ W : BelowW (wr.alloc (.cells #[.int .i64 xop, .int .i64 xa, .int .i64 xb, .int .i64 xc] 58)), W.val.cell? ⟨wr.heap.size, 2, none⟩ = some (.int .i64 xb) := fun W => W.cell (cell_new ..)
      have q3 : ∀ W : BelowW (wr.alloc (.cells #[.int .i64 xop, .int .i64 xa, .int .i64 xb, .int .i64 xc] 58)), W.val.cell? ⟨wr.heap.size, 3, none⟩ = some (.int .i64 xc) := fun W => W.cell (cell_new ..)
      have hB4 := w32_bd xb
      have rb := rbytes_any xb
      generalize hu : unusedB ⟨xop, xa, xb, xc⟩ = ub at *
      generalize hwb : wrap32 xb = b' at *
      generalize hkn : knownS xop = kn0 at *
      have HU := Lib.hid hu; have HWB := Lib.hid hwb; have HKN := Lib.hid hkn
      have OF := Lib.hid o1; have UN := Lib.hid un; have KN := Lib.hid kn
      clear hu hwb hkn o1 un kn
      have HNO := Lib.hid hno; clear hno
      have HSN := Lib.hid hsn; clear hsn
      have HLL := Lib.hid hll; clear hll
      have HOWN := Lib.hid hown; clear hown
      have HB := Lib.hid hB; clear hB
      have HLAID := Lib.hid hlaid; clear hlaid
      have HR := Lib.hid hr; clear hr
      have RB := Lib.hid rb; clear rb
      cases kn0
      · skip
        have hno := HNO.out (by first | (simp [*]; done) | (simp; intros; omega))
        have HNO2 := Lib.hid hno
        clear hno
        go_wp2_with fail
        refine wp_region_below (by kernel_rfl) (by kernel_rfl) ?_
        repeat (go_big_quiet_step (first | (go_at_call 44; exact Calls.below_same ((KN.out _).mono fun _ _ ⟨a, b⟩ => ⟨a, b⟩)) | (go_at_call 26; exact Calls.below_same ((OF.out _).mono fun _ _ ⟨a, b⟩ => ⟨a, b⟩)) | (go_at_call 89; exact Calls.below_of (UN.out _))))
        refine wpQuiet_nil ?_
        rintro _ ⟨W2, rfl⟩
        have HB2 := Lib.hid ((HB.out.alloc HB.out.size (.cells #[.int .i64 xop, .int .i64 xa, .int .i64 xb, .int .i64 xc] 58)).trans (W2.2.mono (by have := HB.out.size; simp; omega)))
        go_wp2_with fail
        go_ret2
        exact ⟨by rw [HNO2.out]; rfl, HB2.out⟩
      by_cases h1 : xa < 0
      · skip
        have hno := HNO.out (by first | (simp [*]; done) | (simp; intros; omega))
        have HNO2 := Lib.hid hno
        clear hno
        go_wp2_with fail
        refine wp_region_below (by kernel_rfl) (by kernel_rfl) ?_
        repeat (go_big_quiet_step (first | (go_at_call 44; exact Calls.below_same ((KN.out _).mono fun _ _ ⟨a, b⟩ => ⟨a, b⟩)) | (go_at_call 26; exact Calls.below_same ((OF.out _).mono fun _ _ ⟨a, b⟩ => ⟨a, b⟩)) | (go_at_call 89; exact Calls.below_of (UN.out _))))
        refine wpQuiet_nil ?_
        rintro _ ⟨W2, rfl⟩
        have HB2 := Lib.hid ((HB.out.alloc HB.out.size (.cells #[.int .i64 xop, .int .i64 xa, .int .i64 xb, .int .i64 xc] 58)).trans (W2.2.mono (by have := HB.out.size; simp; omega)))
        go_wp2_with fail
        go_ret2
        exact ⟨by rw [HNO2.out]; rfl, HB2.out⟩
      have h1' : decide (xa < 0) = false := by simpa using h1
      by_cases h2 : 255 < xa
      · skip
        have hno := HNO.out (by first | (simp [*]; done) | (simp; intros; omega))
        have HNO2 := Lib.hid hno
        clear hno
        go_wp2_with fail
        refine wp_region_below (by kernel_rfl) (by kernel_rfl) ?_
        repeat (go_big_quiet_step (first | (go_at_call 44; exact Calls.below_same ((KN.out _).mono fun _ _ ⟨a, b⟩ => ⟨a, b⟩)) | (go_at_call 26; exact Calls.below_same ((OF.out _).mono fun _ _ ⟨a, b⟩ => ⟨a, b⟩)) | (go_at_call 89; exact Calls.below_of (UN.out _))))
        refine wpQuiet_nil ?_
        rintro _ ⟨W2, rfl⟩
        have HB2 := Lib.hid ((HB.out.alloc HB.out.size (.cells #[.int .i64 xop, .int .i64 xa, .int .i64 xb, .int .i64 xc] 58)).trans (W2.2.mono (by have := HB.out.size; simp; omega)))
        go_wp2_with fail
        go_ret2
        exact ⟨by rw [HNO2.out]; rfl, HB2.out⟩
      have h2' : decide (255 < xa) = false := by simpa using h2
      by_cases h3 : xc < 0
      · skip
        have hno := HNO.out (by first | (simp [*]; done) | (simp; intros; omega))
        have HNO2 := Lib.hid hno
        clear hno
        go_wp2_with fail
        refine wp_region_below (by kernel_rfl) (by kernel_rfl) ?_
        repeat (go_big_quiet_step (first | (go_at_call 44; exact Calls.below_same ((KN.out _).mono fun _ _ ⟨a, b⟩ => ⟨a, b⟩)) | (go_at_call 26; exact Calls.below_same ((OF.out _).mono fun _ _ ⟨a, b⟩ => ⟨a, b⟩)) | (go_at_call 89; exact Calls.below_of (UN.out _))))
        refine wpQuiet_nil ?_
        rintro _ ⟨W2, rfl⟩
        have HB2 := Lib.hid ((HB.out.alloc HB.out.size (.cells #[.int .i64 xop, .int .i64 xa, .int .i64 xb, .int .i64 xc] 58)).trans (W2.2.mono (by have := HB.out.size; simp; omega)))
        go_wp2_with fail
        go_ret2
        exact ⟨by rw [HNO2.out]; rfl, HB2.out⟩
      have h3' : decide (xc < 0) = false := by simpa using h3
      by_cases h4 : 255 < xc
      · skip
        have hno := HNO.out (by first | (simp [*]; done) | (simp; intros; omega))
        have HNO2 := Lib.hid hno
        clear hno
        go_wp2_with fail
        refine wp_region_below (by kernel_rfl) (by kernel_rfl) ?_
        repeat (go_big_quiet_step (first | (go_at_call 44; exact Calls.below_same ((KN.out _).mono fun _ _ ⟨a, b⟩ => ⟨a, b⟩)) | (go_at_call 26; exact Calls.below_same ((OF.out _).mono fun _ _ ⟨a, b⟩ => ⟨a, b⟩)) | (go_at_call 89; exact Calls.below_of (UN.out _))))
        refine wpQuiet_nil ?_
        rintro _ ⟨W2, rfl⟩
        have HB2 := Lib.hid ((HB.out.alloc HB.out.size (.cells #[.int .i64 xop, .int .i64 xa, .int .i64 xb, .int .i64 xc] 58)).trans (W2.2.mono (by have := HB.out.size; simp; omega)))
        go_wp2_with fail
        go_ret2
        exact ⟨by rw [HNO2.out]; rfl, HB2.out⟩
      have h4' : decide (255 < xc) = false := by simpa using h4
      by_cases h5 : b' = xb
      case neg =>
        have h5' : (b' != xb) = true := by simpa using h5
        have hno := HNO.out (by first | (simp [*]; done) | (simp; intros; omega))
        have HNO2 := Lib.hid hno
        clear hno
        go_wp2_with fail
        refine wp_region_below (by kernel_rfl) (by kernel_rfl) ?_
        repeat (go_big_quiet_step (first | (go_at_call 44; exact Calls.below_same ((KN.out _).mono fun _ _ ⟨a, b⟩ => ⟨a, b⟩)) | (go_at_call 26; exact Calls.below_same ((OF.out _).mono fun _ _ ⟨a, b⟩ => ⟨a, b⟩)) | (go_at_call 89; exact Calls.below_of (UN.out _))))
        refine wpQuiet_nil ?_
        rintro _ ⟨W2, rfl⟩
        have HB2 := Lib.hid ((HB.out.alloc HB.out.size (.cells #[.int .i64 xop, .int .i64 xa, .int .i64 xb, .int .i64 xc] 58)).trans (W2.2.mono (by have := HB.out.size; simp; omega)))
        go_wp2_with fail
        go_ret2
        exact ⟨by rw [HNO2.out]; rfl, HB2.out⟩
      have h5 := h5.symm
      subst h5
      cases ub
      · skip
        have hno := HNO.out (by first | (simp [*]; done) | (simp; intros; omega))
        have HNO2 := Lib.hid hno
        clear hno
        go_wp2_with fail
        refine wp_region_below (by kernel_rfl) (by kernel_rfl) ?_
        repeat (go_big_quiet_step (first | (go_at_call 44; exact Calls.below_same ((KN.out _).mono fun _ _ ⟨a, b⟩ => ⟨a, b⟩)) | (go_at_call 26; exact Calls.below_same ((OF.out _).mono fun _ _ ⟨a, b⟩ => ⟨a, b⟩)) | (go_at_call 89; exact Calls.below_of (UN.out _))))
        refine wpQuiet_nil ?_
        rintro _ ⟨W2, rfl⟩
        have HB2 := Lib.hid ((HB.out.alloc HB.out.size (.cells #[.int .i64 xop, .int .i64 xa, .int .i64 xb, .int .i64 xc] 58)).trans (W2.2.mono (by have := HB.out.size; simp; omega)))
        go_wp2_with fail
        go_ret2
        exact ⟨by rw [HNO2.out]; rfl, HB2.out⟩
      go_wp2_with fail
      refine wp_region_below (by kernel_rfl) (by kernel_rfl) ?_
      repeat (go_big_quiet_step (first | (go_at_call 44; exact Calls.below_same ((KN.out _).mono fun _ _ ⟨a, b⟩ => ⟨a, b⟩)) | (go_at_call 26; exact Calls.below_same ((OF.out _).mono fun _ _ ⟨a, b⟩ => ⟨a, b⟩)) | (go_at_call 89; exact Calls.below_of (UN.out _))))
      refine wpQuiet_nil ?_
      rintro _ ⟨W2, rfl⟩
      have HB2 := Lib.hid ((HB.out.alloc HB.out.size (.cells #[.int .i64 xop, .int .i64 xa, .int .i64 xb, .int .i64 xc] 58)).trans (W2.2.mono (by have := HB.out.size; simp; omega)))
      have hown2 : Own u8E W2.val w.heap.size _ (layL (l.take k)) := Own.below (HOWN.out.alloc (.cells #[.int .i64 xop, .int .i64 xa, .int .i64 xb, .int .i64 xc] 58)) W2.2
      have k0 := q0 W2
      have k1 := q1 W2
      have k2 := q2 W2
      have k3 := q3 W2
      have hlt2 : wr.heap.size < W2.val.heap.size := World.block_lt k0
      generalize W2.val = w2 at *
      have hin : 0 ≤ xa ∧ xa ≤ 255 ∧ 0 ≤ xc ∧ xc ≤ 255 := by omega
      have HIN := Lib.hid hin; clear hin
      clear q0 q1 q2 q3 hx0 hx1 hx2 hx3 h1 h1' h2 h2' h3 h3' h4 h4'
      have b4 := bytes4_ints xb
      have HOWN2 := Lib.hid hown2; clear hown2
      have B4 := Lib.hid b4; clear b4
      go_wp2_with fail
      go_region_held3 (fun w' => w'.cell? ⟨wr.heap.size, 0, none⟩ = some (.int .i64 xop) ∧ w'.cell? ⟨wr.heap.size, 1, none⟩ = some (.int .i64 xa) ∧ w'.cell? ⟨wr.heap.size, 2, none⟩ = some (.int .i64 xb) ∧ w'.cell? ⟨wr.heap.size, 3, none⟩ = some (.int .i64 xc)) (first | go_keep | exact ⟨kk0, kk1, kk2, kk3⟩) (first | (refine step_append_fresh u8E rfl (.tmp 54) (.tmp 64) rfl w.heap.size (layL (l.take k)) [xop % 256, xa % 256, xc % 256] _ rfl (HOWN2.out.drew.alloc _) w2.heap.size 0 3 rfl (CellsAt.new _ _ _ _) (by have := HLL.out; simp; omega) (by have := HB2.out.size; simp; omega) ?_; intro v3 w3 hown3 hg3 hf3; have kk0 := cell_grown hg3 ((cell_under _ _ hlt2).trans k0) (fun e => absurd (World.ownsRow.lt HOWN.out _ e).2 (Nat.lt_irrefl _)); have kk1 := cell_grown hg3 ((cell_under _ _ hlt2).trans k1) (fun e => absurd (World.ownsRow.lt HOWN.out _ e).2 (Nat.lt_irrefl _)); have kk2 := cell_grown hg3 ((cell_under _ _ hlt2).trans k2) (fun e => absurd (World.ownsRow.lt HOWN.out _ e).2 (Nat.lt_irrefl _)); have kk3 := cell_grown hg3 ((cell_under _ _ hlt2).trans k3) (fun e => absurd (World.ownsRow.lt HOWN.out _ e).2 (Nat.lt_irrefl _))) | (refine step_append_str rfl (.tmp 65) (.tmp 68) rfl w.heap.size (layL (l.take k) ++ [xop % 256, xa % 256, xc % 256]) _ rfl (hown3.alloc _) (bytes4 xb) rfl (by rw [B4.out.2]; have := HLL.out; simp; omega) (by have := HB2.out.size; have := hg3.size; simp at *; omega) ?_; intro v5 w5 hown5 hg5 hf5; have kk0 := cell_grown hg5 ((cell_under _ _ (World.block_lt kk0)).trans kk0) (fun e => (hf3 _ e).elim (fun e => absurd (World.ownsRow.lt HOWN.out _ e).2 (Nat.lt_irrefl _)) (fun h => by simp at h; omega)); have kk1 := cell_grown hg5 ((cell_under _ _ (World.block_lt kk1)).trans kk1) (fun e => (hf3 _ e).elim (fun e => absurd (World.ownsRow.lt HOWN.out _ e).2 (Nat.lt_irrefl _)) (fun h => by simp at h; omega)); have kk2 := cell_grown hg5 ((cell_under _ _ (World.block_lt kk2)).trans kk2) (fun e => (hf3 _ e).elim (fun e => absurd (World.ownsRow.lt HOWN.out _ e).2 (Nat.lt_irrefl _)) (fun h => by simp at h; omega)); have kk3 := cell_grown hg5 ((cell_under _ _ (World.block_lt kk3)).trans kk3) (fun e => (hf3 _ e).elim (fun e => absurd (World.ownsRow.lt HOWN.out _ e).2 (Nat.lt_irrefl _)) (fun h => by simp at h; omega))) | (go_at_call 32; refine (RB.out _).mono ?_; rintro e w4 ⟨rfl, rfl⟩))
      have hB3 := below_grown ((HB2.out.drew).alloc HB2.out.size _) (HOWN2.out.drew.alloc _) hg3 (by have := HB2.out.size; simp; omega) (Nat.le_refl _)
      have hB5 := below_grown (hB3.alloc hB3.size _) (hown3.alloc _) hg5 (by have := hB3.size; simp; omega) (Nat.le_refl _)
      rw [B4.out.1] at hown5
      have HB5 := Lib.hid hB5; clear hB5
      have HOWN5 := Lib.hid hown5; clear hown5
      clear hB3 hown3 hg3 hg5 hf3 hf5 k0 k1 k2 k3
      go_wp2_with fail
      go_roundw
      case rel =>
        refine ⟨k + 1, by omega, by go_num, ?_, HB5.out, ?_⟩
        · rw [HSN.out, layL_snoc]
          have h := HOWN5.out
          rw [List.append_assoc] at h
          exact h
        · rw [HSN.out, laid_snoc, HLAID.out, HR.out]; have := HIN.out; simp; omega
      case measure => simp [intOf]; omega
    · have hk' : k = l.length := by omega
      subst hk'
      rw [List.take_length] at hown hlaid
      have hcv := own_str hown
      have hres : rlcRes l = .tuple #[.string (bytesS (layL l)), .bool true] := by simp [rlcRes, hlaid]
      have HR := Lib.hid hres
      have HB := Lib.hid hB
      clear hres hB hown hlaid
      go_wp2_with fail
      go_ret2
      exact ⟨by rw [HR.out]; rfl, HB.out⟩
end Go.Proofs.Ytmmdppjbofbjhaa
