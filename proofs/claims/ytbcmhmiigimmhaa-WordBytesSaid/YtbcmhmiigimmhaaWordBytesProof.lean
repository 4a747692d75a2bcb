/- Every number's bytes, and back; every bytes' number, or none. No condition: for every input. -/
import Derived.Test.YtbcmhmiigimmhaaWordC
import Derived.Test.YtbcmhmiigimmhaaLaw
import Derived.Test.YtbcmhmiigimmhaaRegion
import Derived.Laws.IdiomStrings
namespace Go.Proofs.Ytbcmhmiigimmhaa.wordBytes
open Go.ChangeShapes Go.WideShapes Go.ChangeAt Go.RowKit

theorem read_bytes (v : Int) : readV (byteOf v 0) (byteOf v 1) (byteOf v 2) (byteOf v 3) = wrap32 v := by
  unfold readV byteOf
  unfold wrap32
  omega
theorem rword_any (s : ByteArray) (h4 : s.size = 4) (w : World) :
    Calls Try.prog 20 #[.string s] w fun e w' => e = .returned (.int .i64 (readV (s[0].toNat) (s[1].toNat) (s[2].toNat) (s[3].toNat))) ∧ ∃ n, w' = w.drewN n := by
  have b0 := s[0].toNat_lt
  have b1 := s[1].toNat_lt
  have b2 := s[2].toNat_lt
  have b3 := s[3].toNat_lt
  have l0 : 0 < s.size := by omega
  have l1 : 1 < s.size := by omega
  have l2 : 2 < s.size := by omega
  have l3 : 3 < s.size := by omega
  have h4 := Lib.hid h4
  go_enter Try.func20, Try.ntmps20
  go_wp2_with fail
  go_quiet ((go_at_call 13; exact Calls.quiet_of_same ((rof_any _ _).mono fun _ _ ⟨a, b⟩ => ⟨a, b.symm⟩)))
  go_wp2
  go_ret
  exact ⟨rfl, nq, rfl⟩

theorem bytesRow_get (s : ByteArray) (cap j : Nat) (h : j < s.size) : (bytesRow s cap)[j]? = some (.int .u8 (s[j]).toNat) := by
  unfold bytesRow
  rw [Array.getElem?_append_left (by simpa using h)]
  simp [h]
  rfl

set_option maxHeartbeats 1600000 in
theorem walk (v : Int) (_ : (Lit.int .i64 v).wf = true) (b : ByteArray) (hb : b.size ≤ maxLen) (w : World) :
    Calls Try.prog 8 #[.int .i64 v, .string b] w fun e w' => e = .returned (.bool true) ∧ Below w.heap.size w w' := by
  unfold maxLen at hb
  have al := alive2
  by_cases h20 : 20 < b.size
  · skip
    have AL := Lib.hid al; clear al
    go_enter Try.func8, Try.ntmps8
    go_wp2_with fail
    refine (AL.out _).mono ?_; rintro e w' ⟨rfl, rfl⟩
    go_wp2_with fail
    go_ret
    exact ⟨rfl, Below.refl _ _⟩
  have p1 := bytes_any v
  rw [laid_4] at p1
  have cv := fun w => run_bytes_of_string (P := Try.prog) w 9 29 5 b Try.underlying9 Try.underlying29 Try.underlying5
  have p2 := rbytes_any v
  have o1 := rof_any v
  have cs := fun (w : World) (b : Nat) (h : ∀ j u, ([byteOf v 0, byteOf v 1, byteOf v 2, byteOf v 3].map (Value.int .u8))[j]? = some u → w.cell? ((⟨b, 0, none⟩ : Addr).add j) = some u) =>
    show (convert 29 9 (.slice (some ⟨b, 0, none⟩) 4 4)).run Try.prog w = .ok (.string (bytesS [byteOf v 0, byteOf v 1, byteOf v 2, byteOf v 3])) w from run_str (P := Try.prog) w 29 9 5 ⟨b, 0, none⟩ 4 [byteOf v 0, byteOf v 1, byteOf v 2, byteOf v 3] Try.underlying29 Try.underlying5 Try.underlying9 h
  have rb : 0 ≤ byteOf v 0 ∧ byteOf v 0 < 256 ∧ 0 ≤ byteOf v 1 ∧ byteOf v 1 < 256 ∧ 0 ≤ byteOf v 2 ∧ byteOf v 2 < 256 ∧ 0 ≤ byteOf v 3 ∧ byteOf v 3 < 256 := by
    unfold byteOf; omega
  have ra := fun w b => read_any b 0 4 4 w (byteOf v 0) (byteOf v 1) (byteOf v 2) (byteOf v 3) (by omega) (by omega) rb
  rw [read_bytes] at ra
  have hd4 : bytes4 v = bytesS [byteOf v 0, byteOf v 1, byteOf v 2, byteOf v 3] := rfl
  rw [hd4] at p2
  clear hd4 rb
  generalize byteOf v 0 = y0 at *
  generalize byteOf v 1 = y1 at *
  generalize byteOf v 2 = y2 at *
  generalize byteOf v 3 = y3 at *
  generalize hs4 : bytesS [y0, y1, y2, y3] = s4 at *
  clear hs4
  generalize wrap32 v = vv at *
  have mid : ∀ w : World, ∃ c W1, (convert 9 29 (.string b)).run Try.prog (w.alloc (.cells #[.int .u8 y0, .int .u8 y1, .int .u8 y2, .int .u8 y3] 5)) = .ok (.slice (some ⟨w.heap.size + 1, 0, none⟩) b.size c) W1
      ∧ Below w.heap.size w W1 ∧ (∀ j u, ([y0, y1, y2, y3].map (Value.int .u8))[j]? = some u → W1.cell? ((⟨w.heap.size, 0, none⟩ : Addr).add j) = some u)
      ∧ (∀ j (h : j < b.size), W1.cell? ⟨w.heap.size + 1, j, none⟩ = some (.int .u8 (b[j]).toNat)) ∧ w.heap.size + 1 < W1.heap.size := by
    intro w
    have hcv := cv (w.alloc (.cells #[.int .u8 y0, .int .u8 y1, .int .u8 y2, .int .u8 y3] 5))
    rw [show (w.alloc (.cells #[.int .u8 y0, .int .u8 y1, .int .u8 y2, .int .u8 y3] 5)).heap.size = w.heap.size + 1 from by simp] at hcv
    refine ⟨_, _, hcv, ?_, ?_, ?_, ?_⟩
    · exact (((Below.refl _ _).alloc (Nat.le_refl _) _).drew).alloc (by simp) _
    · intro j u hj
      have hlt : w.heap.size < (w.alloc (.cells #[.int .u8 y0, .int .u8 y1, .int .u8 y2, .int .u8 y3] 5)).heap.size := by simp
      match j, hj with
      | 0, hv => show World.cell? _ ⟨w.heap.size, 0, none⟩ = _; rw [cell_under _ _ hlt]; show (w.alloc _).cell? _ = _; rw [cell_new]; exact hv
      | 1, hv => show World.cell? _ ⟨w.heap.size, 1, none⟩ = _; rw [cell_under _ _ hlt]; show (w.alloc _).cell? _ = _; rw [cell_new]; exact hv
      | 2, hv => show World.cell? _ ⟨w.heap.size, 2, none⟩ = _; rw [cell_under _ _ hlt]; show (w.alloc _).cell? _ = _; rw [cell_new]; exact hv
      | 3, hv => show World.cell? _ ⟨w.heap.size, 3, none⟩ = _; rw [cell_under _ _ hlt]; show (w.alloc _).cell? _ = _; rw [cell_new]; exact hv
    · intro j h
      have e : w.heap.size + 1 = ((w.alloc (.cells #[.int .u8 y0, .int .u8 y1, .int .u8 y2, .int .u8 y3] 5)).drew).heap.size := by simp
      rw [e, cell_new]
      exact bytesRow_get b _ j h
    · simp
  clear cv
  obtain ⟨c, W1, cv, hB, hy, hbs, hsz⟩ := mid w
  clear mid
  have hy' := hy
  have cs1 := fun W : BelowW W1 => cs W.val w.heap.size (fun j u hj => W.cell (hy j u hj))
  have p2' : ∀ W : World, Calls Try.prog 19 #[.int .i64 v] W fun e w' => e = .returned (.string s4) ∧ Below W.heap.size W w' :=
    fun W => (p2 W).mono fun _ _ ⟨he, hw⟩ => ⟨he, by rw [hw]; exact (Below.refl _ _).alloc (Nat.le_refl _) _⟩
  clear p2
  have ra1 := ra W1 w.heap.size (hy 0 _ rfl) (hy 1 _ rfl) (hy 2 _ rfl) (hy 3 _ rfl)
  clear cs ra hy hy'
  have HB := Lib.hid hB; clear hB
  by_cases h4 : b.size < 4
  · have hd : decide ((4 : Int) ≤ b.size) = false := by simp; omega
    have rs := fun w a c => read_short a b.size c w h4
    clear hbs
    have AL := Lib.hid al; clear al
    have P1 := Lib.hid p1; clear p1
    have RS := Lib.hid rs; clear rs
    have P2' := Lib.hid p2'; clear p2'
    have O1 := Lib.hid o1; clear o1
    have RA1 := Lib.hid ra1; clear ra1
    go_enter Try.func8, Try.ntmps8
    go_wp2_with fail
    refine (AL.out _).mono ?_; rintro e w' ⟨rfl, rfl⟩
    go_wp2_with fail
    refine (P1.out _).mono ?_; rintro e w1 ⟨rfl, rfl⟩
    go_wp2_with fail
    refine (RS.out _ _ _).mono ?_; rintro e w1 ⟨rfl, rfl⟩
    go_wp2_with fail
    refine RA1.out.mono ?_; rintro e w1 ⟨rfl, rfl⟩
    go_wp2_with fail
    refine wp_region_below (by kernel_rfl) (by kernel_rfl) ?_
    repeat (go_big_quiet_step (first | (go_at_call 19; exact Calls.below_of (P2'.out _)) | (go_at_call 13; exact Calls.below_same (O1.out _))))
    refine wpQuiet_nil ?_
    rintro _ ⟨W2, rfl⟩
    have HB2 := Lib.hid (HB.out.trans (W2.2.mono HB.out.size))
    go_wp2
    go_ret
    exact ⟨rfl, HB2.out⟩
  · have h4' : 4 ≤ b.size := by omega
    have hd : decide ((4 : Int) ≤ b.size) = true := by simp; omega
    have t0 := b[0].toNat_lt
    have t1 := b[1].toNat_lt
    have t2 := b[2].toNat_lt
    have t3 := b[3].toNat_lt
    have rs := read_any (w.heap.size + 1) 0 b.size c W1 b[0].toNat b[1].toNat b[2].toNat b[3].toNat h4' (by omega) (by omega) (hbs 0 (by omega)) (hbs 1 (by omega)) (hbs 2 (by omega)) (hbs 3 (by omega))
    have hx4 : (b.extract 0 4).size = 4 := by simp; omega
    have rw4 := rword_any (b.extract 0 4) hx4
    have e0 : (b.extract 0 4)[0]'(by omega) = b[0] := by simp [ByteArray.getElem_extract]
    have e1 : (b.extract 0 4)[1]'(by omega) = b[1] := by simp [ByteArray.getElem_extract]
    have e2 : (b.extract 0 4)[2]'(by omega) = b[2] := by simp [ByteArray.getElem_extract]
    have e3 : (b.extract 0 4)[3]'(by omega) = b[3] := by simp [ByteArray.getElem_extract]
    rw [e0, e1, e2, e3] at rw4
    generalize readV (b[0].toNat) (b[1].toNat) (b[2].toNat) (b[3].toNat) = rv at *
    clear hbs e0 e1 e2 e3 hx4 t0 t1 t2 t3
    have AL := Lib.hid al; clear al
    have P1 := Lib.hid p1; clear p1
    have RS := Lib.hid rs; clear rs
    have P2' := Lib.hid p2'; clear p2'
    have O1 := Lib.hid o1; clear o1
    have RA1 := Lib.hid ra1; clear ra1
    have RW4 := Lib.hid rw4; clear rw4
    go_enter Try.func8, Try.ntmps8
    go_wp2_with fail
    refine (AL.out _).mono ?_; rintro e w' ⟨rfl, rfl⟩
    go_wp2_with fail
    refine (P1.out _).mono ?_; rintro e w1 ⟨rfl, rfl⟩
    go_wp2_with fail
    refine RS.out.mono ?_; rintro e w1 ⟨rfl, rfl⟩
    go_wp2_with fail
    refine RA1.out.mono ?_; rintro e w1 ⟨rfl, rfl⟩
    go_wp2_with fail
    refine wp_region_below (by kernel_rfl) (by kernel_rfl) ?_
    repeat (go_big_quiet_step (first | (go_at_call 19; exact Calls.below_of (P2'.out _)) | (go_at_call 13; exact Calls.below_same (O1.out _))))
    refine wpQuiet_nil ?_
    rintro _ ⟨W2, rfl⟩
    have HB2 := Lib.hid (HB.out.trans (W2.2.mono HB.out.size))
    go_wp2_with fail
    refine (RW4.out _).mono ?_; rintro e w1 ⟨rfl, n, rfl⟩
    go_wp2_with fail
    go_ret
    exact ⟨rfl, below_drewN HB2.out _⟩
theorem own : ownKnob Try.prog.godebug = none := by kernel_rfl
theorem laidOut : laidOutB Try.prog = true := by kernel_rfl
set_option maxRecDepth 100000 in
theorem lifted (os : Os) (started : os.Started) (H : Type) (enc : TypeId × Value → H) :
    ReturnsInHanded {} Try.checked os 8 .any (Rows.wordBytesSpec.pre6 enc Try.prog Try.f8 Rows.wordBytesRow.domain false) (Rows.wordBytesSpec.post enc Try.prog Try.f8 false true false false) := by
  refine returnsInHanded_of_change (C := Try.checked) own started (by kernel_rfl) Try.func8
    (ChangeSpec.witness6 (enc := enc) (C := Try.checked) false ⟨#[], #[.int .i64 0, .string ByteArray.empty], []⟩ 8 (by kernel_rfl) (by kernel_rfl) (by kernel_rfl) (by kernel_rfl)) ?_
  intro W base args ds gs before hval0 hW hcnd _
  have hval : ∀ (j : Nat) t v, Try.f8.params[j]? = some t → args[j]? = some v → Value.okWide Try.prog W .any base t v := hval0
  have hW' := hW
  obtain ⟨p, q, hA0, hV, rfl, hfz, hnd⟩ := hW
  have hA : DataW.TrodAll enc Try.prog W 0 (fun _ => true) true Try.f8.params.toList args.toList ds p := hA0
  rw [Try.params8] at hA hval
  obtain ⟨v0, vs0, d0, ds0, p0, q0, hargs, rfl, rfl, h0, r0⟩ := trodAll_cons hA
  obtain ⟨v1, vs1, d1, ds1, p1, q1, rfl, rfl, rfl, h1, r1⟩ := trodAll_cons r0
  obtain ⟨rfl, rfl, rfl⟩ := trodAll_nil r1
  obtain rfl : args = #[v0, v1] := by cases args; simp_all
  obtain ⟨a0, rfl, rfl, rfl, w0⟩ := open_int Try.underlying3 (hval 0 3 v0 rfl rfl) h0
  obtain ⟨a1, rfl, rfl, rfl, w1⟩ := Go.ChangeMaps.open_string Try.underlying9 (hval 1 9 v1 rfl rfl) h1
  clear hA0 hval0
  simp only [List.append_nil] at hW'
  refine (walk a0 w0 a1 w1 W).mono fun e W' ⟨he, hb⟩ => ?_
  subst he
  exact ⟨_, rfl, law_post laidOut (by kernel_rfl) rfl Try.underlying4 hW' rfl (fun ds h => by match ds, h with | [_, _], _ => rfl) hb⟩
theorem over : Rows.wordBytesRow.holds Try.pinned (OpenSpec.ofChange Rows.wordBytesSpec) :=
  OpenClaim.holds_of_wide 8 Try.f8 rfl rfl rfl rfl rfl rfl rfl ⟨rfl, rfl, rfl, rfl, rfl⟩ rfl rfl rfl rfl rfl (by kernel_rfl) Try.func8 (by kernel_rfl)
    (of_decide_eq_true (by kernel_rfl)) (by unfold Func.isWrapper; first | (rw [if_pos (by decide +kernel)]; kernel_rfl) | (rw [if_neg (by decide +kernel)]; exact ⟨rfl, rfl⟩))
    (fun os started H enc _ => lifted os started H enc)
theorem proved : Rows.WordBytesSaid := over
#print axioms proved
end Go.Proofs.Ytbcmhmiigimmhaa.wordBytes
