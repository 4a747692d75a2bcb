/- FlowJoins: what two lists have in common is the same in either order, with itself it is itself, and never more than one of them has. No condition. -/
import Derived.Test.YtjcjhfnjamphlaaJBp
import Derived.Test.YtjcjhfnjamphlaaJAg
import Derived.Test.YtjcjhfnjamphlaaJBq
import Derived.Test.YtjcjhfnjamphlaaRows
set_option linter.unusedVariables false
set_option linter.unusedSimpArgs false
/- FlowJoins: what two lists have in common is the same in either order, with itself it is itself, and never more than one of them has. No condition. -/
namespace Go.Proofs.Ytjcjhfnjamphlaa.flowJoins
open Go.ChangeShapes Go.WideShapes Go.ChangeAt Go.RowKit
theorem join_comm : ∀ a b : List Int, joinL a b = joinL b a
  | [], b => by cases b <;> rfl
  | x :: a, [] => rfl
  | x :: a, y :: b => by
    show (if x = y then x else 0) :: joinL a b = (if y = x then y else 0) :: joinL b a
    rw [join_comm a b]
    by_cases h : x = y
    · subst h; rfl
    · rw [if_neg h, if_neg (fun e => h e.symm)]
theorem join_assoc : ∀ a b c : List Int, joinL (joinL a b) c = joinL a (joinL b c)
  | [], b, c => rfl
  | x :: a, [], c => by cases c <;> rfl
  | x :: a, y :: b, [] => rfl
  | x :: a, y :: b, z :: c => by
    show (if (if x = y then x else 0) = z then (if x = y then x else 0) else 0) :: joinL (joinL a b) c = (if x = (if y = z then y else 0) then x else 0) :: joinL a (joinL b c)
    rw [join_assoc a b c]
    congr 1
    by_cases h : x = y
    · subst h
      rw [if_pos rfl]
      by_cases h2 : x = z
      · subst h2; simp
      · simp only [if_neg h2]
        split <;> omega
    · simp only [if_neg h]
      by_cases h2 : y = z
      · subst h2; simp only [if_pos, if_neg h]; simp
      · simp only [if_neg h2]
        split <;> split <;> omega
theorem join_self : ∀ a : List Int, joinL a a = a
  | [] => rfl
  | x :: a => by
    show (if x = x then x else 0) :: joinL a a = x :: a
    rw [if_pos rfl, join_self a]
theorem join_at {a b : List Int} {k : Nat} (h : k < (joinL a b).length) (h1 : k < a.length) (h2 : k < b.length) : (joinL a b)[k] = if a[k] = b[k] then a[k] else 0 := by simp [joinL]
set_option maxRecDepth 100000 in
set_option maxHeartbeats 6400000 in
theorem walk (w : World) (v0 : Value) (h0 : ∃ (a : Option Addr) (l : List Int) (c : Nat), v0 = .slice a l.length c ∧ IntSl w (fun k => k < w.heap.size) a l) (v1 : Value) (h1 : ∃ (a : Option Addr) (l : List Int) (c : Nat), v1 = .slice a l.length c ∧ IntSl w (fun k => k < w.heap.size) a l) (v2 : Value) (h2 : ∃ (a : Option Addr) (l : List Int) (c : Nat), v2 = .slice a l.length c ∧ IntSl w (fun k => k < w.heap.size) a l) :
    Calls Try.prog 5 #[v0, v1, v2] w fun e w' => e = .returned (.bool true) ∧ Below w.heap.size w w' := by
  obtain ⟨aa, a, ca, rfl, ha⟩ := h0
  obtain ⟨ab, b, cb, rfl, hb⟩ := h1
  obtain ⟨ac, c, cc, rfl, hc⟩ := h2
  have al := alive12
  by_cases g1 : 30 < a.length
  · have n1 : (30 : Int) < (a.length : Int) := by omega
    generalize a.length = na at *
    generalize b.length = nb at *
    generalize c.length = nc at *
    clear ha hb hc
    have AL := Lib.hid al; clear al
    go_enter Try.func5, Try.ntmps5
    go_wp2_with fail
    refine (AL.out _).mono ?_
    rintro e w1 ⟨rfl, hb1⟩
    have HB1 := Lib.hid hb1; clear hb1
    go_wp2_with fail
    go_ret
    exact ⟨rfl, HB1.out⟩
  have n1 : ¬ (30 : Int) < (a.length : Int) := by omega
  by_cases g2 : 30 < b.length
  · have n2 : (30 : Int) < (b.length : Int) := by omega
    generalize a.length = na at *
    generalize b.length = nb at *
    generalize c.length = nc at *
    clear ha hb hc
    have AL := Lib.hid al; clear al
    go_enter Try.func5, Try.ntmps5
    go_wp2_with fail
    refine (AL.out _).mono ?_
    rintro e w1 ⟨rfl, hb1⟩
    have HB1 := Lib.hid hb1; clear hb1
    go_wp2_with fail
    go_ret
    exact ⟨rfl, HB1.out⟩
  have n2 : ¬ (30 : Int) < (b.length : Int) := by omega
  by_cases g3 : 30 < c.length
  · have n3 : (30 : Int) < (c.length : Int) := by omega
    generalize a.length = na at *
    generalize b.length = nb at *
    generalize c.length = nc at *
    clear ha hb hc
    have AL := Lib.hid al; clear al
    go_enter Try.func5, Try.ntmps5
    go_wp2_with fail
    refine (AL.out _).mono ?_
    rintro e w1 ⟨rfl, hb1⟩
    have HB1 := Lib.hid hb1; clear hb1
    go_wp2_with fail
    go_ret
    exact ⟨rfl, HB1.out⟩
  have n3 : ¬ (30 : Int) < (c.length : Int) := by omega
  have hcm := join_comm a b
  have has := join_assoc a b c
  have hse := join_self a
  have hxl := joinL_len a b
  have hxk : ∀ k (h : k < (joinL a b).length) (h1 : k < a.length) (h2 : k < b.length), (joinL a b)[k] = if a[k] = b[k] then a[k] else 0 := fun k h h1 h2 => join_at h h1 h2
  have jn := fun W' (D D' : Nat → Prop) s s' (l m : List Int) c c' hl hm h1 h2 => join_any W' D D' s s' l m c c' hl hm h1 h2
  have j1 := fun W' (h : Below w.heap.size w W') => join_any W' _ _ aa ab a b ca cb (ha.fr (Fr.of_below h (fun _ => False)) (fun _ _ h => h)) (hb.fr (Fr.of_below h (fun _ => False)) (fun _ _ h => h)) (by omega) (by omega)
  have j2 := fun W' (h : Below w.heap.size w W') => join_any W' _ _ ab aa b a cb ca (hb.fr (Fr.of_below h (fun _ => False)) (fun _ _ h => h)) (ha.fr (Fr.of_below h (fun _ => False)) (fun _ _ h => h)) (by omega) (by omega)
  rw [← hcm] at j2
  have j3 := fun W' (h : Below w.heap.size w W') (D : Nat → Prop) s' c' (hs : IntSl W' D s' (joinL a b)) => join_any W' _ _ s' ac (joinL a b) c c' cc hs (hc.fr (Fr.of_below h (fun _ => False)) (fun _ _ h => h)) (by rw [hxl]; omega) (by omega)
  have j4 := fun W' (h : Below w.heap.size w W') => join_any W' _ _ ab ac b c cb cc (hb.fr (Fr.of_below h (fun _ => False)) (fun _ _ h => h)) (hc.fr (Fr.of_below h (fun _ => False)) (fun _ _ h => h)) (by omega) (by omega)
  have j5 := fun W' (h : Below w.heap.size w W') (D : Nat → Prop) s' c' (hs : IntSl W' D s' (joinL b c)) => join_any W' _ _ aa s' a (joinL b c) ca c' (ha.fr (Fr.of_below h (fun _ => False)) (fun _ _ h => h)) hs (by omega) (by rw [joinL_len]; omega)
  rw [← has] at j5
  have j6 := fun W' (h : Below w.heap.size w W') => join_any W' _ _ aa aa a a ca ca (ha.fr (Fr.of_below h (fun _ => False)) (fun _ _ h => h)) (ha.fr (Fr.of_below h (fun _ => False)) (fun _ _ h => h)) (by omega) (by omega)
  rw [hse] at j6
  have s1 := fun W' (D D' : Nat → Prop) s s' (c c' : Nat) (h1 : IntSl W' D s (joinL a b)) (h2 : IntSl W' D' s' (joinL a b)) => sameInts_any W' D D' s s' _ _ c c' h1 h2 (by rw [hxl]; omega) (by rw [hxl]; omega)
  have s2 := fun W' (D D' : Nat → Prop) s s' (d d' : Nat) (h1 : IntSl W' D s (joinL (joinL a b) c)) (h2 : IntSl W' D' s' (joinL (joinL a b) c)) => sameInts_any W' D D' s s' _ _ d d' h1 h2 (by rw [joinL_len, hxl]; omega) (by rw [joinL_len, hxl]; omega)
  have s3 := fun W' (h : Below w.heap.size w W') (D : Nat → Prop) s (c : Nat) (h1 : IntSl W' D s a) => sameInts_any W' D _ s aa a a c ca h1 (ha.fr (Fr.of_below h (fun _ => False)) (fun _ _ h => h)) (by omega) (by omega)
  have hd : ∀ l : List Int, decide (l = l) = true := fun l => by simp
  rw [hd] at s1 s2 s3
  have hna : (joinL a b).length ≤ a.length ∧ (joinL a b).length ≤ b.length := by omega
  clear jn hcm has hse hd
  generalize joinL (joinL a b) c = u at *
  generalize joinL a b = x at *
  generalize joinL b c = z at *
  have HA := Lib.hid ha
  have HB := Lib.hid hb
  have HXL := Lib.hid hxl
  have HXK := Lib.hid hxk
  have HNA := Lib.hid hna
  clear ha hb hc hxl hxk hna
  have AL := Lib.hid al; clear al
  have J1 := Lib.hid j1; clear j1
  have J2 := Lib.hid j2; clear j2
  have J3 := Lib.hid j3; clear j3
  have J4 := Lib.hid j4; clear j4
  have J5 := Lib.hid j5; clear j5
  have J6 := Lib.hid j6; clear j6
  have S1 := Lib.hid s1; clear s1
  have S2 := Lib.hid s2; clear s2
  have S3 := Lib.hid s3; clear s3
  go_enter Try.func5, Try.ntmps5
  go_wp2_with fail
  refine (AL.out _).mono ?_
  rintro e w1 ⟨rfl, hb1⟩
  have HB1 := Lib.hid hb1
  clear hb1
  go_wp2_with fail
  refine (J1.out _ HB1.out).mono ?_
  rintro e w2 ⟨v1, rfl, ho1, hb2⟩
  obtain ⟨x1, y1, rfl, hs1⟩ := own_int ho1
  have HB2 := Lib.hid (HB1.out.trans (hb2.mono HB1.out.size))
  have HS1 := Lib.hid hs1
  clear ho1 hb2 hs1
  go_wp2_with fail
  refine (J2.out _ HB2.out).mono ?_
  rintro e w3 ⟨v2, rfl, ho2, hb3⟩
  obtain ⟨x2, y2, rfl, hs2⟩ := own_int ho2
  have HB3 := Lib.hid (HB2.out.trans (hb3.mono HB2.out.size))
  have HS2 := Lib.hid hs2
  have HS1 := Lib.hid (HS1.out.fr (Fr.of_below hb3 (fun _ => False)) (fun _ _ h => h))
  clear ho2 hb3 hs2
  go_wp2_with fail
  refine (J1.out _ HB3.out).mono ?_
  rintro e w4 ⟨v3, rfl, ho3, hb4⟩
  obtain ⟨x3, y3, rfl, hs3⟩ := own_int ho3
  have HB4 := Lib.hid (HB3.out.trans (hb4.mono HB3.out.size))
  have HS3 := Lib.hid hs3
  have HS1 := Lib.hid (HS1.out.fr (Fr.of_below hb4 (fun _ => False)) (fun _ _ h => h))
  have HS2 := Lib.hid (HS2.out.fr (Fr.of_below hb4 (fun _ => False)) (fun _ _ h => h))
  clear ho3 hb4 hs3
  go_wp2_with fail
  refine (J3.out _ HB4.out _ x3 y3 HS3.out).mono ?_
  rintro e w5 ⟨v4, rfl, ho4, hb5⟩
  obtain ⟨x4, y4, rfl, hs4⟩ := own_int ho4
  have HB5 := Lib.hid (HB4.out.trans (hb5.mono HB4.out.size))
  have HS4 := Lib.hid hs4
  have HS1 := Lib.hid (HS1.out.fr (Fr.of_below hb5 (fun _ => False)) (fun _ _ h => h))
  have HS2 := Lib.hid (HS2.out.fr (Fr.of_below hb5 (fun _ => False)) (fun _ _ h => h))
  clear ho4 hb5 hs4
  go_wp2_with fail
  refine (J4.out _ HB5.out).mono ?_
  rintro e w6 ⟨v5, rfl, ho5, hb6⟩
  obtain ⟨x5, y5, rfl, hs5⟩ := own_int ho5
  have HB6 := Lib.hid (HB5.out.trans (hb6.mono HB5.out.size))
  have HS5 := Lib.hid hs5
  have HS1 := Lib.hid (HS1.out.fr (Fr.of_below hb6 (fun _ => False)) (fun _ _ h => h))
  have HS2 := Lib.hid (HS2.out.fr (Fr.of_below hb6 (fun _ => False)) (fun _ _ h => h))
  have HS4 := Lib.hid (HS4.out.fr (Fr.of_below hb6 (fun _ => False)) (fun _ _ h => h))
  clear ho5 hb6 hs5
  go_wp2_with fail
  refine (J5.out _ HB6.out _ x5 y5 HS5.out).mono ?_
  rintro e w7 ⟨v6, rfl, ho6, hb7⟩
  obtain ⟨x6, y6, rfl, hs6⟩ := own_int ho6
  have HB7 := Lib.hid (HB6.out.trans (hb7.mono HB6.out.size))
  have HS6 := Lib.hid hs6
  have HS1 := Lib.hid (HS1.out.fr (Fr.of_below hb7 (fun _ => False)) (fun _ _ h => h))
  have HS2 := Lib.hid (HS2.out.fr (Fr.of_below hb7 (fun _ => False)) (fun _ _ h => h))
  have HS4 := Lib.hid (HS4.out.fr (Fr.of_below hb7 (fun _ => False)) (fun _ _ h => h))
  clear ho6 hb7 hs6 HS3 HS5
  go_wp2_with fail
  refine (S1.out _ _ _ x1 x2 y1 y2 HS1.out HS2.out).mono ?_
  rintro e w8 ⟨rfl, k8, rfl⟩
  have HS4' := Lib.hid (show IntSl (w7.drewN k8) _ x4 u from HS4.out)
  have HS6' := Lib.hid (show IntSl (w7.drewN k8) _ x6 u from HS6.out)
  go_wp2_with fail
  refine (S2.out _ _ _ x4 x6 y4 y6 HS4'.out HS6'.out).mono ?_
  rintro e w9 ⟨rfl, k9, rfl⟩
  have HB9 := Lib.hid (below_drewN (below_drewN HB7.out k8) k9)
  have hS1 : IntSl ((w7.drewN k8).drewN k9) _ x1 x := HS1.out
  obtain ⟨w9, hw9⟩ : ∃ w9, w9 = (w7.drewN k8).drewN k9 := ⟨_, rfl⟩
  rw [← hw9] at HB9 hS1 ⊢
  have HSX := Lib.hid hS1
  clear hw9 HS1 HS2 HS4 HS6 HS4' HS6' hS1
  go_wp2_with fail
  refine (J6.out _ HB9.out).mono ?_
  rintro e w10 ⟨v7, rfl, ho7, hb10⟩
  obtain ⟨x7, y7, rfl, hs7⟩ := own_int ho7
  have HB10 := Lib.hid (HB9.out.trans (hb10.mono HB9.out.size))
  have HS7 := Lib.hid hs7
  have HSX := Lib.hid (HSX.out.fr (Fr.of_below hb10 (fun _ => False)) (fun _ _ h => h))
  clear ho7 hb10 hs7
  go_wp2_with fail
  refine (S3.out _ HB10.out _ x7 y7 HS7.out).mono ?_
  rintro e w11 ⟨rfl, k11, rfl⟩
  have HB11 := Lib.hid (below_drewN HB10.out k11)
  have hS1 : IntSl (w10.drewN k11) _ x1 x := HSX.out
  obtain ⟨w11, hw11⟩ : ∃ w11, w11 = w10.drewN k11 := ⟨_, rfl⟩
  rw [← hw11] at HB11 hS1 ⊢
  have HSX := Lib.hid hS1
  clear hw11 hS1 HS7 HB10
  by_cases hab : (a.length : Int) ≤ (b.length : Int)
  · have hne : ((x.length : Int) != (a.length : Int)) = false := by have := HXL.out; simp; omega
    go_upto_region 8 with fail
    go_loopw [11] (fun i wr => ∃ k : Nat, k ≤ x.length ∧ i = .int .i64 k ∧ Below w11.heap.size w11 wr) (fun i _ => x.length - (intOf i).toNat)
    case atStart => exact ⟨0, Nat.zero_le _, rfl, Below.refl _ _⟩
    case round =>
      obtain ⟨k, hk, rfl, hbr⟩ := hrel
      by_cases hlt : k < x.length
      · obtain ⟨h1, h2⟩ := HNA.out
        have hka : k < a.length := by omega
        have hkb : k < b.length := by omega
        have hat := HXK.out k hlt hka hkb
        obtain ⟨p1, o1, rfl, _, q1⟩ := HSX.out k hlt
        obtain ⟨p2, o2, rfl, _, q2⟩ := HA.out k hka
        obtain ⟨p3, o3, rfl, _, q3⟩ := HB.out k hkb
        replace q1 := below_cell hbr q1
        replace q2 := below_cell (HB11.out.trans (hbr.mono HB11.out.size)) q2
        replace q3 := below_cell (HB11.out.trans (hbr.mono HB11.out.size)) q3
        have i1 : IntKind.i64.wrap ((k : Int) + 1) = (k : Int) + 1 := IntWalk.i64_in _ (by omega)
        have m1 : (k : Int) < (x.length : Int) := by omega
        have m2 : (k : Int) < (a.length : Int) := by omega
        have m3 : (k : Int) < (b.length : Int) := by omega
        generalize x[k] = xk at *
        generalize a[k] = ak at *
        generalize b[k] = bk at *
        clear h1 h2 hka hkb
        have HBR := Lib.hid hbr
        clear hbr
        by_cases hz : xk = 0
        · subst hz
          clear hat
          go_upto_region 10 with fail
          go_quiet (fail)
          go_wp2_with fail
          go_roundw
          case rel => exact ⟨k + 1, hlt, by go_num, below_drewN HBR.out _⟩
          case measure => simp [intOf]; omega
        · have hzb : (xk != 0) = true := by simpa using hz
          have hab2 : ak = bk := by
            by_cases e : ak = bk
            · exact e
            · rw [if_neg e] at hat; exact absurd hat hz
          rw [if_pos hab2] at hat
          subst hab2
          subst hat
          clear hz
          go_upto_region 10 with fail
          go_quiet (fail)
          go_wp2_with fail
          go_roundw
          case rel => exact ⟨k + 1, hlt, by go_num, below_drewN HBR.out _⟩
          case measure => simp [intOf]; omega
      · have hk' : k = x.length := by omega
        subst hk'
        have HBZ := Lib.hid (HB11.out.trans (hbr.mono HB11.out.size))
        clear hbr
        go_wp2_with fail
        go_ret
        exact ⟨rfl, HBZ.out⟩
  · have hab : (b.length : Int) < (a.length : Int) := by omega
    have hne : ((x.length : Int) != (b.length : Int)) = false := by have := HXL.out; simp; omega
    go_upto_region 8 with fail
    go_loopw [11] (fun i wr => ∃ k : Nat, k ≤ x.length ∧ i = .int .i64 k ∧ Below w11.heap.size w11 wr) (fun i _ => x.length - (intOf i).toNat)
    case atStart => exact ⟨0, Nat.zero_le _, rfl, Below.refl _ _⟩
    case round =>
      obtain ⟨k, hk, rfl, hbr⟩ := hrel
      by_cases hlt : k < x.length
      · obtain ⟨h1, h2⟩ := HNA.out
        have hka : k < a.length := by omega
        have hkb : k < b.length := by omega
        have hat := HXK.out k hlt hka hkb
        obtain ⟨p1, o1, rfl, _, q1⟩ := HSX.out k hlt
        obtain ⟨p2, o2, rfl, _, q2⟩ := HA.out k hka
        obtain ⟨p3, o3, rfl, _, q3⟩ := HB.out k hkb
        replace q1 := below_cell hbr q1
        replace q2 := below_cell (HB11.out.trans (hbr.mono HB11.out.size)) q2
        replace q3 := below_cell (HB11.out.trans (hbr.mono HB11.out.size)) q3
        have i1 : IntKind.i64.wrap ((k : Int) + 1) = (k : Int) + 1 := IntWalk.i64_in _ (by omega)
        have m1 : (k : Int) < (x.length : Int) := by omega
        have m2 : (k : Int) < (a.length : Int) := by omega
        have m3 : (k : Int) < (b.length : Int) := by omega
        generalize x[k] = xk at *
        generalize a[k] = ak at *
        generalize b[k] = bk at *
        clear h1 h2 hka hkb
        have HBR := Lib.hid hbr
        clear hbr
        by_cases hz : xk = 0
        · subst hz
          clear hat
          go_upto_region 10 with fail
          go_quiet (fail)
          go_wp2_with fail
          go_roundw
          case rel => exact ⟨k + 1, hlt, by go_num, below_drewN HBR.out _⟩
          case measure => simp [intOf]; omega
        · have hzb : (xk != 0) = true := by simpa using hz
          have hab2 : ak = bk := by
            by_cases e : ak = bk
            · exact e
            · rw [if_neg e] at hat; exact absurd hat hz
          rw [if_pos hab2] at hat
          subst hab2
          subst hat
          clear hz
          go_upto_region 10 with fail
          go_quiet (fail)
          go_wp2_with fail
          go_roundw
          case rel => exact ⟨k + 1, hlt, by go_num, below_drewN HBR.out _⟩
          case measure => simp [intOf]; omega
      · have hk' : k = x.length := by omega
        subst hk'
        have HBZ := Lib.hid (HB11.out.trans (hbr.mono HB11.out.size))
        clear hbr
        go_wp2_with fail
        go_ret
        exact ⟨rfl, HBZ.out⟩
theorem own : ownKnob Try.prog.godebug = none := by kernel_rfl
theorem laidOut : laidOutB Try.prog = true := by kernel_rfl
set_option maxRecDepth 100000 in
theorem lifted (os : Os) (started : os.Started) (H : Type) (enc : TypeId × Value → H) :
    ReturnsInHanded {} Try.checked os 5 .any (Rows.flowJoinsSpec.pre6 enc Try.prog Try.f5 Rows.flowJoinsRow.domain false) (Rows.flowJoinsSpec.post enc Try.prog Try.f5 false true false false) := by
  refine returnsInHanded_of_change (C := Try.checked) own started (by kernel_rfl) Try.func5
    (ChangeSpec.witness6 (enc := enc) (C := Try.checked) false ⟨#[], #[.slice none 0 0, .slice none 0 0, .slice none 0 0], []⟩ 8 (by kernel_rfl) (by kernel_rfl) (by kernel_rfl) (by kernel_rfl)) ?_
  intro W base args ds gs before hval0 hW hcnd _
  have hval : ∀ (j : Nat) t v, Try.f5.params[j]? = some t → args[j]? = some v → Value.okWide Try.prog W .any base t v := hval0
  have hW' := hW
  obtain ⟨p, q, hA0, hV, rfl, hfz, hnd⟩ := hW
  have hA : DataW.TrodAll enc Try.prog W 0 (fun _ => true) true Try.f5.params.toList args.toList ds p := hA0
  rw [Try.params5] at hA hval
  obtain ⟨v0, vs0, d0, ds0, p0, q0, hargs, rfl, rfl, h0, r0⟩ := trodAll_cons hA
  obtain ⟨v1, vs1, d1, ds1, p1, q1, rfl, rfl, rfl, h1, r1⟩ := trodAll_cons r0
  obtain ⟨v2, vs2, d2, ds2, p2, q2, rfl, rfl, rfl, h2, r2⟩ := trodAll_cons r1
  obtain ⟨rfl, rfl, rfl⟩ := trodAll_nil r2
  obtain rfl : args = #[v0, v1, v2] := by cases args; simp_all
  have w0 := open_ints (hval 0 22 v0 rfl rfl) h0
  have w1 := open_ints (hval 1 22 v1 rfl rfl) h1
  have w2 := open_ints (hval 2 22 v2 rfl rfl) h2
  clear hA0 hval0
  simp only [List.append_nil] at hW'
  refine (walk W v0 w0 v1 w1 v2 w2).mono fun e W' ⟨he, hb⟩ => ?_
  subst he
  exact ⟨_, rfl, law_post laidOut (by kernel_rfl) rfl Try.underlying4 hW' rfl (fun ds h => by match ds, h with | [_, _, _], _ => rfl) hb⟩
theorem over : Rows.flowJoinsRow.holds Try.pinned (OpenSpec.ofChange Rows.flowJoinsSpec) :=
  OpenClaim.holds_of_wide 5 Try.f5 rfl rfl rfl rfl rfl rfl rfl ⟨rfl, rfl, rfl, rfl, rfl⟩ rfl rfl rfl rfl rfl (by kernel_rfl) Try.func5 (by kernel_rfl)
    (of_decide_eq_true (by kernel_rfl)) (by unfold Func.isWrapper; first | (rw [if_pos (by decide +kernel)]; kernel_rfl) | (rw [if_neg (by decide +kernel)]; exact ⟨rfl, rfl⟩))
    (fun os started H enc _ => lifted os started H enc)
theorem proved : Rows.FlowJoinsSaid := over
#print axioms proved
end Go.Proofs.Ytjcjhfnjamphlaa.flowJoins
