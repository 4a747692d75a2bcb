import Derived.Test.YthkhgihjigmkoaaGreatCAq
import Derived.Laws.BitsAllLaws
import Derived.Test.YthkhgihjigmkoaaGreatCAn
import Derived.Test.YthkhgihjigmkoaaGreatCAm
set_option linter.unusedVariables false
set_option linter.unusedSimpArgs false
namespace Go.Proofs.YthkhgihjigmkoaaGreat.Tk
open Go.ChangeShapes Go.WideShapes Go.ChangeAt Go.RowKit Go.Maps
def hitS (T : Tk) (B : Nat → Nat) (D K o : Nat) : Prop := ∃ d k, ∃ hd : d < T.parts.length, (d < D ∨ (d = D ∧ k < K)) ∧ (B d).testBit k = true ∧ (o : Int) = T.parts[d].base + (2 + (k : Int))
def MvL (T : Tk) (B : Nat → Nat) (nb : Int) (n D K : Nat) (L : List Int) : Prop := L.length = n ∧ ∀ o, o < n → (hitS T B D K o → L[o]? = some (movedI T.base T.words.length nb n (T.words.getD o 0))) ∧ (¬ hitS T B D K o → L[o]? = some (T.words.getD o 0))
theorem MvL.start (T : Tk) (B : Nat → Nat) (nb : Int) (n : Nat) : MvL T B nb n 0 0 (keepW T.words n) :=
 ⟨keepW_len _ _, fun o ho => ⟨fun ⟨d, k, _, h, _⟩ => by omega, fun _ => keepW_get _ _ _ ho⟩⟩
theorem MvL.set {T : Tk} {B : Nat → Nat} {nb : Int} {n D K : Nat} {L : List Int} (h : MvL T B nb n D K L) (hD : D < T.parts.length) (hb : (B D).testBit K = true) {o0 : Nat} (ho : (o0 : Int) = T.parts[D].base + (2 + (K : Int))) : MvL T B nb n D (K + 1) (L.set o0 (movedI T.base T.words.length nb n (T.words.getD o0 0))) := by
 refine ⟨by simpa using h.1, fun o hn => ?_⟩
 by_cases e : o0 = o
 ·subst e
  rw [List.getElem?_set_self (by rw [h.1]; exact hn)]
  exact ⟨fun _ => rfl, fun hh => absurd ⟨D, K, hD, .inr ⟨rfl, by omega⟩, hb, ho⟩ hh⟩
 ·rw [List.getElem?_set_ne e]
  refine ⟨fun ⟨d, k, hd, h1, h2, h3⟩ => ?_, fun hh => (h.2 o hn).2 fun ⟨d, k, hd, h1, h2, h3⟩ => hh ⟨d, k, hd, by omega, h2, h3⟩⟩
  have h5 : d < D ∨ (d = D ∧ k < K) := by
   rcases h1 with h1 | ⟨rfl, h1⟩
   ·exact .inl h1
   ·rcases Nat.lt_succ_iff_lt_or_eq.1 h1 with h4 | h4
    ·exact .inr ⟨rfl, h4⟩
    ·subst h4
     exact absurd (by omega) e
  exact (h.2 o hn).1 ⟨d, k, hd, h5, h2, h3⟩
theorem MvL.skip {T : Tk} {B : Nat → Nat} {nb : Int} {n D K : Nat} {L : List Int} (h : MvL T B nb n D K L) (hb : (B D).testBit K = false) : MvL T B nb n D (K + 1) L := by
 refine ⟨h.1, fun o hn => ⟨fun ⟨d, k, hd, h1, h2, h3⟩ => ?_, fun hh => (h.2 o hn).2 fun ⟨d, k, hd, h1, h2, h3⟩ => hh ⟨d, k, hd, by omega, h2, h3⟩⟩⟩
 have h5 : d < D ∨ (d = D ∧ k < K) := by
  rcases h1 with h1 | ⟨rfl, h1⟩
  ·exact .inl h1
  ·rcases Nat.lt_succ_iff_lt_or_eq.1 h1 with h4 | h4
   ·exact .inr ⟨rfl, h4⟩
   ·subst h4
    rw [hb] at h2
    cases h2
 exact (h.2 o hn).1 ⟨d, k, hd, h5, h2, h3⟩
theorem MvL.next {T : Tk} {B : Nat → Nat} {nb : Int} {n D K : Nat} {L : List Int} (h : MvL T B nb n D K L) (hb : ∀ k, K ≤ k → (B D).testBit k = false) : MvL T B nb n (D + 1) 0 L := by
 refine ⟨h.1, fun o hn => ⟨fun ⟨d, k, hd, h1, h2, h3⟩ => ?_, fun hh => (h.2 o hn).2 fun ⟨d, k, hd, h1, h2, h3⟩ => hh ⟨d, k, hd, by omega, h2, h3⟩⟩⟩
 have h5 : d < D ∨ (d = D ∧ k < K) := by
  rcases h1 with h1 | ⟨_, h1⟩
  ·rcases Nat.lt_succ_iff_lt_or_eq.1 h1 with h4 | h4
   ·exact .inl h4
   ·subst h4
    rcases Nat.lt_or_ge k K with h5 | h5
    ·exact .inr ⟨rfl, h5⟩
    ·rw [hb k h5] at h2
     cases h2
  ·omega
 exact (h.2 o hn).1 ⟨d, k, hd, h5, h2, h3⟩
theorem TaskAt.moved {w w' : World} {F : Nat → Prop} {tb : Nat} {p : TPrg} {T : Tk} {X : TB} (h : TaskAt w F tb p T X) (hb : Below w.heap.size w w') {sb wb : Nat} {nb : Int} {L : List Int} (hs : StAt w' sb wb nb L) (h1 : w.heap.size ≤ sb) (h2 : w.heap.size ≤ wb) (h3 : sb < w'.heap.size) (h4 : wb < w'.heap.size) :
  TaskAt (w'.setCell ⟨tb, 3, none⟩ (.pointer (some ⟨sb, 0, none⟩))) (fun k => F k ∨ k = sb ∨ k = wb) tb p ⟨nb, L, T.parts, T.marks⟩ ⟨X.D, X.c0, X.c1, X.c2, X.pv, X.mv, sb, wb, X.kb, X.av, X.al, X.kf, X.kc⟩ ∧ Fr F w (w'.setCell ⟨tb, 3, none⟩ (.pointer (some ⟨sb, 0, none⟩))) := by
 have h' := h.below hb
 have hfs : Fr (fun k => k = tb) w' (w'.setCell ⟨tb, 3, none⟩ (.pointer (some ⟨sb, 0, none⟩))) := (Fr.refl (fun k => k = tb) w').setCell (p := ⟨tb, 3, none⟩) (fun _ => rfl) _
 obtain ⟨d1, d2, d3, d4, d5, d6, d7⟩ := h'.distinct
 have htl := h.lt
 have hkl := h.kb
 refine ⟨?_, (Fr.of_below hb F).trans (hfs.mono (fun k e => e ▸ h.ft)) (fun _ _ h => h)⟩
 constructor
 ·have := row_set h'.row 3 (.pointer (some ⟨sb, 0, none⟩))
  exact this
 ·exact h'.prg.fr hfs fun k hk e => (h.out k hk).1 (e ▸ h.ft)
 ·exact fun k hk => ⟨fun hh => by
   have h5 := h.out k hk
   rcases hh with h6 | h6 | h6
   ·exact h5.1 h6
   ·omega
   ·omega, Nat.lt_of_lt_of_le (h'.out k hk).2 hfs.size⟩
 ·exact hfs.heap hs.1 (fun e => by have e : sb = tb := e; omega)
 ·exact hfs.heap hs.2 (fun e => by have e : wb = tb := e; omega)
 ·exact h'.parts.fr hfs (fun k hk e => (d4 k hk).1 e)
 ·exact h'.marks.fr hfs (fun k hk e => (d5 k hk).1 e)
 ·exact Nat.lt_of_lt_of_le h'.kb hfs.size
 ·exact h'.kept.imp fun n hm => ⟨hm.1, hm.2.fr hfs (fun e => map_ne hm.2 h'.row e)⟩
 ·exact h'.alarms.fr hfs (fun k hk e => (d7 k hk).1 e)
 ·exact .inl h.ft
 ·exact .inr (.inl rfl)
 ·exact .inr (.inr rfl)
 ·exact .inl h.fk
 ·exact fun k hk => .inl (h.fp k hk)
 ·exact fun k hk => .inl (h.fm k hk)
 ·exact fun k hk => .inl (h.fa k hk)
 ·exact fun k hk => by
   rcases hk with h6 | rfl | rfl
   ·exact Nat.lt_of_lt_of_le (h'.flt k h6) hfs.size
   ·exact Nat.lt_of_lt_of_le h3 hfs.size
   ·exact Nat.lt_of_lt_of_le h4 hfs.size
theorem bit_shr (x k : Nat) : ((x : Int) / 2 ^ k) = ((x / 2 ^ k : Nat) : Int) := by simp [Int.natCast_ediv, Int.natCast_pow]
theorem bit_and {x k : Nat} (hx : x < 65536) : (bits BinOp.and IntKind.u16 ((x : Int) / 2 ^ k) 1 == 1) = x.testBit k := by
 have h1 : x / 2 ^ k < 65536 := Nat.lt_of_le_of_lt (Nat.div_le_self _ _) hx
 have h2 := u16_and_nat (x / 2 ^ k) 1 h1 (by decide)
 rw [bit_shr]
 have h3 : ((1 : Nat) : Int) = 1 := rfl
 rw [h3] at h2
 rw [h2, Nat.and_one_is_mod, Nat.testBit_eq_decide_div_mod_eq]
 by_cases h : x / 2 ^ k % 2 = 1
 ·rw [h]; simp
 ·rw [decide_eq_false h]
  rw [beq_eq_false_iff_ne]
  omega
theorem bit_yes {x k : Nat} (h : x.testBit k = true) : ((x : Int) / 2 ^ k != 0) = true := by
 rw [Nat.testBit_eq_decide_div_mod_eq] at h
 have h1 := of_decide_eq_true h
 rw [bit_shr, bne_iff_ne]
 omega
theorem bit_end {x k : Nat} (h : ((x : Int) / 2 ^ k != 0) = false) : ∀ j, k ≤ j → x.testBit j = false := by
 rw [bit_shr] at h
 rw [bne_eq_false_iff_eq] at h
 have h1 : x / 2 ^ k = 0 := by omega
 have h2 : x < 2 ^ k := by
  rcases Nat.div_eq_zero_iff.1 h1 with h3 | h3
  ·exact absurd h3 (by simp)
  ·exact h3
 exact fun j hj => Nat.testBit_lt_two_pow (Nat.lt_of_lt_of_le h2 (Nat.pow_le_pow_right (by decide) hj))
theorem StAt.store {w : World} {sb wb : Nat} {b : Int} {l : List Int} (h : StAt w sb wb b l) (hne : sb ≠ wb) (k : Nat) (v : Int) : StAt (w.setCell ⟨wb, k, none⟩ (.int .i64 v)) sb wb b (l.set k v) := by
 have hf := (Fr.refl (fun k => k = wb) w).setCell (p := ⟨wb, k, none⟩) (fun _ => rfl) (.int .i64 v)
 refine ⟨?_, intRow_set h.2 k v⟩
 rw [List.length_set]
 exact hf.heap h.1 hne
set_option maxRecDepth 100000 in
set_option maxHeartbeats 3200000 in
theorem move_any (w : World) (F : Nat → Prop) (tb : Nat) (p : TPrg) (T : Tk) (X : TB) (h : TaskAt w F tb p T X) (hp : PSmall p) (ht : TkOk T) (hB : baseOk T.base) (hwl : 1 ≤ T.words.length) (hw2 : T.words.length ≤ 4096) (mv : Value) (B : Nat → Nat)
  (hpl : ∀ wr, Below w.heap.size w wr → ∀ d (hd : d < T.parts.length), Calls Tryz.prog 49 #[mv, .int .i64 T.parts[d].fn, .int .i64 T.parts[d].pc] wr fun e w' => e = .returned (.int .u16 (B d : Nat)) ∧ Below wr.heap.size wr w')
  (hBl : ∀ d, d < T.parts.length → B d < 65536)
  (serial : Nat) (hs : serial ≤ 100000) (n : Nat) (hn1 : 1 ≤ n) (hn2 : n ≤ 4096) (hu : usedN p T ≤ n)
  (hfit : ∀ d (hd : d < T.parts.length) k, (B d).testBit k = true → ∃ j : Nat, ∃ hj : j < p.funcs.length, T.parts[d].fn = j ∧ (k : Int) < p.funcs[j].slots ∧ T.parts[d].base + (2 + (k : Int)) < T.words.length ∧ T.parts[d].base + (2 + (k : Int)) < n) :
  Calls Tryz.prog 14 #[.pointer (some ⟨tb, 0, none⟩), mv, .int .i64 serial, .int .i64 n] w fun e w' => e = .returned (.bool true) ∧ ∃ L F' X', MvL T B (1073741824 + (serial : Int) * 8192) n T.parts.length 0 L ∧ TaskAt w' F' tb p ⟨1073741824 + (serial : Int) * 8192, L, T.parts, T.marks⟩ X' ∧ X'.Q X X.al X.kf ∧ (∀ k, F' k → F k ∨ w.heap.size ≤ k) ∧ Fr F w w' := by
 have us := fun wr (hw : Below w.heap.size w wr) => used_any wr F tb p T X (h.below hw) hp ht
 have cp := fun wr (hw : Below w.heap.size w wr) => stCopy_any wr X.sb X.wb T.base T.words (h.below hw).st hwl serial hs n hn1 hn2
 have hTT : ∀ wr, Below w.heap.size w wr → TaskAt wr F tb p T X := fun wr hw => h.below hw
 obtain ⟨_, _, q2, q3, q4, _⟩ := h.cells
 have hw0 := Below.refl w.heap.size w
 obtain ⟨nb, hnb⟩ : ∃ nb : Int, nb = 1073741824 + (serial : Int) * 8192 := ⟨_, rfl⟩
 rw [← hnb] at cp ⊢
 have hnb2 : baseOk nb := by unfold baseOk; omega
 have hun : ¬ (n : Int) < usedN p T := by omega
 generalize usedN p T = un at *
 clear hu hnb
 have HPL := Lib.hid hpl; clear hpl
 have US := Lib.hid us; clear us
 have CP := Lib.hid cp; clear cp
 have HTT := Lib.hid hTT; clear hTT
 have HW0 := Lib.hid hw0; clear hw0
 have HFIT := Lib.hid hfit; clear hfit
 have HBL := Lib.hid hBl; clear hBl
 have HT := Lib.hid ht; clear ht
 have HB := Lib.hid hB; clear hB
 clear h
 go_enter Tryz.func14, Tryz.ntmps14
 go_wp2_with fail
 refine (US.out _ HW0.out).mono ?_
 rintro e w1 ⟨rfl, hb1⟩
 have q3 := below_cell hb1 q3
 have HB1 := Lib.hid hb1; clear hb1
 go_wp2_with fail
 refine (CP.out _ HB1.out).mono ?_
 rintro e w2 ⟨sb, wb, rfl, hst, g1, g2, g3, g4, hne, hb2⟩
 have g1 := Nat.le_trans HB1.out.size g1
 have g2 := Nat.le_trans HB1.out.size g2
 have HB2 := Lib.hid (HB1.out.trans (hb2.mono HB1.out.size)); clear hb2
 have ws := stWords_any w2 sb wb nb _ hst
 rw [keepW_len] at ws
 have WS := Lib.hid ws; clear ws
 go_wp2_with fail
 refine WS.out.mono ?_
 rintro e w2' ⟨rfl, rfl⟩
 go_wp2_with fail
 refine (US.out _ HB2.out).mono ?_
 rintro e w3 ⟨rfl, hb3⟩
 have hst3 := hst.fr (Fr.of_below hb3 (fun _ => False)) (fun h => h) (fun h => h)
 have g3 := Nat.lt_of_lt_of_le g3 hb3.size
 have g4 := Nat.lt_of_lt_of_le g4 hb3.size
 have HB3 := Lib.hid (HB2.out.trans (hb3.mono HB2.out.size)); clear hb3 hst
 clear q2 q3 q4
 obtain ⟨_, _, q2, q3, q4, _⟩ := (HTT.out _ HB3.out).cells
 obtain ⟨a, c, hpv, _⟩ := (HTT.out _ HB3.out).pv
 rw [hpv] at q4
 have hm0 := MvL.start T B nb n
 have G := Lib.hid (And.intro g1 (And.intro g2 (And.intro g3 (And.intro g4 hne)))); clear g1 g2 g3 g4 hne
 have HST3 := Lib.hid hst3; clear hst3
 have HM0 := Lib.hid hm0; clear hm0
 go_upto_region 6 with fail
 go_wp2_with fail
 have hsz := Nat.le_refl w3.heap.size
 have HSZ := Lib.hid hsz; clear hsz
 go_loopw [42] (fun i wr => ∃ D : Nat, D ≤ T.parts.length ∧ i = .int .i64 D ∧ Below w.heap.size w wr ∧ w3.heap.size ≤ wr.heap.size ∧ ∃ L, StAt wr sb wb nb L ∧ MvL T B nb n D 0 L) (fun i _ => T.parts.length - (intOf i).toNat)
 case atStart => exact ⟨0, Nat.zero_le _, rfl, HB3.out, HSZ.out, _, HST3.out, HM0.out⟩
 case round =>
  obtain ⟨D, hD, rfl, hbr, hsz, L, hst, hml⟩ := hrel
  have htr := HTT.out wr hbr
  by_cases hlt : D < T.parts.length
  ·obtain ⟨a', c', hpv', hel⟩ := htr.pv
   rw [hpv] at hpv'
   injection hpv' with e1 e2 e3
   subst e1
   clear e2 e3
   obtain ⟨b, rfl, _, y0, y1, y2, y3, y4⟩ := hel D hlt
   have hk0 : (D : Int) < (T.parts.length : Int) := by omega
   have hk1 : (0 : Int) ≤ (D : Int) := by omega
   have i1 : IntKind.i64.wrap ((D : Int) + 1) = ((D + 1 : Nat) : Int) := IntWalk.i64_in _ (by have := HT.out.1; omega)
   have pl := fun wr hw => HPL.out wr hw D hlt
   have hbl := HBL.out D hlt
   have hbq := (HT.out.2.2.2 T.parts[D] (List.getElem_mem hlt)).1
   have hft := HFIT.out D hlt
   have hof := fun wr (hw : Below w.heap.size w wr) (k : Nat) (j : Nat) hj hfj hs hk => off_in wr F tb p T X (HTT.out wr hw) HT.out D hlt j hj hfj k hs hk
   have hset : ∀ (K : Nat) (L : List Int), MvL T B nb n D K L → (B D).testBit K = true → ∀ (o0 : Nat), (o0 : Int) = T.parts[D].base + (2 + (K : Int)) → MvL T B nb n D (K + 1) (L.set o0 (movedI T.base T.words.length nb n (T.words.getD o0 0))) := fun _ _ h1 h2 _ h3 => MvL.set h1 hlt h2 h3
   generalize T.parts[D].fn = fq at *
   generalize T.parts[D].pc = pq at *
   generalize T.parts[D].ret = rq at *
   generalize T.parts[D].ta = taq at *
   generalize T.parts[D].tn = tnq at *
   generalize T.parts[D].tc = tcq at *
   generalize T.parts[D].base = bq at *
   obtain ⟨BD, hBD⟩ : ∃ BD, BD = B D := ⟨_, rfl⟩
   rw [← hBD] at pl hbl hft hset
   have HBDB := Lib.hid hBD
   clear hBD
   obtain ⟨xw, hxw⟩ : ∃ xw, xw = wr.alloc (.cells #[.int .i64 fq, .int .i64 pq, .int .i64 bq, .int .i64 rq, .slice taq tnq tcq] 100) := ⟨_, rfl⟩
   have hbx : Below wr.heap.size wr xw := by rw [hxw]; exact (Below.refl _ _).alloc (Nat.le_refl _) _
   have hrx : xw.heap[wr.heap.size]? = some (.cells #[.int .i64 fq, .int .i64 pq, .int .i64 bq, .int .i64 rq, .slice taq tnq tcq] 100) := by rw [hxw]; exact heap_new _ _
   have p0 : xw.cell? ⟨wr.heap.size, 0, none⟩ = some (.int .i64 fq) := (row_cell hrx 0).1
   have p1 : xw.cell? ⟨wr.heap.size, 1, none⟩ = some (.int .i64 pq) := (row_cell hrx 1).1
   have hstx := hst.fr (Fr.of_below hbx (fun _ => False)) (fun h => h) (fun h => h)
   have HBX := Lib.hid (hbr.trans (hbx.mono hbr.size))
   have HSX := Lib.hid (Nat.le_trans hsz hbx.size)
   have HXW := Lib.hid hxw
   clear hxw hbx hrx hel hst hsz htr
   have HSTX := Lib.hid hstx; clear hstx
   have HML := Lib.hid hml; clear hml
   have PL := Lib.hid pl; clear pl
   have HFT := Lib.hid hft; clear hft
   have HOF := Lib.hid hof; clear hof
   have HSET := Lib.hid hset; clear hset
   have HBR := Lib.hid hbr; clear hbr
   go_upto_region 9 with fail
   rw [← HXW.out]
   clear y0 y1 y2 y3 y4 q2 q3 q4
   go_wp2_with fail
   refine (PL.out _ HBX.out).mono ?_
   rintro e w4 ⟨rfl, hb4⟩
   have hst4 := HSTX.out.fr (Fr.of_below hb4 (fun _ => False)) (fun h => h) (fun h => h)
   have HS4 := Lib.hid (Nat.le_trans HSX.out hb4.size)
   have HB4 := Lib.hid (HBX.out.trans (hb4.mono HBX.out.size))
   have HST4 := Lib.hid hst4
   clear hb4 hst4 p0 p1
   go_upto_region 10 with fail
   go_wp2_with fail
   go_loopw [13] (fun i wr => ∃ K : Nat, K ≤ 16 ∧ i = .int .i64 K ∧ Below w.heap.size w wr ∧ w3.heap.size ≤ wr.heap.size ∧ ∃ L, StAt wr sb wb nb L ∧ MvL T B nb n D K L) (fun i _ => 16 - (intOf i).toNat)
   case atStart => exact ⟨0, Nat.zero_le _, rfl, HB4.out, HS4.out, _, HST4.out, HML.out⟩
   case round =>
    obtain ⟨K, hK, rfl, hbr5, hsz5, L5, hst5, hml5⟩ := hrel
    have HBR5 := Lib.hid hbr5; clear hbr5
    have HSZ5 := Lib.hid hsz5; clear hsz5
    have HST5 := Lib.hid hst5; clear hst5
    have HML5 := Lib.hid hml5; clear hml5
    have i2 : IntKind.i64.wrap ((K : Int) + 1) = ((K + 1 : Nat) : Int) := IntWalk.i64_in _ (by omega)
    have t2 := bit_and (k := K) hbl
    cases hbit : BD.testBit K
    ·rw [hbit] at t2
     cases t1 : ((BD : Int) / 2 ^ K != 0)
     ·have hend := bit_end t1
      go_wp2_with fail
      go_roundw
      case rel => exact ⟨D + 1, hlt, by go_num, HBR5.out, HSZ5.out, L5, HST5.out, HML5.out.next (HBDB.out ▸ hend)⟩
      case measure => simp [intOf]; omega
     ·have hK2 : K + 1 ≤ 16 := by
       rcases Nat.lt_or_ge K 16 with h16 | h16
       ·exact h16
       ·rw [bit_shr, bne_iff_ne] at t1
        have h17 : BD / 2 ^ K = 0 := Nat.div_eq_of_lt (Nat.lt_of_lt_of_le hbl (Nat.le_trans (show 65536 ≤ 2 ^ 16 by decide) (Nat.pow_le_pow_right (by decide) h16)))
        rw [h17] at t1
        exact absurd rfl t1
      go_wp2_with fail
      go_roundw
      case rel => exact ⟨K + 1, hK2, by go_num, HBR5.out, HSZ5.out, L5, HST5.out, HML5.out.skip (HBDB.out ▸ hbit)⟩
      case measure => simp [intOf]; omega
    ·rw [hbit] at t2
     have t1 := bit_yes hbit
     obtain ⟨j, hj, hfj, hs1, hs2, hs3⟩ := HFT.out K hbit
     have of := fun wr hw => HOF.out wr hw K j hj hfj hs1 (by omega)
     have hK2 : K + 1 ≤ 16 := by
      rcases Nat.lt_or_ge K 16 with h16 | h16
      ·exact h16
      ·rw [bit_shr, bne_iff_ne] at t1
       have h17 : BD / 2 ^ K = 0 := Nat.div_eq_of_lt (Nat.lt_of_lt_of_le hbl (Nat.le_trans (show 65536 ≤ 2 ^ 16 by decide) (Nat.pow_le_pow_right (by decide) h16)))
       rw [h17] at t1
       exact absurd rfl t1
     obtain ⟨o, ho⟩ : ∃ o : Nat, bq + (2 + (K : Int)) = o := ⟨(bq + (2 + (K : Int))).toNat, by omega⟩
     rw [ho] at of hs2 hs3
     have hoT : o < T.words.length := by omega
     have hoN : o < n := by omega
     have hL5 := HML5.out.1
     have ld := fun wr (hw : Below w.heap.size w wr) => stLoad_in wr X.sb X.wb T.base T.words (HTT.out wr hw).st o hoT
     have hxo : T.words[o] = T.words.getD o 0 := by rw [List.getD_eq_getElem?_getD, List.getElem?_eq_getElem hoT]; rfl
     have mo := fun wr (hw : Below w.heap.size w wr) (hs : StAt wr sb wb nb L5) => stMoved_any wr X.sb X.wb T.base T.words (HTT.out wr hw).st HB.out (by omega) sb wb nb L5 hs hnb2 (by omega) T.words[o]
     have sto := fun wr (hs : StAt wr sb wb nb L5) v => stStore_in wr sb wb nb L5 hs o (by omega) v
     rw [hL5] at mo
     have hml6 := HSET.out K L5 HML5.out (by rw [hbit]) o (by rw [ho])
     rw [← hxo] at hml6
     have q3 : ∀ wr, Below w.heap.size w wr → wr.cell? ⟨tb, 3, none⟩ = some (.pointer (some ⟨X.sb, 0, none⟩)) := fun wr hw => (HTT.out wr hw).cells.2.2.2.1
     generalize movedI T.base T.words.length nb n T.words[o] = y at *
     generalize T.words[o] = x at *
     clear hs1 hs2 hs3 hxo ho hfj
     have OF := Lib.hid of; clear of
     have LD := Lib.hid ld; clear ld
     have MO := Lib.hid mo; clear mo
     have STO := Lib.hid sto; clear sto
     have HML6 := Lib.hid hml6; clear hml6
     have Q3 := Lib.hid q3; clear q3
     go_wp2_with fail
     refine (OF.out _ HBR5.out).mono ?_
     rintro e w6 ⟨rfl, hb6⟩
     have hst6 := HST5.out.fr (Fr.of_below hb6 (fun _ => False)) (fun h => h) (fun h => h)
     have HS6 := Lib.hid (Nat.le_trans HSZ5.out hb6.size)
     have HB6 := Lib.hid (HBR5.out.trans (hb6.mono HBR5.out.size))
     have HST6 := Lib.hid hst6
     clear hb6 hst6
     have q3 := Q3.out _ HB6.out
     go_wp2_with fail
     refine (LD.out _ HB6.out).mono ?_
     rintro e w7 ⟨rfl, rfl⟩
     go_wp2_with fail
     refine (MO.out _ HB6.out HST6.out).mono ?_
     rintro e w7 ⟨rfl, hb7⟩
     have hst7 := HST6.out.fr (Fr.of_below hb7 (fun _ => False)) (fun h => h) (fun h => h)
     have HS7 := Lib.hid (Nat.le_trans HS6.out hb7.size)
     have HB7 := Lib.hid (HB6.out.trans (hb7.mono HB6.out.size))
     have HST7 := Lib.hid hst7
     clear hb7 hst7 q3
     go_wp2_with fail
     refine (STO.out _ HST7.out _).mono ?_
     rintro e w8 ⟨rfl, rfl⟩
     have hst8 := HST7.out.store G.out.2.2.2.2 o y
     have hfr8 := (Fr.refl (fun k => k = wb) w7).setCell (p := ⟨wb, o, none⟩) (fun _ => rfl) (.int .i64 y)
     have hb8 := HB7.out.trans (hfr8.below HB7.out.size (fun k e => e ▸ G.out.2.1))
     have hs8 := Nat.le_trans HS7.out hfr8.size
     clear hfr8
     generalize w7.setCell ⟨wb, o, none⟩ (.int .i64 y) = w8 at *
     have HST8 := Lib.hid hst8; clear hst8
     have HB8 := Lib.hid hb8; clear hb8
     have HS8 := Lib.hid hs8; clear hs8
     go_wp2_with fail
     go_roundw
     case rel => exact ⟨K + 1, hK2, by go_num, HB8.out, HS8.out, _, HST8.out, HML6.out⟩
     case measure => simp [intOf]; omega
  ·have hD' : D = T.parts.length := by omega
   subst hD'
   have fin := htr.below (Below.refl _ _)
   have q3 := htr.cells.2.2.2.1
   have hfz : wr.frozen? ⟨tb, 3, none⟩ = false := (row_cell htr.row 3).2
   have hfn := (HTT.out w HW0.out).moved hbr hst G.out.1 G.out.2.1 (Nat.lt_of_lt_of_le G.out.2.2.1 hsz) (Nat.lt_of_lt_of_le G.out.2.2.2.1 hsz)
   have hff : ∀ k, (F k ∨ k = sb ∨ k = wb) → F k ∨ w.heap.size ≤ k := fun k hk => by
    rcases hk with h1 | rfl | rfl
    ·exact .inl h1
    ·exact .inr G.out.1
    ·exact .inr G.out.2.1
   clear htr fin hbr hst hsz
   have HFN := Lib.hid hfn; clear hfn
   have HML := Lib.hid hml; clear hml
   have HFF := Lib.hid hff; clear hff
   go_wp2_with fail
   go_ret
   exact ⟨rfl, L, _, _, HML.out, HFN.out.1, ⟨rfl, rfl, rfl, rfl⟩, HFF.out, HFN.out.2⟩
end Go.Proofs.YthkhgihjigmkoaaGreat.Tk
namespace Go.Proofs.YthkhgihjigmkoaaGreat.Tk
open Go.ChangeShapes Go.WideShapes Go.ChangeAt Go.RowKit Go.Maps
def subW (l : List Int) (o n : Nat) : List Int := (l.drop o).take n
theorem subW_len (l : List Int) (o n : Nat) (h : o + n ≤ l.length) : (subW l o n).length = n := by simp [subW]; omega
theorem subW_next (l : List Int) (o k : Nat) (h : o + k < l.length) : subW l o k ++ [l[o + k]] = subW l o (k + 1) := by
 unfold subW
 rw [List.take_add_one, List.getElem?_drop, List.getElem?_eq_getElem h]
 rfl
set_option maxRecDepth 100000 in
set_option maxHeartbeats 1600000 in
theorem tkwords2_any (w : World) (F : Nat → Prop) (tb : Nat) (p : TPrg) (T : Tk) (X : TB) (h : TaskAt w F tb p T X) (from_ n : Nat) (hn : from_ + n ≤ T.words.length) (hl : T.words.length ≤ 100000) :
  Calls Tryz.prog 88 #[.pointer (some ⟨tb, 0, none⟩), .int .i64 from_, .int .i64 n] w fun e w' => ∃ a c, e = .returned (.slice a n c) ∧ Own intE w' w.heap.size (.slice a n c) (subW T.words from_ n) ∧ Below w.heap.size w w' := by
 have ld := fun wr (hw : Below w.heap.size w wr) (k : Nat) (hk : k < T.words.length) => stLoad_in wr X.sb X.wb T.base T.words (h.below hw).st k hk
 have hc := fun wr (hw : Below w.heap.size w wr) => (h.below hw).cells.2.2.2.1
 clear h
 have LD := Lib.hid ld; clear ld
 have HC := Lib.hid hc; clear hc
 go_enter Tryz.func88, Tryz.ntmps88
 go_wp2_with fail
 go_loopw [7, 12] (fun o i wr => ∃ k : Nat, ∃ l : List Int, k ≤ n ∧ i = .int .i64 k ∧ Own intE wr w.heap.size o l ∧ l = subW T.words from_ k ∧ Below w.heap.size w wr) (fun _ i _ => n - (intOf i).toNat)
 case atStart => exact ⟨0, [], Nat.zero_le _, rfl, Own.nil _ _ _, (by simp [subW]), Below.refl _ _⟩
 case round =>
  obtain ⟨k, l, hk, rfl, ho, hlk', hB⟩ := hrel
  have hlk : l.length = k := by rw [hlk', subW_len _ _ _ (by omega)]
  by_cases hlt : k < n
  ·have q3 := HC.out wr hB
   have ld := LD.out wr hB (from_ + k) (by omega)
   obtain ⟨off, hoff⟩ : ∃ off, off = from_ + k := ⟨_, rfl⟩
   have i1 : IntKind.i64.wrap ((from_ : Int) + (k : Int)) = (off : Int) := by rw [show ((from_ : Int) + (k : Int)) = (off : Int) from by omega]; exact IntWalk.i64_in _ (by omega)
   have hnx := subW_next T.words from_ k (by omega)
   rw [← hlk'] at hnx
   generalize T.words[from_ + k] = x at *
   rw [← hoff] at ld
   have hlk2 : l.length ≤ 100000 := by omega
   have LD := Lib.hid ld; clear ld
   have HO := Lib.hid ho; clear ho
   have HB := Lib.hid hB; clear hB
   have HOFF := Lib.hid hoff; clear hoff
   have HLK := Lib.hid hlk; clear hlk
   have HNX := Lib.hid hnx; clear hnx
   clear hlk'
   obtain ⟨a0, n0, c0, rfl⟩ := HO.out.slice
   go_wp2_with fail
   refine LD.out.mono ?_
   rintro e w' ⟨rfl, rfl⟩
   go_wp2_with (at_builtin; refine append_own intE rfl (.tmp 26) (.tmp 28) rfl w.heap.size l [x] _ rfl (HO.out.alloc _) wr.heap.size 0 1 rfl (CellsAt.new _ _ _ _) ?c1 ?c2 ?_)
   case c1 => first | omega | (show l.length + 1 ≤ 100000000; omega)
   case c2 => have := HB.out.size; simp; omega
   intro v5 w5 ho5 hg5
   have hb5 := below_grown (HB.out.alloc HB.out.size _) (HO.out.alloc (.cells #[.int .i64 x] 3)) hg5 (by have := HB.out.size; simp; omega) (Nat.le_refl _)
   obtain ⟨a5, n5, c5, rfl⟩ := ho5.slice
   have hlen := HNX.out
   clear hg5
   have HO5 := Lib.hid ho5; clear ho5
   have HB5 := Lib.hid hb5; clear hb5
   have HLEN := Lib.hid hlen; clear hlen
   go_wp2_with fail
   go_roundw
   case rel => exact ⟨k + 1, _, by omega, by go_num, HO5.out, HLEN.out, HB5.out⟩
   case measure => simp [intOf]; omega
  ·have hk' : k = n := by omega
   subst hk'
   obtain ⟨a0, c0, rfl, _⟩ := own_elems ho
   rw [hlk] at ho
   rw [hlk]
   rw [hlk'] at ho
   clear hlk hlk'
   have HB := Lib.hid hB; clear hB
   have HO := Lib.hid ho; clear ho
   go_wp2_with fail
   go_ret
   exact ⟨_, _, rfl, HO.out, HB.out⟩
end Go.Proofs.YthkhgihjigmkoaaGreat.Tk
namespace Go.Proofs.YthkhgihjigmkoaaGreat.Tk
open Go.ChangeShapes Go.WideShapes Go.ChangeAt Go.RowKit Go.Maps
structure SpotV where (x0 x1 x2 : Int) (b3 b4 : Bool) (x5 : Int) (b6 : Bool) (a7 : Option Addr) (n7 c7 : Nat) (a8 : Option Addr) (n8 c8 : Nat)
set_option maxRecDepth 100000 in
def spotE : Elem Tryz.prog SpotV where
 e := 51
 t := 43
 size := 9
 bytes := 96
 zero := .agg #[.int .i64 0, .int .i64 0, .int .i64 0, .bool false, .bool false, .int .i64 0, .bool false, .slice none 0 0, .slice none 0 0]
 enc := fun x => [.int .i64 x.x0, .int .i64 x.x1, .int .i64 x.x2, .bool x.b3, .bool x.b4, .int .i64 x.x5, .bool x.b6, .slice x.a7 x.n7 x.c7, .slice x.a8 x.n8 x.c8]
 ht := Tryz.underlying43
 info := by kernel_rfl
 hzs := rfl
 hsz := by decide
 hby := by decide
 henc := fun _ => rfl
 hone := fun x u h => by simp at h; rcases h with rfl | rfl | rfl | rfl | rfl | rfl | rfl | rfl | rfl <;> rfl
set_option maxRecDepth 100000 in
def thsE : Elem Tryz.prog (Option Addr × Nat × Nat) where
 e := 98
 t := 44
 size := 1
 bytes := 24
 zero := .slice none 0 0
 enc := fun x => [.slice x.1 x.2.1 x.2.2]
 ht := Tryz.underlying44
 info := by kernel_rfl
 hzs := rfl
 hsz := by decide
 hby := by decide
 henc := fun _ => rfl
 hone := fun x u h => by simp at h; subst h; rfl
end Go.Proofs.YthkhgihjigmkoaaGreat.Tk
namespace Go.Proofs.YthkhgihjigmkoaaGreat.Tk
open Go.ChangeShapes Go.WideShapes Go.ChangeAt Go.RowKit Go.Maps
theorem own_keep {w1 w2 : World} {B : Nat} {v : Value} {l : List Int} (h : Own intE w1 B v l) {G : Nat → Prop} (hf : Fr G w1 w2) (hG : ∀ b cs f, w1.heap[b]? = some (.cells cs 3 f) → ¬ G b) : Own intE w2 B v l :=
 h.fr hf (fun k hk => by obtain ⟨cur, f, hc⟩ := own_row h hk; exact hG k _ _ hc)
end Go.Proofs.YthkhgihjigmkoaaGreat.Tk
