/- Of every instruction: what the two tell of it is alike; two lists that are kept lie apart. No condition: for every input. -/
import Derived.Test.YtmmdppjbofbjhaaAlive9
import Derived.Test.YtmmdppjbofbjhaaLaw
import Derived.Test.YtmmdppjbofbjhaaReadsE
import Derived.Test.YtmmdppjbofbjhaaBookG
namespace Go.Proofs.Ytmmdppjbofbjhaa.instrTells
open Go.ChangeShapes Go.WideShapes Go.ChangeAt Go.RowKit

set_option maxRecDepth 100000 in
theorem open_instr {H : Type} {enc : TypeId × Value → H} {w : World} {base b : Nat} {v : Value} {sp : Nat → Bool} {d : DataW H} {p : List MemPlace} (hv : Value.okWide Try.prog w .any base 58 v)
    (h : DataW.Trod enc Try.prog w b sp true 58 v d p) : ∃ x : Ins, v = x.val := by
  obtain ⟨fuel, hf⟩ := h
  obtain ⟨cs, rfl, _⟩ := okWide_struct Try.underlying58 hv
  obtain ⟨y, hy, _⟩ := trod_ins hf
  refine ⟨y, ?_⟩
  have h2 : cs.toList = y.cells := by simpa [Value.cells] using hy
  obtain ⟨l⟩ := cs
  have h3 : l = y.cells := h2
  subst h3
  rfl
theorem readsL_len (x : Ins) (k : Int) : (readsL x k).length ≤ 100 := by
  have h1 := argSlots_len x.c (nArgs k)
  have h2 := nArgs_le k
  have h3 : ∀ l : List Int, (onceL l).length ≤ l.length := fun l => by simpa using onceL_len l l.length
  have h4 : ∀ u v : Int, (onceL [u, v]).length ≤ 2 := fun u v => h3 [u, v]
  unfold readsL
  repeat' split
  all_goals first | (simp; done) | (have := h4 x.b x.c; omega) | (have := h4 x.a x.c; omega) | (have := h4 x.a x.b; omega) | omega
theorem bcell1 {W w1 : World} {n : Nat} (hb : Below (n + 1) W w1) : ∀ o, w1.cell? ⟨n, o, none⟩ = W.cell? ⟨n, o, none⟩ := fun o => hb.cell (p := ⟨n, o, none⟩) (by show n < n + 1; omega)
set_option maxRecDepth 100000 in
set_option maxHeartbeats 3200000 in
theorem walk (w : World) (v : Value) (hv : ∃ x : Ins, v = x.val) (k : Int) (wk : (Lit.int .i64 k).wf = true) :
    Calls Try.prog 11 #[v, .int .i64 k] w fun e w' => e = .returned (.bool true) ∧ Below w.heap.size w w' := by
  obtain ⟨⟨op, a, b, c⟩, rfl⟩ := hv
  show Calls Try.prog 11 #[.agg #[.int .i64 op, .int .i64 a, .int .i64 b, .int .i64 c], .int .i64 k] w _
  have al := alive9
  have us := fun W => uses_any W op
  have rus := fun W => ruses_any W op
  have wr := fun W => wr_any W op a b c
  have rwr := fun W => rwr_any W op a b c
  generalize (if writesS op = true then a else 0) = va at wr rwr
  generalize writesS op = bw at wr rwr
  unfold UsesSaid at us
  unfold RUsesSaid at rus
  have hbx := box1 w #[.int .i64 op, .int .i64 a, .int .i64 b, .int .i64 c] 58
  have AL := Lib.hid al; clear al
  have US := Lib.hid us; clear us
  have RUS := Lib.hid rus; clear rus
  have WR := Lib.hid wr; clear wr
  have RWR := Lib.hid rwr; clear rwr
  have HBX := Lib.hid hbx; clear hbx
  generalize usesS op = U at *
  obtain ⟨u0, u1, u2⟩ := U
  go_enter Try.func11, Try.ntmps11
  go_wp2_with fail
  refine (AL.out _).mono ?_
  rintro e w1 ⟨rfl, hb1⟩
  have hs0 : (w.alloc (.cells #[.int .i64 op, .int .i64 a, .int .i64 b, .int .i64 c] 58)).heap.size = w.heap.size + 1 := by simp
  rw [hs0] at hb1
  have HB1 := Lib.hid hb1
  clear hb1 hs0
  obtain ⟨hx, _, hsz⟩ := HBX.out _ HB1.out
  have d0 := hx 0 _ rfl
  have d1 := hx 1 _ rfl
  have d2 := hx 2 _ rfl
  have d3 := hx 3 _ rfl
  clear hx
  go_wp2_with fail
  refine (US.out _).mono ?_
  rintro e w2 ⟨rfl, rfl⟩
  go_wp2_with fail
  refine (RUS.out _).mono ?_
  rintro e w2 ⟨rfl, n2, hw2⟩
  have HB2 := Lib.hid (show Below (w.heap.size + 1) _ w2 by rw [hw2]; exact below_drewN HB1.out _)
  clear hw2 d0 d1 d2 d3 hsz
  obtain ⟨hx, _, hsz⟩ := HBX.out _ HB2.out
  have d0 := hx 0 _ rfl
  have d1 := hx 1 _ rfl
  have d2 := hx 2 _ rfl
  have d3 := hx 3 _ rfl
  clear hx
  go_wp2_with fail
  refine (WR.out _).mono ?_
  rintro e w3 ⟨rfl, hb3⟩
  have HB3 := Lib.hid (HB2.out.trans (hb3.mono hsz))
  clear hb3 d0 d1 d2 d3 hsz
  obtain ⟨hx, _, hsz⟩ := HBX.out _ HB3.out
  have d0 := hx 0 _ rfl
  have d1 := hx 1 _ rfl
  have d2 := hx 2 _ rfl
  have d3 := hx 3 _ rfl
  clear hx
  go_wp2_with fail
  refine (RWR.out _).mono ?_
  rintro e w4 ⟨rfl, hb4⟩
  have HB4 := Lib.hid (HB3.out.trans (hb4.mono hsz))
  clear hb4 d0 d1 d2 d3 hsz
  obtain ⟨hx, _, hsz⟩ := HBX.out _ HB4.out
  have d0 := hx 0 _ rfl
  have d1 := hx 1 _ rfl
  have d2 := hx 2 _ rfl
  have d3 := hx 3 _ rfl
  clear hx
  go_wp2_with fail
  obtain ⟨p, hp⟩ : ∃ p, p = w4.heap.size := ⟨_, rfl⟩
  rw [← hp] at hsz ⊢
  have hbk5 := heap_new w4 (.cells #[.slice none 0 0, .slice none 0 0, .slice none 0 0, .slice none 0 0, .slice none 0 0, .slice none 0 0, .slice none 0 0, .slice none 0 0, .slice none 0 0, .slice none 0 0] 49)
  rw [← hp] at hbk5
  have hB5 := HB4.out.alloc (by omega) (.cells #[.slice none 0 0, .slice none 0 0, .slice none 0 0, .slice none 0 0, .slice none 0 0, .slice none 0 0, .slice none 0 0, .slice none 0 0, .slice none 0 0, .slice none 0 0] 49)
  have hs5 : (w4.alloc (.cells #[.slice none 0 0, .slice none 0 0, .slice none 0 0, .slice none 0 0, .slice none 0 0, .slice none 0 0, .slice none 0 0, .slice none 0 0, .slice none 0 0, .slice none 0 0] 49)).heap.size = p + 1 := by rw [hp]; simp
  generalize w4.alloc (.cells #[.slice none 0 0, .slice none 0 0, .slice none 0 0, .slice none 0 0, .slice none 0 0, .slice none 0 0, .slice none 0 0, .slice none 0 0, .slice none 0 0, .slice none 0 0] 49) = w5 at *
  have HB5 := Lib.hid hB5
  have hsz4 := hsz
  clear hB5 d0 d1 d2 d3 hsz
  obtain ⟨hx, _, hsz⟩ := HBX.out _ HB5.out
  have d0 := hx 0 _ rfl
  have d1 := hx 1 _ rfl
  have d2 := hx 2 _ rfl
  have d3 := hx 3 _ rfl
  clear hx
  obtain ⟨cs, hcs⟩ : ∃ cs : Array Value, cs = #[.slice none 0 0, .slice none 0 0, .slice none 0 0, .slice none 0 0, .slice none 0 0, .slice none 0 0, .slice none 0 0, .slice none 0 0, .slice none 0 0, .slice none 0 0] := ⟨_, rfl⟩
  have hbk5 : Bk w5 p cs := by rw [hcs]; exact hbk5
  have rd := fun W => reads_any W ⟨op, a, b, c⟩ k
  have rrd := fun W => rreads_any W ⟨op, a, b, c⟩ k
  have hL : (readsL ⟨op, a, b, c⟩ k).length ≤ 100 := readsL_len _ _
  unfold ReadsSaid at rd rrd
  generalize readsL ⟨op, a, b, c⟩ k = L at *
  have rd : ∀ W, Calls Try.prog 49 #[.agg #[.int .i64 op, .int .i64 a, .int .i64 b, .int .i64 c], .int .i64 k] W _ := rd
  have rrd : ∀ W, Calls Try.prog 55 #[.agg #[.int .i64 op, .int .i64 a, .int .i64 b, .int .i64 c], .int .i64 k] W _ := rrd
  have rd1 := rd w5.drew
  have hpl : w.heap.size < w5.heap.size := by omega
  have RD := Lib.hid rd; clear rd
  have RRD := Lib.hid rrd; clear rrd
  have RD1 := Lib.hid rd1; clear rd1
  have HBK5 := Lib.hid hbk5; clear hbk5
  have HCS := Lib.hid hcs; clear hcs
  clear hp
  go_region_held3 (fun w' => w'.cell? ⟨w.heap.size, 0, none⟩ = some (.int .i64 op) ∧ w'.cell? ⟨w.heap.size, 1, none⟩ = some (.int .i64 a) ∧ w'.cell? ⟨w.heap.size, 2, none⟩ = some (.int .i64 b) ∧ w'.cell? ⟨w.heap.size, 3, none⟩ = some (.int .i64 c)) (first | exact ⟨t0, t1, t2, t3⟩ | go_keep) (first | (go_at_call 49; refine RD1.out.mono ?_; rintro e w6 ⟨v1, rfl, ho1, hb6⟩; obtain ⟨a1, c1, rfl, sl1⟩ := own_int ho1; have hbw6 : Below w5.heap.size w5 w6 := ((Below.refl w5.heap.size w5).drew).trans hb6; have bc := (bcell hbw6).1; have t0 := (bc w.heap.size 0 hpl).trans d0; have t1 := (bc w.heap.size 1 hpl).trans d1; have t2 := (bc w.heap.size 2 hpl).trans d2; have t3 := (bc w.heap.size 3 hpl).trans d3; clear bc) | (go_at_call 49; refine (RD.out w6).mono ?_; rintro e w7 ⟨v2, rfl, ho2, hb7⟩; obtain ⟨a2, c2, rfl, sl2⟩ := own_int ho2; have hbw7 : Below w5.heap.size w5 w7 := hbw6.trans (hb7.mono hbw6.size); have bc := (bcell hbw7).1; have t0 := (bc w.heap.size 0 hpl).trans d0; have t1 := (bc w.heap.size 1 hpl).trans d1; have t2 := (bc w.heap.size 2 hpl).trans d2; have t3 := (bc w.heap.size 3 hpl).trans d3; clear bc))
  have s6 : w5.heap.size ≤ w6.heap.size := hbw6.size
  have s7 : w6.heap.size ≤ w7.heap.size := hb7.size
  have hB7 := HB5.out.trans (hbw7.mono hsz)
  have bk7 : Bk w7 p cs := (Fr.of_below hbw7 (fun _ => False)).heap HBK5.out (fun h => h)
  have n1 : ∀ q, (Value.slice a1 L.length c1).ownBlock = some q → p < q ∧ q < w6.heap.size := fun q hq => by
    have h1 := ho1.lt hq
    have h2 : w5.drew.heap.size = w5.heap.size := rfl
    omega
  have n2 : ∀ q, (Value.slice a2 L.length c2).ownBlock = some q → w6.heap.size ≤ q ∧ q < w7.heap.size := fun q hq => ho2.lt hq
  have o1 : Own intE w7 (w.heap.size + 1) (.slice a1 L.length c1) L := (ho1.below hb7).base (fun q hq => by have := n1 q hq; omega)
  have o2 : Own intE w7 (w.heap.size + 1) (.slice a2 L.length c2) L := ho2.base (fun q hq => by have := n2 q hq; omega)
  have k0 : Kept intE intsE w7 (w.heap.size + 1) (fun _ => False) (fun _ => False) (.slice none 0 0) (.slice none 0 0) [] [] := ⟨Fam.nil _ _ _ _ _, ⟨_, Fam.nil _ _ _ _ _⟩, fun _ h => h.elim, fun _ h => h.elim, fun _ h => h.elim⟩
  have A1 := addInts_any w7 p (w.heap.size + 1) (fun _ => False) (fun _ => False) cs _ _ [] [] a1 L c1 bk7 (by rw [HCS.out]; rfl) (by rw [HCS.out]; rfl) k0 o1 (fun q hq => ⟨fun h => h, fun h => h, by have := n1 q hq; omega⟩) (fun h => h) (fun h => h) hsz4 (by simp) (by omega)
  have A1 := Lib.hid A1
  have O1 := Lib.hid o1
  have O2 := Lib.hid o2
  have HB7 := Lib.hid hB7
  clear t0 t1 t2 t3 d0 d1 d2 d3 o1 o2 hB7 k0 bk7
  have N1 := Lib.hid n1
  have N2 := Lib.hid n2
  clear n1 n2 ho1 ho2 sl1 sl2 hb6 hb7
  go_wp2_with fail
  refine A1.out.mono ?_
  rintro e w8 ⟨v, v', X', Y', rfl, bk8, k8, x8, y8, fr8⟩
  have hx8 : ∀ q, X' q → (p < q ∧ q < w6.heap.size) ∨ w7.heap.size ≤ q := fun q hq => by
    rcases x8 q hq with h | h | h
    · exact h.elim
    · exact .inl (N1.out q h)
    · exact .inr h
  have hy8 : ∀ q, Y' q → w7.heap.size ≤ q := fun q hq => (y8 q hq).resolve_left (fun h => h)
  have f8 : ∀ q, (q = p ∨ False ∨ False) → q = p := fun q h => by rcases h with h | h | h; exact h; exact h.elim; exact h.elim
  have o2 : Own intE w8 (w.heap.size + 1) (.slice a2 L.length c2) L := O2.out.fr fr8 (fun q hq h => by have := N2.out q hq; have := f8 q h; omega)
  have A2 := addInts_any w8 p (w.heap.size + 1) X' Y' _ v v' _ _ a2 L c2 bk8 (by rw [HCS.out]; rfl) (by rw [HCS.out]; rfl) k8 o2 (fun q hq => ⟨fun h => by have := hx8 q h; have := N2.out q hq; omega, fun h => by have := hy8 q h; have := N2.out q hq; omega, by have := N2.out q hq; omega⟩) (fun h => by have := hx8 p h; omega) (fun h => by have := hy8 p h; omega) hsz4 (by simp) (by omega)
  have A2 := Lib.hid A2
  have hb8 : Below (w.heap.size + 1) w7 w8 := fr8.below (by omega) (fun q h => by have := f8 q h; omega)
  have HB8 := Lib.hid (HB7.out.trans (hb8.mono (by omega)))
  have s8 := fr8.size
  have X8 := Lib.hid hx8
  have Y8 := Lib.hid hy8
  clear hx8 hy8 x8 y8 o2 bk8 k8 hb8 fr8 f8
  go_wp2_with fail
  refine A2.out.mono ?_
  rintro e w9 ⟨v9, v9', X9, Y9, rfl, bk9, k9, x9, y9, fr9⟩
  have hx9 : ∀ q, X9 q → w.heap.size + 1 ≤ q := fun q hq => (k9.xw q hq).1
  have hxw9 : ∀ q, X9 q → q < w9.heap.size := fun q hq => (k9.xw q hq).2
  have s9 := fr9.size
  have hb9 : Below (w.heap.size + 1) w8 w9 := fr9.below (by omega) (fun q h => by
    rcases h with h | h | h
    · omega
    · have := X8.out q h; omega
    · have := Y8.out q h; omega)
  have HB9 := Lib.hid (HB8.out.trans hb9)
  have hp9 : ¬ X9 p := fun h => by
    rcases x9 p h with h | h | h
    · have := X8.out p h; omega
    · have := N2.out p h; omega
    · omega
  obtain ⟨hs9', hF9'⟩ := k9.hs'
  have hF9 := k9.fam
  have hbk9 : Bk w9 p #[v9, v9', .slice none 0 0, .slice none 0 0, .slice none 0 0, .slice none 0 0, .slice none 0 0, .slice none 0 0, .slice none 0 0, .slice none 0 0] := by
    rw [HCS.out] at bk9
    exact bk9
  have sl1 : IntSl w9 (fun q => (Value.slice a1 L.length c1).ownBlock = some q) a1 L := by
    have h := hF9.each 0 (by simp) (by simp)
    obtain ⟨a', c', he, hsl⟩ := own_int (show Own intE w9 (w.heap.size + 1) (.slice a1 L.length c1) L from h)
    injection he with e1 e2 e3
    rw [← e1] at hsl
    exact hsl
  have sm : ∀ W a' c' D', Below w9.heap.size w9 W → IntSl W D' a' L → Calls Try.prog 54 #[.slice a1 L.length c1, .slice a' L.length c'] W fun e w' => e = .returned (.bool true) ∧ ∃ n, w' = W.drewN n := fun W a' c' D' hW hD => by
    have h := sameInts_any W _ D' a1 a' L L c1 c' (sl1.fr (Fr.of_below hW (fun _ => False)) (fun _ _ h => h)) hD (by omega) (by omega)
    rw [show decide (L = L) = true from by simp] at h
    exact h
  have ap : ∀ W, Below w9.heap.size w9 W → Calls Try.prog 43 #[.pointer (some ⟨p, 0, none⟩)] W fun e w' => e = .returned (.bool true) ∧ Below (w.heap.size + 1) w9 w' := fun W hW => by
    have hf := Fr.of_below hW (fun _ => False)
    have hs := hW.size
    refine (apart_any W p (w.heap.size + 1) X9 Y9 (fun _ => False) (fun _ => False) v9 v9' (.slice none 0 0) (.slice none 0 0) _ _ [] [] _ [] (hf.heap hbk9 (fun h => h)) (hF9.fr hf (fun _ _ h => h)) (hF9'.fr hf (fun _ _ h => h)) (Fam.nil _ _ _ _ _) (Fam.nil _ _ _ _ _) hp9 (fun h => h) (fun q hq => by have := hxw9 q hq; omega) (fun q h => h.elim) (fun q _ h => h) (by omega) (by simp) (by intro l hl; simp at hl; subst hl; omega) (by simp) (by simp)).mono ?_
    rintro e w' ⟨he, hfr⟩
    refine ⟨he, (hW.mono (by omega)).trans (hfr.below (by omega) (fun q h => ?_))⟩
    rcases h with h | h
    · exact hx9 q h
    · exact h.elim
  have kn := known_any op
  have rkn := fun W => rknown_any W op
  unfold RKnownSaid at rkn
  have sf := fun W => safe_any W op
  have rsf := fun W => rsafe_any W op
  unfold SafeSaid at sf
  unfold RSafeSaid at rsf
  generalize knownS op = kb at kn rkn
  generalize safeS op = sb at sf rsf
  obtain ⟨hx, _, hsz⟩ := HBX.out _ HB9.out
  have d0 := hx 0 _ rfl
  have d1 := hx 1 _ rfl
  have d2 := hx 2 _ rfl
  have d3 := hx 3 _ rfl
  clear hx
  have hpl9 : w.heap.size < w9.heap.size := by omega
  have KN := Lib.hid kn; clear kn
  have RKN := Lib.hid rkn; clear rkn
  have SF := Lib.hid sf; clear sf
  have RSF := Lib.hid rsf; clear rsf
  have SM := Lib.hid sm; clear sm
  have AP := Lib.hid ap; clear ap
  clear hx9 hxw9 hb9 hp9 hF9 hF9' hbk9 sl1 k9 x9 y9 fr9 bk9
  go_wp2_with fail
  go_region_held3 (fun w' => w'.cell? ⟨w.heap.size, 0, none⟩ = some (.int .i64 op) ∧ w'.cell? ⟨w.heap.size, 1, none⟩ = some (.int .i64 a) ∧ w'.cell? ⟨w.heap.size, 2, none⟩ = some (.int .i64 b) ∧ w'.cell? ⟨w.heap.size, 3, none⟩ = some (.int .i64 c)) (first | assumption | exact ⟨t0, t1, t2, t3⟩ | go_keep) (first | (go_at_call 51; refine (KN.out _).mono ?_; rintro e wq ⟨rfl, rfl⟩) | (go_at_call 44; refine (RKN.out _).mono ?_; rintro e wq ⟨rfl, rfl⟩) | (go_at_call 52; refine (SF.out _).mono ?_; rintro e wq ⟨rfl, rfl⟩) | (go_at_call 53; refine (RSF.out _).mono ?_; rintro e wq ⟨rfl, rfl⟩) | (go_at_call 55; refine (RRD.out w9.drew).mono ?_; rintro e w10 ⟨v10, rfl, ho10, hb10⟩; obtain ⟨a10, c10, rfl, sl10⟩ := own_int ho10; have hbw10 : Below w9.heap.size w9 w10 := ((Below.refl w9.heap.size w9).drew).trans hb10; have bc := (bcell hbw10).1; have t0 := (bc w.heap.size 0 hpl9).trans d0; have t1 := (bc w.heap.size 1 hpl9).trans d1; have t2 := (bc w.heap.size 2 hpl9).trans d2; have t3 := (bc w.heap.size 3 hpl9).trans d3; clear bc) | (go_at_call 54; refine (SM.out w10 a10 c10 _ hbw10 sl10).mono ?_; rintro e _ ⟨rfl, nq, rfl⟩) | (go_at_call 43; refine (AP.out _ (below_drewN hbw10 _)).mono ?_; rintro e w11 ⟨rfl, hb11⟩; have bc := (bcell1 hb11); have t0 := (bc 0).trans d0; have t1 := (bc 1).trans d1; have t2 := (bc 2).trans d2; have t3 := (bc 3).trans d3; clear bc))
  obtain ⟨_, hbf, _⟩ := HBX.out w11 (HB9.out.trans hb11)
  have HBF := Lib.hid hbf
  clear hbf hb11 hb10 ho10 sl10 hbw10 t0 t1 t2 t3
  go_wp2_with fail
  go_ret
  exact ⟨rfl, HBF.out⟩
theorem own : ownKnob Try.prog.godebug = none := by kernel_rfl
theorem laidOut : laidOutB Try.prog = true := by kernel_rfl
set_option maxRecDepth 100000 in
theorem lifted (os : Os) (started : os.Started) (H : Type) (enc : TypeId × Value → H) :
    ReturnsInHanded {} Try.checked os 11 .any (Rows.instrTellsSpec.pre6 enc Try.prog Try.f11 Rows.instrTellsRow.domain false) (Rows.instrTellsSpec.post enc Try.prog Try.f11 false true false false) := by
  refine returnsInHanded_of_change (C := Try.checked) own started (by kernel_rfl) Try.func11
    (ChangeSpec.witness6 (enc := enc) (C := Try.checked) false ⟨#[], #[.agg #[.int .i64 0, .int .i64 0, .int .i64 0, .int .i64 0], .int .i64 0], []⟩ 8 (by kernel_rfl) (by kernel_rfl) (by kernel_rfl) (by kernel_rfl)) ?_
  intro W base args ds gs before hval0 hW hcnd _
  have hval : ∀ (j : Nat) t v, Try.f11.params[j]? = some t → args[j]? = some v → Value.okWide Try.prog W .any base t v := hval0
  have hW' := hW
  obtain ⟨p, q, hA0, hV, rfl, hfz, hnd⟩ := hW
  have hA : DataW.TrodAll enc Try.prog W 0 (fun _ => true) true Try.f11.params.toList args.toList ds p := hA0
  rw [Try.params11] at hA hval
  obtain ⟨v0, vs0, d0, ds0, p0, q0, hargs, rfl, rfl, h0, r0⟩ := trodAll_cons hA
  obtain ⟨v1, vs1, d1, ds1, p1, q1, rfl, rfl, rfl, h1, r1⟩ := trodAll_cons r0
  obtain ⟨rfl, rfl, rfl⟩ := trodAll_nil r1
  obtain rfl : args = #[v0, v1] := by cases args; simp_all
  have w0 := open_instr (hval 0 58 v0 rfl rfl) h0
  obtain ⟨a1, rfl, rfl, rfl, w1⟩ := open_int Try.underlying3 (hval 1 3 v1 rfl rfl) h1
  clear hA0 hval0
  simp only [List.append_nil] at hW'
  refine (walk W v0 w0 a1 w1).mono fun e W' ⟨he, hb⟩ => ?_
  subst he
  exact ⟨_, rfl, law_post laidOut (by kernel_rfl) rfl Try.underlying4 hW' rfl (fun ds h => by match ds, h with | [_, _], _ => rfl) hb⟩
theorem over : Rows.instrTellsRow.holds Try.pinned (OpenSpec.ofChange Rows.instrTellsSpec) :=
  OpenClaim.holds_of_wide 11 Try.f11 rfl rfl rfl rfl rfl rfl rfl ⟨rfl, rfl, rfl, rfl, rfl⟩ rfl rfl rfl rfl rfl (by kernel_rfl) Try.func11 (by kernel_rfl)
    (of_decide_eq_true (by kernel_rfl)) (by unfold Func.isWrapper; first | (rw [if_pos (by decide +kernel)]; kernel_rfl) | (rw [if_neg (by decide +kernel)]; exact ⟨rfl, rfl⟩))
    (fun os started H enc _ => lifted os started H enc)
theorem proved : Rows.InstrTellsSaid := over
#print axioms proved
end Go.Proofs.Ytmmdppjbofbjhaa.instrTells
