/- Walk: check.Instr. What may be: functions, programs: the first error and its place. Nothing of the program's text stands here. Walk: .. -/
import Derived.Test.YtlofbhoicbemnaaGreatDoorDBa
set_option linter.unusedVariables false
set_option linter.unusedSimpArgs false
set_option maxRecDepth 100000
set_option maxHeartbeats 3200000
namespace Go.Proofs.YtlofbhoicbemnaaGreatDoor
open Go.ChangeShapes Go.WideShapes Go.ChangeAt Go.RowKit Go.Maps
def iAt (p:Prg) (fn pc:Int):Option Ins:=if 0≤pc∧pc<(codeOf p fn).length then (codeOf p fn)[pc.toNat]? else none
theorem cF_at (p:Prg) (fn pc:Int) (h:i64B fn∧i64B pc):cF fn (codeOf p fn) (codeOf p fn).length ⟨(fn,pc),h⟩=iAt p fn pc:=by
 unfold cF iAt
 simp
theorem zero_instr (w:World):(zeroValue 63).run Tryz.prog w=.ok (insVal ⟨0,0,0,0⟩) w:=by
 kernel_rfl
theorem look_run {w:World} {b m:Nat} {f:Pl→Option Ins} (h:CodeMap w b m f) (x:Pl) :
  (Instr.lookup 357 (.map (some b)) (.agg #[.int .i64 x.1.1,.int .i64 x.1.2]) true).run Tryz.prog w=.ok (.tuple #[insVal ((f x).getD ⟨0,0,0,0⟩),.bool (f x).isSome]) w:=by
 have ht:Tryz.prog.underlying 357=some (.map plK.k 63):=Tryz.underlying357;have hl:=MapIs.look h ht (zero_instr w) x trivial
 cases hf:f x with
 | none=>exact(hl.2 hf).2
 | some i=>exact(hl.1 i hf).2
def instrE (p:Prg) (fn pc:Int):Int:=match iAt p fn pc with | none=>1 | some i=>instrS p ((p.funcs[fn.toNat]?).getD fun0) i
theorem instrE_none {p:Prg} {fn pc:Int} (h:iAt p fn pc=none):instrE p fn pc=1:=by unfold instrE;rw[h]
theorem instrE_some {p:Prg} {fn pc:Int} {i:Ins} (h:iAt p fn pc=some i):instrE p fn pc=instrS p ((p.funcs[fn.toNat]?).getD fun0) i:=by unfold instrE;rw[h]
theorem iAt_z {p:Prg} {fn pc:Int} {i:Ins} (hz:IsZ p) (h:iAt p fn pc=some i):Zi i:=by
 unfold iAt at h
 split at h
 ·unfold codeOf at h
  split at h
  ·cases hx:p.funcs[fn.toNat]? with
   | none=>rw[hx] at h;simp at h
   | some f =>
     rw[hx] at h;exact hz f (List.mem_of_getElem? hx) i (List.mem_of_getElem? h)
  ·simp at h
 ·cases h
theorem instrC_any (w:World) (D:Nat→Prop) (p:Prg) (c0 c1 c2:Value) (fn pc:Int) (hD:∀ k,D k→k<w.heap.size) (hv:PrgVal w D p c0 c1 c2) (hfn:i64B fn) (hpc:i64B pc) (hln:(codeOf p fn).length≤3000) (hla:∀ i,(calleeG p i).args.length≤3000) (hsl:∀ f ∈ p.funcs,f.slots<9223372036854775808) (hzp:IsZ p) :
  Calls Tryz.prog 224 #[.agg #[c0,c1,c2],.agg #[.int .i64 fn,.int .i64 pc]] w fun e w'=>e=.returned (.int .i64 (instrE p fn pc))∧Below w.heap.size w w':=by
 have hP:∀ wr,Below w.heap.size w wr→PrgVal wr D p c0 c1 c2:=fun wr hb=>hv.fr (Fr.of_below hb (fun _=>False)) (fun _ _ h=>h)
 have cd:=fun wr (hb:Below w.heap.size w wr)=>code_any wr D p c0 c1 c2 fn (fun k hk=>Nat.lt_of_lt_of_le (hD k hk) hb.size) (hP wr hb) hfn hln
 have hPP:=hP;obtain⟨⟨a0,m0,rfl,_⟩,⟨a1,m1,rfl,_⟩,a2,m2,rfl,_⟩:=hv;have hbx:=fun wr h=>box2 w #[.slice a0 p.globals.length m0,.slice a1 p.shapes.length m1,.slice a2 p.funcs.length m2] #[.int .i64 fn,.int .i64 pc] 48 147 wr h
 have hz0:((w.alloc (.cells #[.slice a0 p.globals.length m0,.slice a1 p.shapes.length m1,.slice a2 p.funcs.length m2] 48)).alloc (.cells #[.int .i64 fn,.int .i64 pc] 147)).heap.size=w.heap.size+2:=by simp
 obtain⟨W,hW⟩:∃ W,W=(w.alloc (.cells #[.slice a0 p.globals.length m0,.slice a1 p.shapes.length m1,.slice a2 p.funcs.length m2] 48)).alloc (.cells #[.int .i64 fn,.int .i64 pc] 147):=⟨_,rfl⟩;rw[← hW] at hbx hz0;have hs:∀ wr,Below W.heap.size W wr→wr.cell? ⟨w.heap.size,0,none⟩=some (.slice a0 p.globals.length m0)∧wr.cell? ⟨w.heap.size,1,none⟩=some (.slice a1 p.shapes.length m1)∧wr.cell? ⟨w.heap.size,2,none⟩=some (.slice a2 p.funcs.length m2)∧wr.cell? ⟨w.heap.size+1,0,none⟩=some (.int .i64 fn)∧wr.cell? ⟨w.heap.size+1,1,none⟩=some (.int .i64 pc):=fun wr h=>by
  rw[hz0] at h;have hb:=hbx wr h;exact⟨hb.1 0 _ rfl,hb.1 1 _ rfl,hb.1 2 _ rfl,hb.2.1 0 _ rfl,hb.2.1 1 _ rfl⟩
 have hbw:∀ wr,Below W.heap.size W wr→Below w.heap.size w wr:=fun wr h=>by rw[hz0] at h;exact(hbx wr h).2.2.1
 have HW:=k_ hW;clear hW hbx hP;obtain⟨i,hi⟩:∃ i,i=(iAt p fn pc).getD ⟨0,0,0,0⟩:=⟨_,rfl⟩;obtain⟨is,his⟩:∃ is,is=(iAt p fn pc).isSome:=⟨_,rfl⟩;have lk:=fun wr b m (h:CodeMap wr b m (cF fn (codeOf p fn) (codeOf p fn).length))=>look_run h ⟨(fn,pc),hfn,hpc⟩
 rw[cF_at,← hi,← his] at lk;unfold insVal at lk;obtain⟨E,hE⟩:∃ E,E=instrE p fn pc:=⟨_,rfl⟩;rw[← hE];have hE0:is=false→E=1:=fun h=>by rw[hE];exact instrE_none (by rw[h] at his;cases hx:iAt p fn pc with | none=>rfl | some v=>rw[hx] at his;cases his)
 have hE1:is=true→E=instrS p ((p.funcs[fn.toNat]?).getD fun0) i:=fun h=>by
  rw[hE]
  cases hx:iAt p fn pc with
  | none=>rw[hx] at his;rw[h] at his;cases his
  | some v=>rw[hx] at hi;rw[hi];exact instrE_some hx
 clear hE;have hzi:is=true→Zi i:=fun h=>by
  cases hx:iAt p fn pc with
  | none=>rw[hx] at his;rw[h] at his;cases his
  | some v=>rw[hx] at hi;rw[hi];exact iAt_z hzp hx
 obtain⟨xop,xa,xb,xc⟩:=i
 dsimp only at lk
 have hr0:Below W.heap.size W W.drew:=(Below.refl _ _).drew;have HR0:=k_ hr0;clear hr0;have CD:=k_ cd;clear cd;have HS:=k_ hs;clear hs;have HBW:=k_ hbw;clear hbw;have HPP:=k_ hPP;clear hPP;have LK:=k_ lk;clear lk;have HI:=k_ hi;clear hi;have HIS:=k_ his;clear his;have HZ0:=k_ hz0;clear hz0;have HE0:=k_ hE0;clear hE0;have HE1:=k_ hE1;clear hE1;have HZI:=k_ hzi;clear hzi hzp;have HLA:=k_ hla;clear hla;have HSL:=k_ hsl;clear hsl;have HD:=k_ hD;clear hD
 go_enter Tryz.func224,Tryz.ntmps224
 go_upto_region 1 with fail
 rw[← HW.out]
 go_cut [5,6] (fun s5 s6 wx=>∃ y:Nat,s5=.pointer (some ⟨y,0,none⟩)∧s6=.bool is∧wx.heap[y]?=some (.cells #[.int .i64 xop,.int .i64 xa,.int .i64 xb,.int .i64 xc] 63)∧Below W.heap.size W wx)
 case first =>
  refine wp_region_noPanic ?_;refine wp_region_held_drew (S:=fun wr=>wr.cell? ⟨w.heap.size,0,none⟩=some (.slice a0 p.globals.length m0)∧wr.cell? ⟨w.heap.size,1,none⟩=some (.slice a1 p.shapes.length m1)∧wr.cell? ⟨w.heap.size,2,none⟩=some (.slice a2 p.funcs.length m2)∧wr.cell? ⟨w.heap.size+1,0,none⟩=some (.int .i64 fn)∧wr.cell? ⟨w.heap.size+1,1,none⟩=some (.int .i64 pc)) (by kernel_rfl) (HS.out _ HR0.out) (fun _=>?_);generalize W.drew=r0 at *;refine wpAnyH_take (i:=0) (v:=?_) rfl (by kernel_rfl) (by kernel_rfl) (by kernel_rfl) (fun _ _ _ h=>h) (Or.inl ⟨by rfl,?tk0⟩) (HS.out _ HR0.out) ?_
  case tk0=>(rintro wq ⟨q0,q1,q2,q3,q4⟩;go_simp;try with_reducible rfl)
  refine wpAnyH_take (i:=1) (v:=?_) rfl (by kernel_rfl) (by kernel_rfl) (by kernel_rfl) (fun _ _ _ h=>h) (Or.inl ⟨by rfl,?tk1⟩) (HS.out _ HR0.out) ?_
  case tk1=>(rintro wq ⟨q0,q1,q2,q3,q4⟩;go_simp;try with_reducible rfl)
  refine wpAnyH_take (i:=2) (v:=?_) rfl (by kernel_rfl) (by kernel_rfl) (by kernel_rfl) (fun _ _ _ h=>h) (Or.inl ⟨by rfl,?tk2⟩) (HS.out _ HR0.out) ?_
  case tk2=>(rintro wq ⟨q0,q1,q2,q3,q4⟩;go_simp;try with_reducible rfl)
  refine wpAnyH_take (i:=4) (v:=?_) rfl (by kernel_rfl) (by kernel_rfl) (by kernel_rfl) (fun _ _ _ h=>h) (Or.inl ⟨by rfl,?tk4⟩) (HS.out _ HR0.out) ?_
  case tk4=>(rintro wq ⟨q0,q1,q2,q3,q4⟩;go_simp;try with_reducible rfl)
  refine wpAnyH_ready (rs:=[3,9]) (by kernel_rfl) (by simp) ?_;refine(AllReadyH.cons rfl (fun K hK=>?_) (AllReadyH.cons rfl (fun K hK=>?_) AllReadyH.nil))
  ·skip
   go_simp
   go_at_call 291
   refine(CD.out r0 (HBW.out r0 HR0.out)).mono ?_;rintro e r1 ⟨b,m,rfl,hm,_,hb⟩;have HR1:=k_ (HR0.out.trans (hb.mono HR0.out.size));have HM:=k_ hm;clear hm hb;refine hK.out _ _ (HS.out _ HR1.out) (fun _=>?_);clear hK K;refine wpAnyH_ready (rs:=[5,9]) (by kernel_rfl) (by simp) ?_;refine(AllReadyH.cons rfl (fun K hK=>?_) (AllReadyH.cons rfl (fun K hK=>?_) AllReadyH.nil))
   ·skip
    have hl:=LK.out r1 b m HM.out;go_simp;clear hl;refine hK.out _ _ (HS.out _ HR1.out) (fun _=>?_);clear hK K;refine wpAnyH_take (i:=6) (v:=?_) rfl (by kernel_rfl) (by kernel_rfl) (by kernel_rfl) (fun _ _ _ h=>h) (Or.inl ⟨by rfl,?tq1⟩) (HS.out _ HR1.out) ?_
    case tq1=>(intro wq _;go_simp;try with_reducible rfl)
    refine wpAnyH_take (i:=7) (v:=?_) rfl (by kernel_rfl) (by kernel_rfl) (by kernel_rfl) (fun _ _ _ h=>h) (Or.inl ⟨by rfl,?tq2⟩) (HS.out _ HR1.out) ?_
    case tq2=>(intro wq _;go_simp;try with_reducible rfl)
    refine wpAnyH_take (i:=8) (v:=?_) rfl (by kernel_rfl) (by kernel_rfl) (by kernel_rfl) (fun _ _ _ h=>h) (Or.inl ⟨by rfl,?tq3⟩) (HS.out _ HR1.out) ?_
    case tq3=>(intro wq _;go_simp;try with_reducible rfl)
    refine wpAnyH_ready (rs:=[9]) (by kernel_rfl) (by simp) ?_;refine(AllReadyH.cons rfl (fun K hK=>?_) AllReadyH.nil)
    ·skip
     go_simp;obtain⟨r2,hr⟩:∃ r,r=r1.alloc (.cells #[.int .i64 0,.int .i64 0,.int .i64 0,.int .i64 0] 63):=⟨_,rfl⟩;obtain⟨y,hy⟩:∃ y,y=r1.heap.size:=⟨_,rfl⟩;have hl:r2.heap[y]?=some (.cells #[.int .i64 0,.int .i64 0,.int .i64 0,.int .i64 0] 63):=by rw[hr,hy];exact heap_new _ _
     have hb:Below r1.heap.size r1 r2:=by rw[hr];exact(Below.refl _ _).alloc (Nat.le_refl _) _
     rw[← hr,← hy];have hyW:W.heap.size≤y:=by have:=HR1.out.size;omega
     have HR2:=k_ (HR1.out.trans (hb.mono HR1.out.size));have HM:=k_ (HM.out.below hb);have HY:=k_ hl;clear hl hb hr hy;refine hK.out _ _ (HS.out _ HR2.out) (fun _=>?_);clear hK K;refine wpAnyH_ready (rs:=[10]) (by kernel_rfl) (by simp) ?_;refine(AllReadyH.cons rfl (fun K hK=>?_) AllReadyH.nil);obtain⟨⟨k0,k1,k2,k3⟩,f0,f1,f2,f3⟩:=four_cells HY.out;go_simp;clear k0 k1 k2 k3 f0 f1 f2 f3;have hl:=row_set (row_set (row_set (row_set HY.out 0 (.int .i64 xop)) 1 (.int .i64 xa)) 2 (.int .i64 xb)) 3 (.int .i64 xc);have hf:Fr (onB y) r2 _:=(((((Fr.refl (onB y) r2).setCell (p:=⟨y,0,none⟩) (fun _=>rfl) (.int .i64 xop)).setCell (p:=⟨y,1,none⟩) (fun _=>rfl) (.int .i64 xa)).setCell (p:=⟨y,2,none⟩) (fun _=>rfl) (.int .i64 xb)).setCell (p:=⟨y,3,none⟩) (fun _=>rfl) (.int .i64 xc));generalize (((r2.setCell ⟨y,0,none⟩ (.int .i64 xop)).setCell ⟨y,1,none⟩ (.int .i64 xa)).setCell ⟨y,2,none⟩ (.int .i64 xb)).setCell ⟨y,3,none⟩ (.int .i64 xc)=r3 at *;have HR3:=k_ (HR2.out.trans (hf.below HR2.out.size (fun k hk=>by unfold onB at hk;omega)));have HY:=k_ hl;clear hl hf;refine hK.out _ _ (HS.out _ HR3.out) (fun _=>?_);clear hK K;refine wpAnyH_ready (rs:=[11]) (by kernel_rfl) (by simp) ?_;refine(AllReadyH.cons rfl (fun K hK=>?_) AllReadyH.nil);go_simp;refine hK.out _ _ (HS.out _ HR3.out) (fun _=>?_);clear hK K;refine wpAnyH_done (by kernel_rfl) ?_ _;refine NoPanic.normal ?_;go_wp2_with fail
     go_meet
     case rel=>exact⟨y,rfl,rfl,HY.out,HR3.out⟩
   ·skip
    go_simp;obtain⟨r2,hr⟩:∃ r,r=r1.alloc (.cells #[.int .i64 0,.int .i64 0,.int .i64 0,.int .i64 0] 63):=⟨_,rfl⟩;obtain⟨y,hy⟩:∃ y,y=r1.heap.size:=⟨_,rfl⟩;have hl:r2.heap[y]?=some (.cells #[.int .i64 0,.int .i64 0,.int .i64 0,.int .i64 0] 63):=by rw[hr,hy];exact heap_new _ _
    have hb:Below r1.heap.size r1 r2:=by rw[hr];exact(Below.refl _ _).alloc (Nat.le_refl _) _
    rw[← hr,← hy];have hyW:W.heap.size≤y:=by have:=HR1.out.size;omega
    have HR2:=k_ (HR1.out.trans (hb.mono HR1.out.size));have HM:=k_ (HM.out.below hb);have HY:=k_ hl;clear hl hb hr hy;refine hK.out _ _ (HS.out _ HR2.out) (fun _=>?_);clear hK K;refine wpAnyH_ready (rs:=[5]) (by kernel_rfl) (by simp) ?_;refine(AllReadyH.cons rfl (fun K hK=>?_) AllReadyH.nil)
    ·skip
     have hl:=LK.out r2 b m HM.out;go_simp;clear hl;refine hK.out _ _ (HS.out _ HR2.out) (fun _=>?_);clear hK K;refine wpAnyH_take (i:=6) (v:=?_) rfl (by kernel_rfl) (by kernel_rfl) (by kernel_rfl) (fun _ _ _ h=>h) (Or.inl ⟨by rfl,?tq4⟩) (HS.out _ HR2.out) ?_
     case tq4=>(intro wq _;go_simp;try with_reducible rfl)
     refine wpAnyH_take (i:=7) (v:=?_) rfl (by kernel_rfl) (by kernel_rfl) (by kernel_rfl) (fun _ _ _ h=>h) (Or.inl ⟨by rfl,?tq5⟩) (HS.out _ HR2.out) ?_
     case tq5=>(intro wq _;go_simp;try with_reducible rfl)
     refine wpAnyH_take (i:=8) (v:=?_) rfl (by kernel_rfl) (by kernel_rfl) (by kernel_rfl) (fun _ _ _ h=>h) (Or.inl ⟨by rfl,?tq6⟩) (HS.out _ HR2.out) ?_
     case tq6=>(intro wq _;go_simp;try with_reducible rfl)
     refine wpAnyH_ready (rs:=[10]) (by kernel_rfl) (by simp) ?_;refine(AllReadyH.cons rfl (fun K hK=>?_) AllReadyH.nil);obtain⟨⟨k0,k1,k2,k3⟩,f0,f1,f2,f3⟩:=four_cells HY.out;go_simp;clear k0 k1 k2 k3 f0 f1 f2 f3;have hl:=row_set (row_set (row_set (row_set HY.out 0 (.int .i64 xop)) 1 (.int .i64 xa)) 2 (.int .i64 xb)) 3 (.int .i64 xc);have hf:Fr (onB y) r2 _:=(((((Fr.refl (onB y) r2).setCell (p:=⟨y,0,none⟩) (fun _=>rfl) (.int .i64 xop)).setCell (p:=⟨y,1,none⟩) (fun _=>rfl) (.int .i64 xa)).setCell (p:=⟨y,2,none⟩) (fun _=>rfl) (.int .i64 xb)).setCell (p:=⟨y,3,none⟩) (fun _=>rfl) (.int .i64 xc));generalize (((r2.setCell ⟨y,0,none⟩ (.int .i64 xop)).setCell ⟨y,1,none⟩ (.int .i64 xa)).setCell ⟨y,2,none⟩ (.int .i64 xb)).setCell ⟨y,3,none⟩ (.int .i64 xc)=r3 at *;have HR3:=k_ (HR2.out.trans (hf.below HR2.out.size (fun k hk=>by unfold onB at hk;omega)));have HY:=k_ hl;clear hl hf;refine hK.out _ _ (HS.out _ HR3.out) (fun _=>?_);clear hK K;refine wpAnyH_ready (rs:=[11]) (by kernel_rfl) (by simp) ?_;refine(AllReadyH.cons rfl (fun K hK=>?_) AllReadyH.nil);go_simp;refine hK.out _ _ (HS.out _ HR3.out) (fun _=>?_);clear hK K;refine wpAnyH_done (by kernel_rfl) ?_ _;refine NoPanic.normal ?_;go_wp2_with fail
     go_meet
     case rel=>exact⟨y,rfl,rfl,HY.out,HR3.out⟩
  ·skip
   go_simp;obtain⟨r1,hr⟩:∃ r,r=r0.alloc (.cells #[.int .i64 0,.int .i64 0,.int .i64 0,.int .i64 0] 63):=⟨_,rfl⟩;obtain⟨y,hy⟩:∃ y,y=r0.heap.size:=⟨_,rfl⟩;have hl:r1.heap[y]?=some (.cells #[.int .i64 0,.int .i64 0,.int .i64 0,.int .i64 0] 63):=by rw[hr,hy];exact heap_new _ _
   have hb:Below r0.heap.size r0 r1:=by rw[hr];exact(Below.refl _ _).alloc (Nat.le_refl _) _
   rw[← hr,← hy];have hyW:W.heap.size≤y:=by have:=HR0.out.size;omega
   have HR1:=k_ (HR0.out.trans (hb.mono HR0.out.size));have HY:=k_ hl;clear hl hb hr hy;refine hK.out _ _ (HS.out _ HR1.out) (fun _=>?_);clear hK K;refine wpAnyH_ready (rs:=[3]) (by kernel_rfl) (by simp) ?_;refine(AllReadyH.cons rfl (fun K hK=>?_) AllReadyH.nil)
   ·skip
    go_simp
    go_at_call 291
    refine(CD.out r1 (HBW.out r1 HR1.out)).mono ?_;rintro e r2 ⟨b,m,rfl,hm,_,hb⟩;have HR2:=k_ (HR1.out.trans (hb.mono HR1.out.size));have HM:=k_ hm;have HY:=k_ ((Fr.of_below hb (fun _=>False)).heap HY.out (fun h=>h));clear hm hb;refine hK.out _ _ (HS.out _ HR2.out) (fun _=>?_);clear hK K;refine wpAnyH_ready (rs:=[5]) (by kernel_rfl) (by simp) ?_;refine(AllReadyH.cons rfl (fun K hK=>?_) AllReadyH.nil)
    ·skip
     have hl:=LK.out r2 b m HM.out;go_simp;clear hl;refine hK.out _ _ (HS.out _ HR2.out) (fun _=>?_);clear hK K;refine wpAnyH_take (i:=6) (v:=?_) rfl (by kernel_rfl) (by kernel_rfl) (by kernel_rfl) (fun _ _ _ h=>h) (Or.inl ⟨by rfl,?tq7⟩) (HS.out _ HR2.out) ?_
     case tq7=>(intro wq _;go_simp;try with_reducible rfl)
     refine wpAnyH_take (i:=7) (v:=?_) rfl (by kernel_rfl) (by kernel_rfl) (by kernel_rfl) (fun _ _ _ h=>h) (Or.inl ⟨by rfl,?tq8⟩) (HS.out _ HR2.out) ?_
     case tq8=>(intro wq _;go_simp;try with_reducible rfl)
     refine wpAnyH_take (i:=8) (v:=?_) rfl (by kernel_rfl) (by kernel_rfl) (by kernel_rfl) (fun _ _ _ h=>h) (Or.inl ⟨by rfl,?tq9⟩) (HS.out _ HR2.out) ?_
     case tq9=>(intro wq _;go_simp;try with_reducible rfl)
     refine wpAnyH_ready (rs:=[10]) (by kernel_rfl) (by simp) ?_;refine(AllReadyH.cons rfl (fun K hK=>?_) AllReadyH.nil);obtain⟨⟨k0,k1,k2,k3⟩,f0,f1,f2,f3⟩:=four_cells HY.out;go_simp;clear k0 k1 k2 k3 f0 f1 f2 f3;have hl:=row_set (row_set (row_set (row_set HY.out 0 (.int .i64 xop)) 1 (.int .i64 xa)) 2 (.int .i64 xb)) 3 (.int .i64 xc);have hf:Fr (onB y) r2 _:=(((((Fr.refl (onB y) r2).setCell (p:=⟨y,0,none⟩) (fun _=>rfl) (.int .i64 xop)).setCell (p:=⟨y,1,none⟩) (fun _=>rfl) (.int .i64 xa)).setCell (p:=⟨y,2,none⟩) (fun _=>rfl) (.int .i64 xb)).setCell (p:=⟨y,3,none⟩) (fun _=>rfl) (.int .i64 xc));generalize (((r2.setCell ⟨y,0,none⟩ (.int .i64 xop)).setCell ⟨y,1,none⟩ (.int .i64 xa)).setCell ⟨y,2,none⟩ (.int .i64 xb)).setCell ⟨y,3,none⟩ (.int .i64 xc)=r3 at *;have HR3:=k_ (HR2.out.trans (hf.below HR2.out.size (fun k hk=>by unfold onB at hk;omega)));have HY:=k_ hl;clear hl hf;refine hK.out _ _ (HS.out _ HR3.out) (fun _=>?_);clear hK K;refine wpAnyH_ready (rs:=[11]) (by kernel_rfl) (by simp) ?_;refine(AllReadyH.cons rfl (fun K hK=>?_) AllReadyH.nil);go_simp;refine hK.out _ _ (HS.out _ HR3.out) (fun _=>?_);clear hK K;refine wpAnyH_done (by kernel_rfl) ?_ _;refine NoPanic.normal ?_;go_wp2_with fail
     go_meet
     case rel=>exact⟨y,rfl,rfl,HY.out,HR3.out⟩
 case rest =>
  obtain⟨y,rfl,rfl,hY,hR⟩:=hcut
  cases is
  ·have e:=HE0.out rfl
   subst e;have hbr:=HBW.out wc hR;clear hY hR;have HBR:=k_ hbr;clear hbr;go_wp2_with fail
   go_ret
   exact⟨rfl,HBR.out⟩
  ·have hin:withinB fn p.funcs.length=true:=by
    cases hw:withinB fn p.funcs.length
    ·have h0:=HIS.out
     unfold iAt codeOf at h0;rw[hw] at h0
     simp at h0
    ·rfl
   obtain⟨j,rfl,hj⟩:∃ j:Nat,fn=j∧j<p.funcs.length:=by
    simp[withinB] at hin
    exact⟨fn.toNat,by omega,by omega⟩
   obtain⟨_,_,_,_,e1,hfs⟩:=HPP.out wc (HBW.out wc hR)
   injection e1 with e1 e2 e3
   clear e2 e3;rw[← e1] at hfs;clear e1;obtain⟨bb,o,rfl,_,y0,y1,y2,y3,y4,g0,g1,g2,g3,g4,hfv⟩:=hfs j hj;obtain⟨rfl,rfl,⟨e0,e1,rfl,_⟩,⟨e2,e3,rfl,_⟩,e4,e5,rfl,_⟩:=hfv;have hE2:=HE1.out rfl;rw[show (p.funcs[((j:Int)).toNat]?).getD fun0=p.funcs[j] from by simp[hj]] at hE2;have hfs2:=HSL.out p.funcs[j] (List.getElem_mem hj);generalize p.funcs[j]=f at *;have HE2:=k_ hE2;clear hE2;obtain⟨k0,k1,k2,k3,k4⟩:=HS.out wc hR;obtain⟨⟨q0,q1,q2,q3⟩,_⟩:=four_cells hY;have hj1:(j:Int)<p.funcs.length:=by omega
   have b0:=World.block_lt k0;have b3:=World.block_lt k3;have bg:=World.block_lt g0;have bq:=World.block_lt q0
   dsimp only at b0 b3 bg bq
   have HY:=k_ hY;clear hY;have HR:=k_ hR;clear hR
   go_upto_region 4 with fail
   go_cut [7] (fun s wx=>∃ z:Nat,s=.pointer (some ⟨z,0,none⟩)∧wx.heap[z]?=some (.cells #[.slice a0 p.globals.length m0,.slice a1 p.shapes.length m1,.slice (some ⟨bb,o,none⟩) p.funcs.length m2,.slice e0 f.args.length e1,.int .i64 f.result,.int .i64 f.slots,.slice e2 f.objects.length e3,.slice e4 f.code.length e5,.int .i64 xop,.int .i64 xa,.int .i64 xb,.int .i64 xc,.int .i64 (j:Int),.int .i64 pc] 360)∧Below W.heap.size W wx)
   case first =>
    go_region
    all_goals
     go_wp2_with fail
     go_meet
     case rel=>exact⟨_,rfl,heap_new _ _,(HR.out.drew).alloc (HR.out.size) _⟩
   case rest =>
    obtain⟨z,rfl,hz,hRz⟩:=hcut;clear k0 k1 k2 k3 k4 q0 q1 q2 q3 g0 g1 g2 g3 g4;have fo:=fun W' (h:Below W.heap.size W W')=>form_any W' D (fun k hk=>Nat.lt_of_lt_of_le (HD.out k hk) (HBW.out W' h).size) p (.slice a0 p.globals.length m0) (.slice a1 p.shapes.length m1) (.slice (some ⟨bb,o,none⟩) p.funcs.length m2) (.slice e0 f.args.length e1) (.slice e2 f.objects.length e3) (.slice e4 f.code.length e5) f.result f.slots ⟨xop,xa,xb,xc⟩ j pc (HPP.out W' (HBW.out W' h)) rfl rfl rfl
    have th:=fun W' (h:Below W.heap.size W W')=>things_z W' D (fun k hk=>Nat.lt_of_lt_of_le (HD.out k hk) (HBW.out W' h).size) p f (.slice a0 p.globals.length m0) (.slice a1 p.shapes.length m1) (.slice (some ⟨bb,o,none⟩) p.funcs.length m2) (.slice e0 f.args.length e1) e2 e4 e3 e5 f.result f.slots ⟨xop,xa,xb,xc⟩ j pc (HPP.out W' (HBW.out W' h)) (HZI.out rfl)
    have sl:=fun W' (h:Below W.heap.size W W')=>slots_any W' D (fun k hk=>Nat.lt_of_lt_of_le (HD.out k hk) (HBW.out W' h).size) p (.slice a0 p.globals.length m0) (.slice a1 p.shapes.length m1) (.slice (some ⟨bb,o,none⟩) p.funcs.length m2) (.slice e0 f.args.length e1) (.slice e2 f.objects.length e3) (.slice e4 f.code.length e5) f.result f.slots ⟨xop,xa,xb,xc⟩ j pc (HPP.out W' (HBW.out W' h)) rfl rfl rfl hfs2 (HLA.out _) (HZI.out rfl)
    have ki:=fun W' (h:Below W.heap.size W W')=>kinds_z W' D (fun k hk=>Nat.lt_of_lt_of_le (HD.out k hk) (HBW.out W' h).size) p (.slice a0 p.globals.length m0) (.slice a1 p.shapes.length m1) (.slice (some ⟨bb,o,none⟩) p.funcs.length m2) (.slice e0 f.args.length e1) (.slice e2 f.objects.length e3) (.slice e4 f.code.length e5) f.result f.slots ⟨xop,xa,xb,xc⟩ j pc (HPP.out W' (HBW.out W' h)) (HZI.out rfl)
    have hfb:∀ q,formB p f ⟨xop,xa,xb,xc⟩=q→q=formB p f ⟨xop,xa,xb,xc⟩:=fun q h=>h.symm
    have fo:∀ W',Below W.heap.size W W'→Calls Tryz.prog 292 _ W' fun e w'=>e=.returned (.bool (formB p f ⟨xop,xa,xb,xc⟩))∧Below W'.heap.size W' w':=fun W' h=>by
     have:=fo W' h;rw[quiet_eq p f] at this;exact this
    rw[slots_eq] at sl;rw[kinds_eq] at ki;have hE3:=HE2.out;unfold instrS at hE3;clear hfb;generalize formB p f ⟨xop,xa,xb,xc⟩=fb at *;generalize thingsB p f ⟨xop,xa,xb,xc⟩=tb at *;generalize slotsB p f ⟨xop,xa,xb,xc⟩=sb at *;generalize kindsB p ⟨xop,xa,xb,xc⟩=kb at *;unfold lookC at fo th sl ki;have hz0':=hz;have FO:=k_ fo;clear fo;have TH:=k_ th;clear th;have SL:=k_ sl;clear sl;have KI:=k_ ki;clear ki;have HE3:=k_ hE3;clear hE3;have HZ0':=k_ hz0';clear hz0';have HRZ:=k_ hRz;clear hRz;obtain⟨p0,p1,p2,p3,p4,p5,p6,p7,p8,p9,p10,p11,p12,p13⟩:=r_14 (hz);clear hz;go_wp2_with fail;refine(FO.out wc HRZ.out).mono ?_;rintro e v1 ⟨rfl,hb1⟩;have hr1:=HRZ.out.trans (hb1.mono HRZ.out.size);have hz1:=(Fr.of_below hb1 (fun _=>False)).heap HZ0'.out (fun h=>h);clear hb1;clear p0 p1 p2 p3 p4 p5 p6 p7 p8 p9 p10 p11 p12 p13;obtain⟨p0,p1,p2,p3,p4,p5,p6,p7,p8,p9,p10,p11,p12,p13⟩:=r_14 (hz1);have HZ1:=k_ hz1;have HR1:=k_ hr1;have HB1:=k_ (HBW.out v1 hr1);clear hz1 hr1
    cases fb
    ·have e:=HE3.out
     simp at e
     subst e;go_wp2_with fail
     go_ret
     exact⟨rfl,HB1.out⟩
    ·skip
     go_wp2_with fail;refine(TH.out v1 HR1.out).mono ?_;rintro e v2 ⟨rfl,hb⟩;have hr:=HR1.out.trans (hb.mono HR1.out.size);have hz:=(Fr.of_below hb (fun _=>False)).heap HZ1.out (fun h=>h);clear hb;clear p0 p1 p2 p3 p4 p5 p6 p7 p8 p9 p10 p11 p12 p13;obtain⟨p0,p1,p2,p3,p4,p5,p6,p7,p8,p9,p10,p11,p12,p13⟩:=r_14 (hz);have HZ2:=k_ hz;have HR2:=k_ hr;have HB2:=k_ (HBW.out v2 hr);clear hz hr
     cases tb
     ·have e:=HE3.out
      simp at e
      subst e;go_wp2_with fail
      go_ret
      exact⟨rfl,HB2.out⟩
     ·skip
      go_wp2_with fail;refine(SL.out v2 HR2.out).mono ?_;rintro e v3 ⟨rfl,hb⟩;have hr:=HR2.out.trans (hb.mono HR2.out.size);have hz:=(Fr.of_below hb (fun _=>False)).heap HZ2.out (fun h=>h);clear hb;clear p0 p1 p2 p3 p4 p5 p6 p7 p8 p9 p10 p11 p12 p13;obtain⟨p0,p1,p2,p3,p4,p5,p6,p7,p8,p9,p10,p11,p12,p13⟩:=r_14 (hz);have HZ3:=k_ hz;have HR3:=k_ hr;have HB3:=k_ (HBW.out v3 hr);clear hz hr
      cases sb
      ·have e:=HE3.out
       simp at e
       subst e;go_wp2_with fail
       go_ret
       exact⟨rfl,HB3.out⟩
      ·skip
       go_wp2_with fail;refine(KI.out v3 HR3.out).mono ?_;rintro e v4 ⟨rfl,hb⟩;have hr:=HR3.out.trans (hb.mono HR3.out.size);have hz:=(Fr.of_below hb (fun _=>False)).heap HZ3.out (fun h=>h);clear hb;clear p0 p1 p2 p3 p4 p5 p6 p7 p8 p9 p10 p11 p12 p13;obtain⟨p0,p1,p2,p3,p4,p5,p6,p7,p8,p9,p10,p11,p12,p13⟩:=r_14 (hz);have HZ4:=k_ hz;have HR4:=k_ hr;have HB4:=k_ (HBW.out v4 hr);clear hz hr
       cases kb
       ·have e:=HE3.out
        simp at e
        subst e;go_wp2_with fail
        go_ret
        exact⟨rfl,HB4.out⟩
       ·have e:=HE3.out
        simp at e
        subst e;go_wp2_with fail
        go_ret
        exact⟨rfl,HB4.out⟩
end Go.Proofs.YtlofbhoicbemnaaGreatDoor
namespace Go.Proofs.YtlofbhoicbemnaaGreatDoor
def frontS (p:Prg) (f:Fun):Int :=
 if f.slots<f.args.length∨16<f.slots∨8<f.objects.length∨f.code.length<1∨64<f.code.length then 1
 else if f.args.all (validB · p.shapes.length)=false then 3
 else if f.result≠0∧fieldB f.result p.shapes.length=false then 3
 else if f.objects.all (withinB · p.shapes.length)=false then 4 else 0
def funF (p:Prg) (fn:Nat) (f:Fun):Int × Nat:=if frontS p f≠0 then (frontS p f,0) else firstAt (fun pc=>instrE p fn pc) f.code.length
def funcS (p:Prg) (fn:Int):Int × Nat:=if withinB fn p.funcs.length=true then funF p fn.toNat ((p.funcs[fn.toNat]?).getD fun0) else (1,0)
def wholeS (p:Prg):Int :=
 if shapesErr p.shapes≠0 then shapesErr p.shapes
 else if 16<p.globals.length∨p.funcs.length<1∨16<p.funcs.length then 1
 else if p.globals.all (fieldB · p.shapes.length)=false then 3
 else if 0<((p.funcs[0]?).getD fun0).args.length∨((p.funcs[0]?).getD fun0).result≠0 then 3 else 0
def progS (p:Prg):Int × Nat × Nat :=
 if wholeS p≠0 then (wholeS p,0,0)
 else ((firstAt (fun i=>(funcS p i).1) p.funcs.length).1,(firstAt (fun i=>(funcS p i).1) p.funcs.length).2,
  if (firstAt (fun i=>(funcS p i).1) p.funcs.length).1=0 then 0 else (funcS p (firstAt (fun i=>(funcS p i).1) p.funcs.length).2).2)
theorem funcS_out {p:Prg} {fn:Int} (h:withinB fn p.funcs.length=false):funcS p fn=(1,0):=by unfold funcS;rw[h];rfl
theorem funcS_at {p:Prg} (k:Nat) (hk:k<p.funcs.length):funcS p k=funF p k p.funcs[k]:=by
 have h:withinB (k:Int) p.funcs.length=true:=by simp[withinB];omega
 unfold funcS;rw[if_pos h]
 simp[hk]
theorem progS_zero (p:Prg):(progS p).1=0↔wholeS p=0∧∀ i,i<p.funcs.length→(funcS p i).1=0:=by
 unfold progS
 by_cases h:wholeS p=0
 ·rw[if_neg (by simpa using h)]
  simp only[h,true_and];exact firstAt_zero
 ·rw[if_pos h]
  simp[h]
theorem funF_front {p:Prg} {k:Nat} {f:Fun} (h:frontS p f≠0):funF p k f=(frontS p f,0):=if_pos h
theorem funF_code {p:Prg} {k:Nat} {f:Fun} (h:frontS p f=0):funF p k f=firstAt (fun pc=>instrE p k pc) f.code.length:=if_neg (by simpa using h)
theorem funF_zero {p:Prg} {k:Nat} {f:Fun} (h:(funF p k f).1=0):∀ j,j<f.code.length→instrE p k j=0:=by
 by_cases h2:frontS p f=0
 ·rw[funF_code h2] at h
  exact firstAt_zero.1 h
 ·rw[funF_front h2] at h
  exact absurd h h2
theorem all_take {α:Type} {P:α→Bool} {l:List α} {k:Nat} (hk:k<l.length) (h:(l.take k).all P=true):(l.take (k+1)).all P=P l[k]:=by
 rw[take_snoc l k hk,List.all_append,h]
 simp
theorem all_no {α:Type} {P:α→Bool} {l:List α} {k:Nat} (hk:k<l.length) (h:P l[k]=false):l.all P=false:=by
 rw[List.all_eq_false];exact⟨l[k],List.getElem_mem hk,by simp[h]⟩
def PrgR (p:Prg):Prop:=(IsZ p∧p.globals.length≤3000)∧p.shapes.length≤3000∧p.funcs.length≤3000∧(∀ s ∈ p.shapes,s.length≤3000)∧∀ f ∈ p.funcs,f.args.length≤3000∧f.objects.length≤3000∧f.code.length≤3000
theorem codeOf_len {p:Prg} (h:PrgR p) (fn:Int):(codeOf p fn).length≤3000:=by
 unfold codeOf
 split
 ·cases hq:p.funcs[fn.toNat]? with
  | none=>simp
  | some f=>exact(h.2.2.2.2 f (List.mem_of_getElem? hq)).2.2
 ·simp
theorem calleeG_len {p:Prg} (h:PrgR p) (i:Ins):(calleeG p i).args.length≤3000:=by
 unfold calleeG calleeF
 split
 ·cases hq:p.funcs[i.b.toNat]? with
  | none=>simp[fun0]
  | some f=>exact(h.2.2.2.2 f (List.mem_of_getElem? hq)).1
 ·simp[fun0]
theorem slots_lt {p:Prg} (h:PrgB p):∀ f ∈ p.funcs,f.slots<9223372036854775808:=fun f hf=>by
 have:=(h.2.2 f hf).2.2.1.2
 omega
open Go.ChangeShapes Go.WideShapes Go.ChangeAt Go.RowKit Go.Maps
theorem wholeC_any (w:World) (D:Nat→Prop) (hD:∀ k,D k→k<w.heap.size) (p:Prg) (c0 c1 c2:Value) (hv:PrgVal w D p c0 c1 c2) (hp:PrgB p) (hq:PrgR p) :
  Calls Tryz.prog 158 #[.agg #[c0,c1,c2]] w fun e w'=>e=.returned (.int .i64 (wholeS p))∧Below w.heap.size w w':=by
 obtain⟨⟨a0,m0,rfl,hg⟩,⟨a1,m1,rfl,hsh⟩,a2,m2,rfl,hfn⟩:=hv;obtain⟨bg,bs,_⟩:=hp;obtain⟨q0,q1,q2,q3,q4⟩:=hq;have hbx:=fun wr h=>box1 w #[.slice a0 p.globals.length m0,.slice a1 p.shapes.length m1,.slice a2 p.funcs.length m2] 48 wr h
 have hz0:(w.alloc (.cells #[.slice a0 p.globals.length m0,.slice a1 p.shapes.length m1,.slice a2 p.funcs.length m2] 48)).heap.size=w.heap.size+1:=by simp
 obtain⟨W,hW⟩:∃ W,W=(w.alloc (.cells #[.slice a0 p.globals.length m0,.slice a1 p.shapes.length m1,.slice a2 p.funcs.length m2] 48)):=⟨_,rfl⟩;rw[← hW] at hbx hz0;have hs:∀ wr,Below W.heap.size W wr→wr.cell? ⟨w.heap.size,0,none⟩=some (.slice a0 p.globals.length m0)∧wr.cell? ⟨w.heap.size,1,none⟩=some (.slice a1 p.shapes.length m1)∧wr.cell? ⟨w.heap.size,2,none⟩=some (.slice a2 p.funcs.length m2):=fun wr h=>by
  rw[hz0] at h;have hb:=hbx wr h;exact⟨hb.1 0 _ rfl,hb.1 1 _ rfl,hb.1 2 _ rfl⟩
 have hbw:∀ wr,Below W.heap.size W wr→Below w.heap.size w wr:=fun wr h=>by rw[hz0] at h;exact(hbx wr h).2.1
 have hw0:=Below.refl W.heap.size W;have hg:∀ wr,Below W.heap.size W wr→IntSl wr D a0 p.globals:=fun wr h=>hg.fr (Fr.of_below (hbw wr h) (fun _=>False)) (fun _ _ h=>h)
 have hfn:∀ wr,Below W.heap.size W wr→FnSl wr D a2 p.funcs:=fun wr h=>hfn.fr (Fr.of_below (hbw wr h) (fun _=>False)) (fun _ _ h=>h)
 have sc:=fun wr (h:Below W.heap.size W wr)=>shapeCheck_any wr D (fun k hk=>Nat.lt_of_lt_of_le (hD k hk) (hbw wr h).size) a1 p.shapes m1 (hsh.fr (Fr.of_below (hbw wr h) (fun _=>False)) (fun _ _ h=>h)) bs q1 q3
 obtain⟨E,hE⟩:∃ E,E=wholeS p:=⟨_,rfl⟩;rw[← hE];unfold wholeS at hE;generalize shapesErr p.shapes=se at *;obtain⟨k0,k1,k2⟩:=hs W hw0;have HW:=k_ hW;have HE:=k_ hE;clear hW hbx hz0 hE hsh bs q3 q4;have HS:=k_ hs;clear hs;have HBW:=k_ hbw;clear hbw;have HW0:=k_ hw0;clear hw0;have HG:=k_ hg;clear hg;have HFN:=k_ hfn;clear hfn;have SC:=k_ sc;clear sc;have HD:=k_ hD;clear hD;have BG:=k_ bg;clear bg
 go_enter Tryz.func158,Tryz.ntmps158
 go_upto_region 1 with fail
 rw[← HW.out];go_wp2_with fail;refine(SC.out W HW0.out).mono ?_;rintro e w1 ⟨rfl,hb1⟩;have HR1:=k_ hb1;have HB1:=k_ (HBW.out w1 hb1);obtain⟨k0,k1,k2⟩:=HS.out w1 hb1;clear hb1;have hE:=HE.out;clear HE
 by_cases hse:se=0
 case neg =>
  have hs1:(se != 0)=true:=by simpa using hse
  rw[if_pos hse] at hE;subst hE;clear hse;go_wp2_with fail
  go_ret
  exact⟨rfl,HB1.out⟩
 subst hse;rw[if_neg (by simp)] at hE
 by_cases hc:16<p.globals.length∨p.funcs.length<1∨16<p.funcs.length
 case pos =>
  rw[if_pos hc] at hE;subst hE
  by_cases c1:(16:Int)<p.globals.length
  ·clear hc
   go_wp2_with fail
   go_ret
   exact⟨rfl,HB1.out⟩
  by_cases c2:(p.funcs.length:Int)<1
  ·clear hc
   go_wp2_with fail
   go_ret
   exact⟨rfl,HB1.out⟩
  by_cases c3:(16:Int)<p.funcs.length
  ·clear hc
   go_wp2_with fail
   go_ret
   exact⟨rfl,HB1.out⟩
  exact absurd hc (by omega)
 rw[if_neg hc] at hE;have c1:¬ (16:Int)<p.globals.length:=by omega
 have c2:¬ (p.funcs.length:Int)<1:=by omega
 have c3:¬ (16:Int)<p.funcs.length:=by omega
 have HE:=k_ hE;clear hE hc;go_wp2_with fail
 go_loopw [31] (fun i wr=>∃ k:Nat,k≤p.globals.length∧i=.int .i64 k∧Below W.heap.size W wr∧(p.globals.take k).all (fieldB · p.shapes.length)=true) (fun i _=>p.globals.length - (intOf i).toNat)
 case atStart=>exact⟨0,Nat.zero_le _,rfl,HR1.out,rfl⟩
 case round =>
  clear k0 k1 k2;obtain⟨k,hk,rfl,hR,hall⟩:=hrel;obtain⟨k0,k1,k2⟩:=HS.out wr hR
  by_cases hlt:k<p.globals.length
  ·obtain⟨b',o',rfl,_,hx⟩:=HG.out wr hR k hlt
   have fi:=fun w=>field_any w p.globals[k] p.shapes.length (by omega) (BG.out _ (List.getElem_mem hlt))
   have hsn:=all_take hlt hall;have hno:=all_no (P:=(fieldB · p.shapes.length)) hlt
   try dsimp only at hsn hno
   generalize p.globals[k]=x at *
   cases hwx:fieldB x p.shapes.length
   ·have e:=HE.out
    rw[if_pos (hno hwx)] at e;subst e;rw[hwx] at fi;clear hsn hno hwx hall;have FI:=k_ fi;clear fi;have HR:=k_ hR;clear hR;go_wp2_with fail;refine(FI.out _).mono ?_;rintro e w9 ⟨rfl,hb9⟩;have HB9:=k_ (HBW.out _ (HR.out.trans (hb9.mono HR.out.size)));clear hb9;go_wp2_with fail
    go_ret
    exact⟨rfl,HB9.out⟩
   ·rw[hwx] at fi hsn
    clear hno hwx hall;have FI:=k_ fi;clear fi;have HR:=k_ hR;clear hR;have HSN:=k_ hsn;clear hsn;go_wp2_with fail;refine(FI.out _).mono ?_;rintro e w9 ⟨rfl,hb9⟩;have HB9:=k_ (HR.out.trans (hb9.mono HR.out.size));clear hb9;go_wp2_with fail
    go_roundw
    case rel=>exact⟨k+1,by omega,by go_num,HB9.out,HSN.out⟩
    case measure=>simp[intOf];omega
  ·have hk':k=p.globals.length:=by omega
   subst hk';rw[List.take_length] at hall;have hE:=HE.out;rw[if_neg (by rw[hall];simp)] at hE;have h0:0<p.funcs.length:=by omega
   obtain⟨b2,o2,rfl,_,y0,y1,y2,y3,y4,g0,g1,g2,g3,g4,hfv⟩:=HFN.out wr hR 0 h0;obtain⟨rfl,rfl,⟨e0,e1,rfl,_⟩,_⟩:=hfv;rw[show (p.funcs[0]?).getD fun0=p.funcs[0] from by simp[h0]] at hE;generalize p.funcs[0]=f at *;simp only[Nat.zero_mul,Nat.add_zero] at g0 g1 g2 g3 g4;have HB9:=k_ (HBW.out wr hR);clear hall HE hR g2 g3 g4;generalize f.args.length=la at *;generalize f.result=fr at *
   by_cases d1:la=0
   ·subst d1
    by_cases d2:fr=0
    ·subst d2
     rw[if_neg (by rintro (h | h) <;> omega)] at hE;subst hE;go_wp2_with fail
     go_ret
     exact⟨rfl,HB9.out⟩
    ·have d3:(fr != 0)=true:=by simpa using d2
     rw[if_pos (Or.inr d2)] at hE;subst hE;go_wp2_with fail
     go_ret
     exact⟨rfl,HB9.out⟩
   ·have d3:0<la:=by omega
    have d4:(0:Int)<la:=by omega
    rw[if_pos (Or.inl d3)] at hE;subst hE;go_wp2_with fail
    go_ret
    exact⟨rfl,HB9.out⟩
end Go.Proofs.YtlofbhoicbemnaaGreatDoor
