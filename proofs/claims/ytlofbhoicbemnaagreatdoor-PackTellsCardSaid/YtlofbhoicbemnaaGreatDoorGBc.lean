/- Walk: check.Instr. What may be: functions, programs: the first error and its place. Nothing of the program's text stands here. Flow, .. -/
import Derived.Test.YtlofbhoicbemnaaGreatDoorGAp
import Derived.Test.YtlofbhoicbemnaaGreatDoorGBb
set_option linter.unusedVariables false
set_option linter.unusedSimpArgs false
set_option maxRecDepth 100000
set_option maxHeartbeats 3200000
namespace Go.Proofs.YtlofbhoicbemnaaGreatDoor
open Go.ChangeShapes Go.WideShapes Go.ChangeAt Go.RowKit Go.Maps
def iAt (p:Prg) (fn pc:Int):Option Ins:=if 0≤pc∧pc<(codeOf p fn).length then (codeOf p fn)[pc.toNat]? else none
theorem J7 (p:Prg) (fn pc:Int) (h:aJ fn∧aJ pc):cF fn (codeOf p fn) (codeOf p fn).length ⟨(fn,pc),h⟩=iAt p fn pc:=by
 unfold cF iAt
 simp
theorem zZ (w:World):(zeroValue 63).run Tryz.prog w=.ok (wm ⟨0,0,0,0⟩) w:=by
 kernel_rfl
theorem rZ {w:World} {b m:Nat} {f:Pl→Option Ins} (h:kE w b m f) (x:Pl) :
  (Instr.lookup 357 (.map (some b)) (.agg #[.int .i64 x.1.1,.int .i64 x.1.2]) true).run Tryz.prog w=.ok (.tuple #[wm ((f x).getD ⟨0,0,0,0⟩),.bool (f x).isSome]) w:=by
 have ht:Tryz.prog.underlying 357=some (.map plK.k 63):=Tryz.underlying357;have hl:=bf.look h ht (zZ w) x trivial
 cases hf:f x with
 | none=>exact(hl.2 hf).2
 | some i=>exact(hl.1 i hf).2
def gI (p:Prg) (fn pc:Int):Int:=match iAt p fn pc with | none=>1 | some i=>il p ((p.funcs[fn.toNat]?).getD lH) i
theorem lL {p:Prg} {fn pc:Int} (h:iAt p fn pc=none):gI p fn pc=1:=by unfold gI;rw[h]
theorem jN {p:Prg} {fn pc:Int} {i:Ins} (h:iAt p fn pc=some i):gI p fn pc=il p ((p.funcs[fn.toNat]?).getD lH) i:=by unfold gI;rw[h]
theorem El {p:Prg} {fn pc:Int} {i:Ins} (hz:IsZ p) (h:iAt p fn pc=some i):Zi i:=by
 unfold iAt at h
 split at h
 ·unfold codeOf at h
  split at h
  ·cases hx:p.funcs[fn.toNat]? with
   | none=>rw[hx] at h;simp at h
   | some f =>
     rw[hx] at h;exact hz f (List.mem_of_getElem? hx) i (List.mem_of_getElem? h)
  ·simp at h
 ·cases h
theorem nX (w:World) (D:Nat→Prop) (p:Prg) (c0 c1 c2:Value) (fn pc:Int) (hD:∀ k,D k→k<w.heap.size) (hv:aD w D p c0 c1 c2) (hfn:aJ fn) (hpc:aJ pc) (hln:(codeOf p fn).length≤3000) (hla:∀ i,(bD p i).args.length≤3000) (hsl:∀ f ∈ p.funcs,f.slots<9223372036854775808) (hzp:IsZ p) :
  Calls Tryz.prog 224 #[.agg #[c0,c1,c2],.agg #[.int .i64 fn,.int .i64 pc]] w fun e w'=>e=.returned (.int .i64 (gI p fn pc))∧Below w.heap.size w w':=by
 have hP:∀ wr,Below w.heap.size w wr→aD wr D p c0 c1 c2:=fun wr hb=>hv.fr (fb_ hb) (fun _ _ h=>h)
 have cd:=fun wr (hb:Below w.heap.size w wr)=>Fq wr D p c0 c1 c2 fn (fun k hk=>Nat.lt_of_lt_of_le (hD k hk) hb.size) (hP wr hb) hfn hln
 have hPP:=hP;obtain⟨⟨a0,m0,rfl,_⟩,⟨a1,m1,rfl,_⟩,a2,m2,rfl,_⟩:=hv;have hbx:=fun wr h=>nz w #[.slice a0 p.globals.length m0,.slice a1 p.shapes.length m1,.slice a2 p.funcs.length m2] #[.int .i64 fn,.int .i64 pc] 48 147 wr h
 have hz0:((w.alloc (.cells #[.slice a0 p.globals.length m0,.slice a1 p.shapes.length m1,.slice a2 p.funcs.length m2] 48)).alloc (.cells #[.int .i64 fn,.int .i64 pc] 147)).heap.size=w.heap.size+2:=by simp
 obtain⟨W,hW⟩:∃ W,W=(w.alloc (.cells #[.slice a0 p.globals.length m0,.slice a1 p.shapes.length m1,.slice a2 p.funcs.length m2] 48)).alloc (.cells #[.int .i64 fn,.int .i64 pc] 147):=⟨_,rfl⟩;rw[← hW] at hbx hz0;have hs:∀ wr,Below W.heap.size W wr→wr.cell? ⟨w.heap.size,0,none⟩=some (.slice a0 p.globals.length m0)∧wr.cell? ⟨w.heap.size,1,none⟩=some (.slice a1 p.shapes.length m1)∧wr.cell? ⟨w.heap.size,2,none⟩=some (.slice a2 p.funcs.length m2)∧wr.cell? ⟨w.heap.size+1,0,none⟩=some (.int .i64 fn)∧wr.cell? ⟨w.heap.size+1,1,none⟩=some (.int .i64 pc):=fun wr h=>by
  rw[hz0] at h;have hb:=hbx wr h;exact⟨hb.1 0 _ rfl,hb.1 1 _ rfl,hb.1 2 _ rfl,hb.2.1 0 _ rfl,hb.2.1 1 _ rfl⟩
 have hbw:∀ wr,Below W.heap.size W wr→Below w.heap.size w wr:=fun wr h=>by rw[hz0] at h;exact(hbx wr h).2.2.1
 have HW:=k_ hW;clear hW hbx hP;obtain⟨i,hi⟩:∃ i,i=(iAt p fn pc).getD ⟨0,0,0,0⟩:=⟨_,rfl⟩;obtain⟨is,his⟩:∃ is,is=(iAt p fn pc).isSome:=⟨_,rfl⟩;have lk:=fun wr b m (h:kE wr b m (cF fn (codeOf p fn) (codeOf p fn).length))=>rZ h ⟨(fn,pc),hfn,hpc⟩
 rw[J7,← hi,← his] at lk;unfold wm at lk;obtain⟨E,hE⟩:∃ E,E=gI p fn pc:=⟨_,rfl⟩;rw[← hE];have hE0:is=false→E=1:=fun h=>by rw[hE];exact lL (by rw[h] at his;cases hx:iAt p fn pc with | none=>rfl | some v=>rw[hx] at his;cases his)
 have hE1:is=true→E=il p ((p.funcs[fn.toNat]?).getD lH) i:=fun h=>by
  rw[hE]
  cases hx:iAt p fn pc with
  | none=>rw[hx] at his;rw[h] at his;cases his
  | some v=>rw[hx] at hi;rw[hi];exact jN hx
 clear hE;have hzi:is=true→Zi i:=fun h=>by
  cases hx:iAt p fn pc with
  | none=>rw[hx] at his;rw[h] at his;cases his
  | some v=>rw[hx] at hi;rw[hi];exact El hzp hx
 obtain⟨xop,xa,xb,xc⟩:=i
 dsimp only at lk
 have hr0:Below W.heap.size W W.drew:=(Below.refl _ _).drew;have HR0:=k_ hr0;clear hr0;have CD:=k_ cd;clear cd;have HS:=k_ hs;clear hs;have HBW:=k_ hbw;clear hbw;have HPP:=k_ hPP;clear hPP;have LK:=k_ lk;clear lk;have HI:=k_ hi;clear hi;have HIS:=k_ his;clear his;have HZ0:=k_ hz0;clear hz0;have HE0:=k_ hE0;clear hE0;have HE1:=k_ hE1;clear hE1;have HZI:=k_ hzi;clear hzi hzp;have HLA:=k_ hla;clear hla;have HSL:=k_ hsl;clear hsl;have HD:=k_ hD;clear hD
 go_enter Tryz.func224,Tryz.ntmps224
 go_upto_region 1 with fail
 rw[← HW.out]
 go_cut [5,6] (fun s5 s6 wx=>∃ y:Nat,s5=.pointer (some ⟨y,0,none⟩)∧s6=.bool is∧wx.heap[y]?=some (.cells #[.int .i64 xop,.int .i64 xa,.int .i64 xb,.int .i64 xc] 63)∧Below W.heap.size W wx)
 case first =>
  refine wp_region_noPanic ?_;refine wp_region_held_drew (S:=fun wr=>wr.cell? ⟨w.heap.size,0,none⟩=some (.slice a0 p.globals.length m0)∧wr.cell? ⟨w.heap.size,1,none⟩=some (.slice a1 p.shapes.length m1)∧wr.cell? ⟨w.heap.size,2,none⟩=some (.slice a2 p.funcs.length m2)∧wr.cell? ⟨w.heap.size+1,0,none⟩=some (.int .i64 fn)∧wr.cell? ⟨w.heap.size+1,1,none⟩=some (.int .i64 pc)) (by kernel_rfl) (HS.out _ HR0.out) (fun _=>?_);generalize W.drew=r0 at *;refine tk_ (i:=0) (v:=?_) rfl (by kernel_rfl) (fun _ _ _ h=>h) ?tk0 (HS.out _ HR0.out) ?_
  case tk0=>(rintro wq ⟨q0,q1,q2,q3,q4⟩;go_simp;try with_reducible rfl)
  refine tk_ (i:=1) (v:=?_) rfl (by kernel_rfl) (fun _ _ _ h=>h) ?tk1 (HS.out _ HR0.out) ?_
  case tk1=>(rintro wq ⟨q0,q1,q2,q3,q4⟩;go_simp;try with_reducible rfl)
  refine tk_ (i:=2) (v:=?_) rfl (by kernel_rfl) (fun _ _ _ h=>h) ?tk2 (HS.out _ HR0.out) ?_
  case tk2=>(rintro wq ⟨q0,q1,q2,q3,q4⟩;go_simp;try with_reducible rfl)
  refine tk_ (i:=4) (v:=?_) rfl (by kernel_rfl) (fun _ _ _ h=>h) ?tk4 (HS.out _ HR0.out) ?_
  case tk4=>(rintro wq ⟨q0,q1,q2,q3,q4⟩;go_simp;try with_reducible rfl)
  refine wpAnyH_ready (rs:=[3,9]) (by kernel_rfl) (by simp) ?_;refine(AllReadyH.cons rfl (fun K hK=>?_) (AllReadyH.cons rfl (fun K hK=>?_) AllReadyH.nil))
  ·skip
   go_simp
   go_at_call 291
   refine(CD.out r0 (HBW.out r0 HR0.out)).mono ?_;rintro e r1 ⟨b,m,rfl,hm,_,hb⟩;have HR1:=k_ (HR0.out.trans (hb.mono HR0.out.size));have HM:=k_ hm;clear hm hb;refine hK.out _ _ (HS.out _ HR1.out) (fun _=>?_);clear hK K;refine wpAnyH_ready (rs:=[5,9]) (by kernel_rfl) (by simp) ?_;refine(AllReadyH.cons rfl (fun K hK=>?_) (AllReadyH.cons rfl (fun K hK=>?_) AllReadyH.nil))
   ·skip
    have hl:=LK.out r1 b m HM.out;go_simp;clear hl;refine hK.out _ _ (HS.out _ HR1.out) (fun _=>?_);clear hK K;refine tk_ (i:=6) (v:=?_) rfl (by kernel_rfl) (fun _ _ _ h=>h) ?tq1 (HS.out _ HR1.out) ?_
    case tq1=>(intro wq _;go_simp;try with_reducible rfl)
    refine tk_ (i:=7) (v:=?_) rfl (by kernel_rfl) (fun _ _ _ h=>h) ?tq2 (HS.out _ HR1.out) ?_
    case tq2=>(intro wq _;go_simp;try with_reducible rfl)
    refine tk_ (i:=8) (v:=?_) rfl (by kernel_rfl) (fun _ _ _ h=>h) ?tq3 (HS.out _ HR1.out) ?_
    case tq3=>(intro wq _;go_simp;try with_reducible rfl)
    refine rd_ (i:=9) (by kernel_rfl) rfl fun K hK=>?_
    ·skip
     go_simp;obtain⟨r2,hr⟩:∃ r,r=r1.alloc (.cells #[.int .i64 0,.int .i64 0,.int .i64 0,.int .i64 0] 63):=⟨_,rfl⟩;obtain⟨y,hy⟩:∃ y,y=r1.heap.size:=⟨_,rfl⟩;have hl:r2.heap[y]?=some (.cells #[.int .i64 0,.int .i64 0,.int .i64 0,.int .i64 0] 63):=by rw[hr,hy];exact ai _ _
     have hb:Below r1.heap.size r1 r2:=by rw[hr];exact(Below.refl _ _).alloc (Nat.le_refl _) _
     rw[← hr,← hy];have hyW:W.heap.size≤y:=by have:=HR1.out.size;omega
     have HR2:=k_ (HR1.out.trans (hb.mono HR1.out.size));have HM:=k_ (HM.out.below hb);have HY:=k_ hl;clear hl hb hr hy;refine hK.out _ _ (HS.out _ HR2.out) (fun _=>?_);clear hK K;refine rd_ (i:=10) (by kernel_rfl) rfl fun K hK=>?_
     obtain⟨⟨k0,k1,k2,k3⟩,f0,f1,f2,f3⟩:=gH HY.out;go_simp;clear k0 k1 k2 k3 f0 f1 f2 f3;have hl:=ag (ag (ag (ag HY.out 0 (.int .i64 xop)) 1 (.int .i64 xa)) 2 (.int .i64 xb)) 3 (.int .i64 xc);have hf:Fr (onB y) r2 _:=(((((Fr.refl (onB y) r2).setCell (p:=⟨y,0,none⟩) (fun _=>rfl) (.int .i64 xop)).setCell (p:=⟨y,1,none⟩) (fun _=>rfl) (.int .i64 xa)).setCell (p:=⟨y,2,none⟩) (fun _=>rfl) (.int .i64 xb)).setCell (p:=⟨y,3,none⟩) (fun _=>rfl) (.int .i64 xc));generalize (((r2.setCell ⟨y,0,none⟩ (.int .i64 xop)).setCell ⟨y,1,none⟩ (.int .i64 xa)).setCell ⟨y,2,none⟩ (.int .i64 xb)).setCell ⟨y,3,none⟩ (.int .i64 xc)=r3 at *;have HR3:=k_ (HR2.out.trans (hf.below HR2.out.size (fun k hk=>by unfold onB at hk;omega)));have HY:=k_ hl;clear hl hf;refine hK.out _ _ (HS.out _ HR3.out) (fun _=>?_);clear hK K;refine rd_ (i:=11) (by kernel_rfl) rfl fun K hK=>?_
     go_simp;refine hK.out _ _ (HS.out _ HR3.out) (fun _=>?_);clear hK K;refine wpAnyH_done (by kernel_rfl) ?_ _;refine NoPanic.normal ?_;go_wp2_with fail
     go_meet
     case rel=>exact⟨y,rfl,rfl,HY.out,HR3.out⟩
   ·skip
    go_simp;obtain⟨r2,hr⟩:∃ r,r=r1.alloc (.cells #[.int .i64 0,.int .i64 0,.int .i64 0,.int .i64 0] 63):=⟨_,rfl⟩;obtain⟨y,hy⟩:∃ y,y=r1.heap.size:=⟨_,rfl⟩;have hl:r2.heap[y]?=some (.cells #[.int .i64 0,.int .i64 0,.int .i64 0,.int .i64 0] 63):=by rw[hr,hy];exact ai _ _
    have hb:Below r1.heap.size r1 r2:=by rw[hr];exact(Below.refl _ _).alloc (Nat.le_refl _) _
    rw[← hr,← hy];have hyW:W.heap.size≤y:=by have:=HR1.out.size;omega
    have HR2:=k_ (HR1.out.trans (hb.mono HR1.out.size));have HM:=k_ (HM.out.below hb);have HY:=k_ hl;clear hl hb hr hy;refine hK.out _ _ (HS.out _ HR2.out) (fun _=>?_);clear hK K;refine rd_ (i:=5) (by kernel_rfl) rfl fun K hK=>?_
    ·skip
     have hl:=LK.out r2 b m HM.out;go_simp;clear hl;refine hK.out _ _ (HS.out _ HR2.out) (fun _=>?_);clear hK K;refine tk_ (i:=6) (v:=?_) rfl (by kernel_rfl) (fun _ _ _ h=>h) ?tq4 (HS.out _ HR2.out) ?_
     case tq4=>(intro wq _;go_simp;try with_reducible rfl)
     refine tk_ (i:=7) (v:=?_) rfl (by kernel_rfl) (fun _ _ _ h=>h) ?tq5 (HS.out _ HR2.out) ?_
     case tq5=>(intro wq _;go_simp;try with_reducible rfl)
     refine tk_ (i:=8) (v:=?_) rfl (by kernel_rfl) (fun _ _ _ h=>h) ?tq6 (HS.out _ HR2.out) ?_
     case tq6=>(intro wq _;go_simp;try with_reducible rfl)
     refine rd_ (i:=10) (by kernel_rfl) rfl fun K hK=>?_
     obtain⟨⟨k0,k1,k2,k3⟩,f0,f1,f2,f3⟩:=gH HY.out;go_simp;clear k0 k1 k2 k3 f0 f1 f2 f3;have hl:=ag (ag (ag (ag HY.out 0 (.int .i64 xop)) 1 (.int .i64 xa)) 2 (.int .i64 xb)) 3 (.int .i64 xc);have hf:Fr (onB y) r2 _:=(((((Fr.refl (onB y) r2).setCell (p:=⟨y,0,none⟩) (fun _=>rfl) (.int .i64 xop)).setCell (p:=⟨y,1,none⟩) (fun _=>rfl) (.int .i64 xa)).setCell (p:=⟨y,2,none⟩) (fun _=>rfl) (.int .i64 xb)).setCell (p:=⟨y,3,none⟩) (fun _=>rfl) (.int .i64 xc));generalize (((r2.setCell ⟨y,0,none⟩ (.int .i64 xop)).setCell ⟨y,1,none⟩ (.int .i64 xa)).setCell ⟨y,2,none⟩ (.int .i64 xb)).setCell ⟨y,3,none⟩ (.int .i64 xc)=r3 at *;have HR3:=k_ (HR2.out.trans (hf.below HR2.out.size (fun k hk=>by unfold onB at hk;omega)));have HY:=k_ hl;clear hl hf;refine hK.out _ _ (HS.out _ HR3.out) (fun _=>?_);clear hK K;refine rd_ (i:=11) (by kernel_rfl) rfl fun K hK=>?_
     go_simp;refine hK.out _ _ (HS.out _ HR3.out) (fun _=>?_);clear hK K;refine wpAnyH_done (by kernel_rfl) ?_ _;refine NoPanic.normal ?_;go_wp2_with fail
     go_meet
     case rel=>exact⟨y,rfl,rfl,HY.out,HR3.out⟩
  ·skip
   go_simp;obtain⟨r1,hr⟩:∃ r,r=r0.alloc (.cells #[.int .i64 0,.int .i64 0,.int .i64 0,.int .i64 0] 63):=⟨_,rfl⟩;obtain⟨y,hy⟩:∃ y,y=r0.heap.size:=⟨_,rfl⟩;have hl:r1.heap[y]?=some (.cells #[.int .i64 0,.int .i64 0,.int .i64 0,.int .i64 0] 63):=by rw[hr,hy];exact ai _ _
   have hb:Below r0.heap.size r0 r1:=by rw[hr];exact(Below.refl _ _).alloc (Nat.le_refl _) _
   rw[← hr,← hy];have hyW:W.heap.size≤y:=by have:=HR0.out.size;omega
   have HR1:=k_ (HR0.out.trans (hb.mono HR0.out.size));have HY:=k_ hl;clear hl hb hr hy;refine hK.out _ _ (HS.out _ HR1.out) (fun _=>?_);clear hK K;refine rd_ (i:=3) (by kernel_rfl) rfl fun K hK=>?_
   ·skip
    go_simp
    go_at_call 291
    refine(CD.out r1 (HBW.out r1 HR1.out)).mono ?_;rintro e r2 ⟨b,m,rfl,hm,_,hb⟩;have HR2:=k_ (HR1.out.trans (hb.mono HR1.out.size));have HM:=k_ hm;have HY:=k_ ((fb_ hb).heap HY.out (fun h=>h));clear hm hb;refine hK.out _ _ (HS.out _ HR2.out) (fun _=>?_);clear hK K;refine rd_ (i:=5) (by kernel_rfl) rfl fun K hK=>?_
    ·skip
     have hl:=LK.out r2 b m HM.out;go_simp;clear hl;refine hK.out _ _ (HS.out _ HR2.out) (fun _=>?_);clear hK K;refine tk_ (i:=6) (v:=?_) rfl (by kernel_rfl) (fun _ _ _ h=>h) ?tq7 (HS.out _ HR2.out) ?_
     case tq7=>(intro wq _;go_simp;try with_reducible rfl)
     refine tk_ (i:=7) (v:=?_) rfl (by kernel_rfl) (fun _ _ _ h=>h) ?tq8 (HS.out _ HR2.out) ?_
     case tq8=>(intro wq _;go_simp;try with_reducible rfl)
     refine tk_ (i:=8) (v:=?_) rfl (by kernel_rfl) (fun _ _ _ h=>h) ?tq9 (HS.out _ HR2.out) ?_
     case tq9=>(intro wq _;go_simp;try with_reducible rfl)
     refine rd_ (i:=10) (by kernel_rfl) rfl fun K hK=>?_
     obtain⟨⟨k0,k1,k2,k3⟩,f0,f1,f2,f3⟩:=gH HY.out;go_simp;clear k0 k1 k2 k3 f0 f1 f2 f3;have hl:=ag (ag (ag (ag HY.out 0 (.int .i64 xop)) 1 (.int .i64 xa)) 2 (.int .i64 xb)) 3 (.int .i64 xc);have hf:Fr (onB y) r2 _:=(((((Fr.refl (onB y) r2).setCell (p:=⟨y,0,none⟩) (fun _=>rfl) (.int .i64 xop)).setCell (p:=⟨y,1,none⟩) (fun _=>rfl) (.int .i64 xa)).setCell (p:=⟨y,2,none⟩) (fun _=>rfl) (.int .i64 xb)).setCell (p:=⟨y,3,none⟩) (fun _=>rfl) (.int .i64 xc));generalize (((r2.setCell ⟨y,0,none⟩ (.int .i64 xop)).setCell ⟨y,1,none⟩ (.int .i64 xa)).setCell ⟨y,2,none⟩ (.int .i64 xb)).setCell ⟨y,3,none⟩ (.int .i64 xc)=r3 at *;have HR3:=k_ (HR2.out.trans (hf.below HR2.out.size (fun k hk=>by unfold onB at hk;omega)));have HY:=k_ hl;clear hl hf;refine hK.out _ _ (HS.out _ HR3.out) (fun _=>?_);clear hK K;refine rd_ (i:=11) (by kernel_rfl) rfl fun K hK=>?_
     go_simp;refine hK.out _ _ (HS.out _ HR3.out) (fun _=>?_);clear hK K;refine wpAnyH_done (by kernel_rfl) ?_ _;refine NoPanic.normal ?_;go_wp2_with fail
     go_meet
     case rel=>exact⟨y,rfl,rfl,HY.out,HR3.out⟩
 case rest =>
  obtain⟨y,rfl,rfl,hY,hR⟩:=hcut
  cases is
  ·have e:=HE0.out rfl
   subst e;have hbr:=HBW.out wc hR;clear hY hR;have HBR:=k_ hbr;clear hbr;go_wp2_with fail
   go_ret
   exact⟨rfl,HBR.out⟩
  ·have hin:au fn p.funcs.length=true:=by
    cases hw:au fn p.funcs.length
    ·have h0:=HIS.out
     unfold iAt codeOf at h0;rw[hw] at h0
     simp at h0
    ·rfl
   obtain⟨j,rfl,hj⟩:∃ j:Nat,fn=j∧j<p.funcs.length:=by
    simp[au] at hin
    exact⟨fn.toNat,by omega,by omega⟩
   obtain⟨_,_,_,_,e1,hfs⟩:=HPP.out wc (HBW.out wc hR)
   injection e1 with e1 e2 e3
   clear e2 e3;rw[← e1] at hfs;clear e1;obtain⟨bb,o,rfl,_,y0,y1,y2,y3,y4,g0,g1,g2,g3,g4,hfv⟩:=hfs j hj;obtain⟨rfl,rfl,⟨e0,e1,rfl,_⟩,⟨e2,e3,rfl,_⟩,e4,e5,rfl,_⟩:=hfv;have hE2:=HE1.out rfl;rw[show (p.funcs[((j:Int)).toNat]?).getD lH=p.funcs[j] from by simp[hj]] at hE2;have hfs2:=HSL.out p.funcs[j] (List.getElem_mem hj);generalize p.funcs[j]=f at *;have HE2:=k_ hE2;clear hE2;obtain⟨k0,k1,k2,k3,k4⟩:=HS.out wc hR;obtain⟨⟨q0,q1,q2,q3⟩,_⟩:=gH hY;have hj1:(j:Int)<p.funcs.length:=by omega
   have b0:=World.block_lt k0;have b3:=World.block_lt k3;have bg:=World.block_lt g0;have bq:=World.block_lt q0
   dsimp only at b0 b3 bg bq
   have HY:=k_ hY;clear hY;have HR:=k_ hR;clear hR
   go_upto_region 4 with fail
   go_cut [7] (fun s wx=>∃ z:Nat,s=.pointer (some ⟨z,0,none⟩)∧wx.heap[z]?=some (.cells #[.slice a0 p.globals.length m0,.slice a1 p.shapes.length m1,.slice (some ⟨bb,o,none⟩) p.funcs.length m2,.slice e0 f.args.length e1,.int .i64 f.result,.int .i64 f.slots,.slice e2 f.objects.length e3,.slice e4 f.code.length e5,.int .i64 xop,.int .i64 xa,.int .i64 xb,.int .i64 xc,.int .i64 (j:Int),.int .i64 pc] 360)∧Below W.heap.size W wx)
   case first =>
    go_region
    all_goals
     go_wp2_with fail
     go_meet
     case rel=>exact⟨_,rfl,ai _ _,(HR.out.drew).alloc (HR.out.size) _⟩
   case rest =>
    obtain⟨z,rfl,hz,hRz⟩:=hcut;clear k0 k1 k2 k3 k4 q0 q1 q2 q3 g0 g1 g2 g3 g4;have fo:=fun W' (h:Below W.heap.size W W')=>Eg W' D (fun k hk=>Nat.lt_of_lt_of_le (HD.out k hk) (HBW.out W' h).size) p (.slice a0 p.globals.length m0) (.slice a1 p.shapes.length m1) (.slice (some ⟨bb,o,none⟩) p.funcs.length m2) (.slice e0 f.args.length e1) (.slice e2 f.objects.length e3) (.slice e4 f.code.length e5) f.result f.slots ⟨xop,xa,xb,xc⟩ j pc (HPP.out W' (HBW.out W' h)) rfl rfl rfl
    have th:=fun W' (h:Below W.heap.size W W')=>Em W' D (fun k hk=>Nat.lt_of_lt_of_le (HD.out k hk) (HBW.out W' h).size) p f (.slice a0 p.globals.length m0) (.slice a1 p.shapes.length m1) (.slice (some ⟨bb,o,none⟩) p.funcs.length m2) (.slice e0 f.args.length e1) e2 e4 e3 e5 f.result f.slots ⟨xop,xa,xb,xc⟩ j pc (HPP.out W' (HBW.out W' h)) (HZI.out rfl)
    have sl:=fun W' (h:Below W.heap.size W W')=>Dc W' D (fun k hk=>Nat.lt_of_lt_of_le (HD.out k hk) (HBW.out W' h).size) p (.slice a0 p.globals.length m0) (.slice a1 p.shapes.length m1) (.slice (some ⟨bb,o,none⟩) p.funcs.length m2) (.slice e0 f.args.length e1) (.slice e2 f.objects.length e3) (.slice e4 f.code.length e5) f.result f.slots ⟨xop,xa,xb,xc⟩ j pc (HPP.out W' (HBW.out W' h)) rfl rfl rfl hfs2 (HLA.out _) (HZI.out rfl)
    have ki:=fun W' (h:Below W.heap.size W W')=>Iw W' D (fun k hk=>Nat.lt_of_lt_of_le (HD.out k hk) (HBW.out W' h).size) p (.slice a0 p.globals.length m0) (.slice a1 p.shapes.length m1) (.slice (some ⟨bb,o,none⟩) p.funcs.length m2) (.slice e0 f.args.length e1) (.slice e2 f.objects.length e3) (.slice e4 f.code.length e5) f.result f.slots ⟨xop,xa,xb,xc⟩ j pc (HPP.out W' (HBW.out W' h)) (HZI.out rfl)
    have hfb:∀ q,tC p f ⟨xop,xa,xb,xc⟩=q→q=tC p f ⟨xop,xa,xb,xc⟩:=fun q h=>h.symm
    have fo:∀ W',Below W.heap.size W W'→Calls Tryz.prog 292 _ W' fun e w'=>e=.returned (.bool (tC p f ⟨xop,xa,xb,xc⟩))∧Below W'.heap.size W' w':=fun W' h=>by
     have:=fo W' h;rw[xC p f] at this;exact this
    rw[Ef] at sl;rw[Ej] at ki;have hE3:=HE2.out;unfold il at hE3;clear hfb;generalize tC p f ⟨xop,xa,xb,xc⟩=fb at *;generalize gB p f ⟨xop,xa,xb,xc⟩=tb at *;generalize nS p f ⟨xop,xa,xb,xc⟩=sb at *;generalize pW p ⟨xop,xa,xb,xc⟩=kb at *;unfold bQ at fo th sl ki;have hz0':=hz;have FO:=k_ fo;clear fo;have TH:=k_ th;clear th;have SL:=k_ sl;clear sl;have KI:=k_ ki;clear ki;have HE3:=k_ hE3;clear hE3;have HZ0':=k_ hz0';clear hz0';have HRZ:=k_ hRz;clear hRz;have p0:wc.cell? ⟨z,0,none⟩=some _:=(aa hz 0).1;have p1:wc.cell? ⟨z,1,none⟩=some _:=(aa hz 1).1;have p2:wc.cell? ⟨z,2,none⟩=some _:=(aa hz 2).1;have p3:wc.cell? ⟨z,3,none⟩=some _:=(aa hz 3).1;have p4:wc.cell? ⟨z,4,none⟩=some _:=(aa hz 4).1;have p5:wc.cell? ⟨z,5,none⟩=some _:=(aa hz 5).1;have p6:wc.cell? ⟨z,6,none⟩=some _:=(aa hz 6).1;have p7:wc.cell? ⟨z,7,none⟩=some _:=(aa hz 7).1;have p8:wc.cell? ⟨z,8,none⟩=some _:=(aa hz 8).1;have p9:wc.cell? ⟨z,9,none⟩=some _:=(aa hz 9).1;have p10:wc.cell? ⟨z,10,none⟩=some _:=(aa hz 10).1;have p11:wc.cell? ⟨z,11,none⟩=some _:=(aa hz 11).1;have p12:wc.cell? ⟨z,12,none⟩=some _:=(aa hz 12).1;have p13:wc.cell? ⟨z,13,none⟩=some _:=(aa hz 13).1;clear hz;go_wp2_with fail;refine(FO.out wc HRZ.out).mono ?_;rintro e v1 ⟨rfl,hb1⟩;have hr1:=HRZ.out.trans (hb1.mono HRZ.out.size);have hz1:=(fb_ hb1).heap HZ0'.out (fun h=>h);clear hb1;clear p0 p1 p2 p3 p4 p5 p6 p7 p8 p9 p10 p11 p12 p13;have p0:v1.cell? ⟨z,0,none⟩=some _:=(aa hz1 0).1;have p1:v1.cell? ⟨z,1,none⟩=some _:=(aa hz1 1).1;have p2:v1.cell? ⟨z,2,none⟩=some _:=(aa hz1 2).1;have p3:v1.cell? ⟨z,3,none⟩=some _:=(aa hz1 3).1;have p4:v1.cell? ⟨z,4,none⟩=some _:=(aa hz1 4).1;have p5:v1.cell? ⟨z,5,none⟩=some _:=(aa hz1 5).1;have p6:v1.cell? ⟨z,6,none⟩=some _:=(aa hz1 6).1;have p7:v1.cell? ⟨z,7,none⟩=some _:=(aa hz1 7).1;have p8:v1.cell? ⟨z,8,none⟩=some _:=(aa hz1 8).1;have p9:v1.cell? ⟨z,9,none⟩=some _:=(aa hz1 9).1;have p10:v1.cell? ⟨z,10,none⟩=some _:=(aa hz1 10).1;have p11:v1.cell? ⟨z,11,none⟩=some _:=(aa hz1 11).1;have p12:v1.cell? ⟨z,12,none⟩=some _:=(aa hz1 12).1;have p13:v1.cell? ⟨z,13,none⟩=some _:=(aa hz1 13).1;have HZ1:=k_ hz1;have HR1:=k_ hr1;have HB1:=k_ (HBW.out v1 hr1);clear hz1 hr1
    cases fb
    ·have e:=HE3.out
     simp at e
     subst e;go_wp2_with fail
     go_ret
     exact⟨rfl,HB1.out⟩
    ·skip
     go_wp2_with fail;refine(TH.out v1 HR1.out).mono ?_;rintro e v2 ⟨rfl,hb⟩;have hr:=HR1.out.trans (hb.mono HR1.out.size);have hz:=(fb_ hb).heap HZ1.out (fun h=>h);clear hb;clear p0 p1 p2 p3 p4 p5 p6 p7 p8 p9 p10 p11 p12 p13;have p0:v2.cell? ⟨z,0,none⟩=some _:=(aa hz 0).1;have p1:v2.cell? ⟨z,1,none⟩=some _:=(aa hz 1).1;have p2:v2.cell? ⟨z,2,none⟩=some _:=(aa hz 2).1;have p3:v2.cell? ⟨z,3,none⟩=some _:=(aa hz 3).1;have p4:v2.cell? ⟨z,4,none⟩=some _:=(aa hz 4).1;have p5:v2.cell? ⟨z,5,none⟩=some _:=(aa hz 5).1;have p6:v2.cell? ⟨z,6,none⟩=some _:=(aa hz 6).1;have p7:v2.cell? ⟨z,7,none⟩=some _:=(aa hz 7).1;have p8:v2.cell? ⟨z,8,none⟩=some _:=(aa hz 8).1;have p9:v2.cell? ⟨z,9,none⟩=some _:=(aa hz 9).1;have p10:v2.cell? ⟨z,10,none⟩=some _:=(aa hz 10).1;have p11:v2.cell? ⟨z,11,none⟩=some _:=(aa hz 11).1;have p12:v2.cell? ⟨z,12,none⟩=some _:=(aa hz 12).1;have p13:v2.cell? ⟨z,13,none⟩=some _:=(aa hz 13).1;have HZ2:=k_ hz;have HR2:=k_ hr;have HB2:=k_ (HBW.out v2 hr);clear hz hr
     cases tb
     ·have e:=HE3.out
      simp at e
      subst e;go_wp2_with fail
      go_ret
      exact⟨rfl,HB2.out⟩
     ·skip
      go_wp2_with fail;refine(SL.out v2 HR2.out).mono ?_;rintro e v3 ⟨rfl,hb⟩;have hr:=HR2.out.trans (hb.mono HR2.out.size);have hz:=(fb_ hb).heap HZ2.out (fun h=>h);clear hb;clear p0 p1 p2 p3 p4 p5 p6 p7 p8 p9 p10 p11 p12 p13;have p0:v3.cell? ⟨z,0,none⟩=some _:=(aa hz 0).1;have p1:v3.cell? ⟨z,1,none⟩=some _:=(aa hz 1).1;have p2:v3.cell? ⟨z,2,none⟩=some _:=(aa hz 2).1;have p3:v3.cell? ⟨z,3,none⟩=some _:=(aa hz 3).1;have p4:v3.cell? ⟨z,4,none⟩=some _:=(aa hz 4).1;have p5:v3.cell? ⟨z,5,none⟩=some _:=(aa hz 5).1;have p6:v3.cell? ⟨z,6,none⟩=some _:=(aa hz 6).1;have p7:v3.cell? ⟨z,7,none⟩=some _:=(aa hz 7).1;have p8:v3.cell? ⟨z,8,none⟩=some _:=(aa hz 8).1;have p9:v3.cell? ⟨z,9,none⟩=some _:=(aa hz 9).1;have p10:v3.cell? ⟨z,10,none⟩=some _:=(aa hz 10).1;have p11:v3.cell? ⟨z,11,none⟩=some _:=(aa hz 11).1;have p12:v3.cell? ⟨z,12,none⟩=some _:=(aa hz 12).1;have p13:v3.cell? ⟨z,13,none⟩=some _:=(aa hz 13).1;have HZ3:=k_ hz;have HR3:=k_ hr;have HB3:=k_ (HBW.out v3 hr);clear hz hr
      cases sb
      ·have e:=HE3.out
       simp at e
       subst e;go_wp2_with fail
       go_ret
       exact⟨rfl,HB3.out⟩
      ·skip
       go_wp2_with fail;refine(KI.out v3 HR3.out).mono ?_;rintro e v4 ⟨rfl,hb⟩;have hr:=HR3.out.trans (hb.mono HR3.out.size);have hz:=(fb_ hb).heap HZ3.out (fun h=>h);clear hb;clear p0 p1 p2 p3 p4 p5 p6 p7 p8 p9 p10 p11 p12 p13;have p0:v4.cell? ⟨z,0,none⟩=some _:=(aa hz 0).1;have p1:v4.cell? ⟨z,1,none⟩=some _:=(aa hz 1).1;have p2:v4.cell? ⟨z,2,none⟩=some _:=(aa hz 2).1;have p3:v4.cell? ⟨z,3,none⟩=some _:=(aa hz 3).1;have p4:v4.cell? ⟨z,4,none⟩=some _:=(aa hz 4).1;have p5:v4.cell? ⟨z,5,none⟩=some _:=(aa hz 5).1;have p6:v4.cell? ⟨z,6,none⟩=some _:=(aa hz 6).1;have p7:v4.cell? ⟨z,7,none⟩=some _:=(aa hz 7).1;have p8:v4.cell? ⟨z,8,none⟩=some _:=(aa hz 8).1;have p9:v4.cell? ⟨z,9,none⟩=some _:=(aa hz 9).1;have p10:v4.cell? ⟨z,10,none⟩=some _:=(aa hz 10).1;have p11:v4.cell? ⟨z,11,none⟩=some _:=(aa hz 11).1;have p12:v4.cell? ⟨z,12,none⟩=some _:=(aa hz 12).1;have p13:v4.cell? ⟨z,13,none⟩=some _:=(aa hz 13).1;have HZ4:=k_ hz;have HR4:=k_ hr;have HB4:=k_ (HBW.out v4 hr);clear hz hr
       cases kb
       ·have e:=HE3.out
        simp at e
        subst e;go_wp2_with fail
        go_ret
        exact⟨rfl,HB4.out⟩
       ·have e:=HE3.out
        simp at e
        subst e;go_wp2_with fail
        go_ret
        exact⟨rfl,HB4.out⟩
end Go.Proofs.YtlofbhoicbemnaaGreatDoor
namespace Go.Proofs.YtlofbhoicbemnaaGreatDoor
def iT (p:Prg) (f:Fun):Int :=
 if f.slots<f.args.length∨16<f.slots∨8<f.objects.length∨f.code.length<1∨64<f.code.length then 1
 else if f.args.all (iV · p.shapes.length)=false then 3
 else if f.result≠0∧cK f.result p.shapes.length=false then 3
 else if f.objects.all (au · p.shapes.length)=false then 4 else 0
def Eb (p:Prg) (fn:Nat) (f:Fun):Int × Nat:=if iT p f≠0 then (iT p f,0) else dn (fun pc=>gI p fn pc) f.code.length
def dU (p:Prg) (fn:Int):Int × Nat:=if au fn p.funcs.length=true then Eb p fn.toNat ((p.funcs[fn.toNat]?).getD lH) else (1,0)
def iC (p:Prg):Int :=
 if bU p.shapes≠0 then bU p.shapes
 else if 16<p.globals.length∨p.funcs.length<1∨16<p.funcs.length then 1
 else if p.globals.all (cK · p.shapes.length)=false then 3
 else if 0<((p.funcs[0]?).getD lH).args.length∨((p.funcs[0]?).getD lH).result≠0 then 3 else 0
def gu (p:Prg):Int × Nat × Nat :=
 if iC p≠0 then (iC p,0,0)
 else ((dn (fun i=>(dU p i).1) p.funcs.length).1,(dn (fun i=>(dU p i).1) p.funcs.length).2,
  if (dn (fun i=>(dU p i).1) p.funcs.length).1=0 then 0 else (dU p (dn (fun i=>(dU p i).1) p.funcs.length).2).2)
theorem Dy {p:Prg} {fn:Int} (h:au fn p.funcs.length=false):dU p fn=(1,0):=by unfold dU;rw[h];rfl
theorem xB {p:Prg} (k:Nat) (hk:k<p.funcs.length):dU p k=Eb p k p.funcs[k]:=by
 have h:au (k:Int) p.funcs.length=true:=by simp[au];omega
 unfold dU;rw[if_pos h]
 simp[hk]
theorem zm (p:Prg):(gu p).1=0↔iC p=0∧∀ i,i<p.funcs.length→(dU p i).1=0:=by
 unfold gu
 by_cases h:iC p=0
 ·rw[if_neg (by simpa using h)]
  simp only[h,true_and];exact pF
 ·rw[if_pos h]
  simp[h]
theorem nY {p:Prg} {k:Nat} {f:Fun} (h:iT p f≠0):Eb p k f=(iT p f,0):=if_pos h
theorem uu {p:Prg} {k:Nat} {f:Fun} (h:iT p f=0):Eb p k f=dn (fun pc=>gI p k pc) f.code.length:=if_neg (by simpa using h)
theorem BN {p:Prg} {k:Nat} {f:Fun} (h:(Eb p k f).1=0):∀ j,j<f.code.length→gI p k j=0:=by
 by_cases h2:iT p f=0
 ·rw[uu h2] at h
  exact pF.1 h
 ·rw[nY h2] at h
  exact absurd h h2
theorem pJ {α:Type} {P:α→Bool} {l:List α} {k:Nat} (hk:k<l.length) (h:(l.take k).all P=true):(l.take (k+1)).all P=P l[k]:=by
 rw[aK l k hk,List.all_append,h]
 simp
theorem wR {α:Type} {P:α→Bool} {l:List α} {k:Nat} (hk:k<l.length) (h:P l[k]=false):l.all P=false:=by
 rw[List.all_eq_false];exact⟨l[k],List.getElem_mem hk,by simp[h]⟩
def qP (p:Prg):Prop:=(IsZ p∧p.globals.length≤3000)∧p.shapes.length≤3000∧p.funcs.length≤3000∧(∀ s ∈ p.shapes,s.length≤3000)∧∀ f ∈ p.funcs,f.args.length≤3000∧f.objects.length≤3000∧f.code.length≤3000
theorem nV {p:Prg} (h:qP p) (fn:Int):(codeOf p fn).length≤3000:=by
 unfold codeOf
 split
 ·cases hq:p.funcs[fn.toNat]? with
  | none=>simp
  | some f=>exact(h.2.2.2.2 f (List.mem_of_getElem? hq)).2.2
 ·simp
theorem lN {p:Prg} (h:qP p) (i:Ins):(bD p i).args.length≤3000:=by
 unfold bD bF
 split
 ·cases hq:p.funcs[i.b.toNat]? with
  | none=>simp[lH]
  | some f=>exact(h.2.2.2.2 f (List.mem_of_getElem? hq)).1
 ·simp[lH]
theorem tT {p:Prg} (h:pM p):∀ f ∈ p.funcs,f.slots<9223372036854775808:=fun f hf=>by
 have:=(h.2.2 f hf).2.2.1.2
 omega
def dO (K:List Int) (k:Int):Int:=if 0≤k∧k<K.length then (K[k.toNat]?).getD 0 else 0
def JU (p:Prg) (of k:Int):Int:=if of<p.shapes.length∧0≤k∧k<((p.shapes[of.toNat]?).getD []).length then (((p.shapes[of.toNat]?).getD [])[k.toNat]?).getD 0 else 0
def D9 (x:Int):Bool:=decide (16≤x) && decide (x<32)
def I6 (loc:Bool) (x:Int):Option Int:=if loc then (if zy x then some (x - 64) else none) else if D9 x then some (x - 16) else none
def KP (p:Prg) (o:Option Int) (fld:Int):Int:=match o with | none=>0 | some of=>JU p of fld
def iQ (p:Prg) (op:Int) (K:List Int) (slot fld:Int):Int:=KP p (I6 (decide (op=19∨op=20)) (dO K slot)) fld
def dE (p:Prg) (b:Int):Fun:=(p.funcs[b.toNat]?).getD lH
def Gt (K:List Int) (c:Int) (l:List Int) (n:Nat):Bool:=(List.range n).all fun k=>dO K (c+(k:Int)) == (l[k]?).getD 0
def Bh (p:Prg) (k:Int):Int:=(p.globals[k.toNat]?).getD 0
def cu (p:Prg) (r:Int) (i:Ins) (K:List Int):Bool :=
 if 3≤i.op∧i.op≤8 then dO K i.b == 1 && dO K i.c == 1
 else if i.op=2 then dO K i.b != 0
 else if i.op=10∨i.op=29 then dO K i.a == 1
 else if i.op=12 then D9 (dO K i.b)
 else if i.op=14∨i.op=19 then iQ p i.op K i.b i.c != 0
 else if i.op=15∨i.op=20 then iQ p i.op K i.a i.b != 0 && dO K i.c == iQ p i.op K i.a i.b
 else if i.op=17 then dO K i.b == Bh p i.a
 else if i.op=21∨i.op=23∨i.op=24 then Gt K i.c (dE p i.b).args (dE p i.b).args.length
 else if i.op=22 then r == 0 || dO K i.a == r
 else if i.op=25 then dO K i.a == 1 && dO K i.b == 16
 else true
def jv (p:Prg) (f:Fun) (i:Ins) (K:List Int):Int :=
 if i.op=2 then dO K i.b
 else if i.op=11∨i.op=13 then 16+i.b
 else if i.op=14∨i.op=19 then iQ p i.op K i.b i.c
 else if i.op=16 then Bh p i.b
 else if i.op=18 then 64+(f.objects[i.b.toNat]?).getD 0
 else if i.op=21 then (dE p i.b).result
 else 1
def iI (p:Prg) (i:Ins):Bool:=dF i.op && (i.op != 21 || (dE p i.b).result != 0)
def dL (p:Prg) (f:Fun) (i:Ins) (K:List Int):List Int :=
 if i.op=26 then (if iI p i then K.set i.a.toNat (if cu p f.result i K then jv p f i K else 0) else K).set i.b.toNat 16
 else (if iI p i then K.set i.a.toNat (if cu p f.result i K then jv p f i K else 0) else K)
def dB (i:Ins) (pc:Int):List Int :=
 if i.op=22∨i.op=25∨i.op=27 then [] else if i.op=9 then [i.b] else if i.op=10∧i.b≠pc+1 then [pc+1,i.b] else [pc+1]
def joinL (a b:List Int):List Int:=List.zipWith (fun x y=>if x=y then x else 0) a b
theorem Ex (p:Prg) (f:Fun) (i:Ins) (K:List Int):(dL p f i K).length=K.length:=by
 unfold dL
 split <;> split <;> simp
def Le (K L:List Int):Prop:=K.length=L.length∧∀ j:Nat,(K[j]?).getD 0=0∨(K[j]?).getD 0=(L[j]?).getD 0
theorem Le.refl (K:List Int):Le K K:=⟨rfl,fun _=>.inr rfl⟩
theorem Le.trans {K L M:List Int} (h:Le K L) (h2:Le L M):Le K M:=⟨h.1.trans h2.1,fun j=>by
 rcases h.2 j with e | e
 ·exact .inl e
 ·rcases h2.2 j with e2 | e2
  ·exact .inl (e.trans e2)
  ·exact .inr (e.trans e2)⟩
theorem fT (a b:List Int):(joinL a b).length=min a.length b.length:=by simp[joinL]
theorem qx (a b:List Int) (j:Nat) (h:a.length=b.length):((joinL a b)[j]?).getD 0=if (a[j]?).getD 0=(b[j]?).getD 0 then (a[j]?).getD 0 else 0:=by
 unfold joinL;rw[List.getElem?_zipWith]
 by_cases hj:j<a.length
 ·rw[List.getElem?_eq_getElem hj,List.getElem?_eq_getElem (show j<b.length by omega)]
  simp
 ·rw[List.getElem?_eq_none (by omega),List.getElem?_eq_none (show b.length≤j by omega)]
  simp
theorem AP {a b:List Int} (h:a.length=b.length):Le (joinL a b) a:=⟨by rw[fT];omega,fun j=>by
 rw[qx a b j h]
 split
 ·exact .inr rfl
 ·exact .inl rfl⟩
theorem yw {a b:List Int} (h:a.length=b.length):Le (joinL a b) b:=⟨by rw[fT];omega,fun j=>by
 rw[qx a b j h]
 split
 next e=>exact .inr e
 next=>exact .inl rfl⟩
theorem FV {a b c:List Int} (h:Le c a) (h2:Le c b):Le c (joinL a b):=⟨by have:=h.1;have:=h2.1;rw[fT];omega,fun j=>by
 rw[qx a b j (by have:=h.1;have:=h2.1;omega)]
 rcases h.2 j with e | e
 ·exact .inl e
 ·rcases h2.2 j with e2 | e2
  ·exact .inl e2
  ·rw[if_pos (e.symm.trans e2)]
   exact .inr e⟩
theorem qm (K:List Int) (k:Int) (h:0≤k):dO K k=(K[k.toNat]?).getD 0:=by
 unfold dO
 split
 ·rfl
 ·rw[List.getElem?_eq_none (by omega)]
  rfl
theorem jR {K L:List Int} (h:Le K L) (k:Int):dO K k=0∨dO K k=dO L k:=by
 by_cases hk:0≤k
 ·rw[qm K k hk,qm L k hk]
  exact h.2 _
 ·left
  unfold dO;rw[if_neg (by omega)]
theorem AJ (b:Bool):I6 b 0=none:=by cases b <;> rfl
theorem og {K L:List Int} (h:Le K L) (p:Prg) (op s x:Int):iQ p op K s x=0∨iQ p op K s x=iQ p op L s x:=by
 unfold iQ
 rcases jR h s with e | e
 ·rw[e,AJ]
  exact .inl rfl
 ·rw[e]
  exact .inr rfl
def uY (p:Prg) (i:Ins):Prop :=
 (i.op=17→Bh p i.a≠0)∧(∀ k,k<(dE p i.b).args.length→(i.op=21∨i.op=23∨i.op=24)→((dE p i.b).args[k]?).getD 0≠0)
theorem BC {K L:List Int} (h:Le K L) (p:Prg) (r:Int) (i:Ins) (ho:uY p i) (hr:cu p r i K=true):cu p r i L=true:=by
 have ha:=jR h i.a;have hb:=jR h i.b;have hc:=jR h i.c;have t1:=og h p i.op i.b i.c;have t2:=og h p i.op i.a i.b;unfold cu at hr ⊢
 by_cases c1:3≤i.op∧i.op≤8
 ·rw[if_pos c1] at hr ⊢
  simp only[Bool.and_eq_true,beq_iff_eq] at hr ⊢
  omega
 rw[if_neg c1] at hr ⊢
 by_cases c2:i.op=2
 ·rw[if_pos c2] at hr ⊢
  simp only[bne_iff_ne,ne_eq] at hr ⊢
  omega
 rw[if_neg c2] at hr ⊢
 by_cases c3:i.op=10∨i.op=29
 ·rw[if_pos c3] at hr ⊢
  simp only[beq_iff_eq] at hr ⊢
  omega
 rw[if_neg c3] at hr ⊢
 by_cases c4:i.op=12
 ·rw[if_pos c4] at hr ⊢
  rcases hb with e | e
  ·rw[e] at hr;cases hr
  ·rw[← e];exact hr
 rw[if_neg c4] at hr ⊢
 by_cases c5:i.op=14∨i.op=19
 ·rw[if_pos c5] at hr ⊢
  simp only[bne_iff_ne,ne_eq] at hr ⊢
  omega
 rw[if_neg c5] at hr ⊢
 by_cases c6:i.op=15∨i.op=20
 ·rw[if_pos c6] at hr ⊢
  simp only[Bool.and_eq_true,bne_iff_ne,ne_eq,beq_iff_eq] at hr ⊢
  omega
 rw[if_neg c6] at hr ⊢
 by_cases c7:i.op=17
 ·rw[if_pos c7] at hr ⊢
  have:=ho.1 c7;simp only[beq_iff_eq] at hr ⊢
  omega
 rw[if_neg c7] at hr ⊢
 by_cases c8:i.op=21∨i.op=23∨i.op=24
 ·rw[if_pos c8] at hr ⊢
  unfold Gt at hr ⊢;rw[List.all_eq_true] at hr ⊢;intro k hk;have h1:=hr k hk;have h2:=ho.2 k (List.mem_range.1 hk) c8;have h3:=jR h (i.c+(k:Int));simp only[beq_iff_eq] at h1 ⊢
  omega
 rw[if_neg c8] at hr ⊢
 by_cases c9:i.op=22
 ·rw[if_pos c9] at hr ⊢
  simp only[Bool.or_eq_true,beq_iff_eq] at hr ⊢
  omega
 rw[if_neg c9] at hr ⊢
 by_cases c10:i.op=25
 ·rw[if_pos c10] at hr ⊢
  simp only[Bool.and_eq_true,beq_iff_eq] at hr ⊢
  omega
 rw[if_neg c10]
theorem GK {K L:List Int} (h:Le K L) (p:Prg) (f:Fun) (i:Ins):jv p f i K=0∨jv p f i K=jv p f i L:=by
 have hb:=jR h i.b;have t1:=og h p i.op i.b i.c;unfold jv
 repeat' split
 all_goals first | exact hb | exact t1 | exact .inr rfl
theorem Le.set {K L:List Int} (h:Le K L) (n:Nat) {x y:Int} (hx:x=0∨x=y):Le (K.set n x) (L.set n y):=⟨by simpa using h.1,fun j=>by
 rw[List.getElem?_set,List.getElem?_set]
 by_cases e:n=j
 ·subst e
  rw[if_pos rfl,if_pos rfl]
  by_cases hn:n<K.length
  ·rw[if_pos hn,if_pos (by have:=h.1;omega)]
   simpa using hx
  ·rw[if_neg hn]
   exact .inl rfl
 ·rw[if_neg e,if_neg e]
  exact h.2 j⟩
theorem Bc {K L:List Int} (h:Le K L) (p:Prg) (f:Fun) (i:Ins) (ho:uY p i):Le (dL p f i K) (dL p f i L):=by
 have hv:(if cu p f.result i K=true then jv p f i K else 0)=0∨(if cu p f.result i K=true then jv p f i K else 0)=(if cu p f.result i L=true then jv p f i L else 0):=by
  by_cases hr:cu p f.result i K=true
  ·rw[if_pos hr,if_pos (BC h p _ i ho hr)]
   exact GK h p f i
  ·rw[if_neg hr]
   exact .inl rfl
 unfold dL
 by_cases hw:iI p i=true
 ·rw[if_pos hw,if_pos hw]
  split
  ·exact(h.set _ hv).set _ (.inr rfl)
  ·exact h.set _ hv
 ·rw[if_neg hw,if_neg hw]
  split
  ·exact h.set _ (.inr rfl)
  ·exact h
end Go.Proofs.YtlofbhoicbemnaaGreatDoor
