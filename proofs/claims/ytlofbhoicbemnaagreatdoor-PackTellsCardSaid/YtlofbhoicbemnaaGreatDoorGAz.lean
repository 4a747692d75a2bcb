/- Walks: whether a task as it is told unwinds. Walk: mutator.pop, where the caller goes on. Walk: mutator.pop, whatever stands below. .. -/
import Derived.Test.YtlofbhoicbemnaaGreatDoorGAy
import Derived.Test.YtlofbhoicbemnaaGreatDoorGAx
set_option linter.unusedVariables false
set_option linter.unusedSimpArgs false
set_option maxRecDepth 100000
set_option maxHeartbeats 3200000
namespace Go.Proofs.YtlofbhoicbemnaaGreatDoor.Tk
open Go.ChangeShapes Go.WideShapes Go.ChangeAt Go.RowKit Go.Maps
theorem oz (w:World) (s0 s1 s2:Int) (a3 a4:Option Addr) (n3 c3 n4 c4:Nat) (b6:Bool) (B:Nat) (av:Value) (A:List Alarm) (h:Own bG w B av A) (hl:A.length≤100000) :
  Calls Tryz.prog 244 #[.agg #[.int .i64 s0,.int .i64 s1,.int .i64 s2,.slice a3 n3 c3,.slice a4 n4 c4,av,.bool b6]] w fun e w'=>e=.returned (.bool (oK A))∧Below w.heap.size w w':=by
 rcases kz A with rfl | ⟨A,x,rfl⟩
 ·obtain⟨a',n',c',rfl⟩:=h.slice
  obtain rfl:n'=0:=by
   obtain⟨_,_,he,_⟩:=aP h
   injection he
  rw[xm];clear h
  go_enter Tryz.func244,Tryz.ntmps244
  go_wp2_with fail
  go_ret
  exact⟨rfl,(Below.refl _ _).alloc (Nat.le_refl _) _⟩
 ·rw[uH]
  obtain⟨g,cc,rfl,_,_⟩:=iJ h;have c2:=(eD h 2 _ rfl).1;have hb0:=(Below.refl w.heap.size w).alloc (Nat.le_refl _) (.cells #[.int .i64 s0,.int .i64 s1,.int .i64 s2,.slice a3 n3 c3,.slice a4 n4 c4,.slice (some ⟨g,0,none⟩) (A.length+1) cc,.bool b6] 280);have k2:=ae hb0 c2
  change World.cell? _ ⟨g,A.length * 5+2,none⟩=_ at k2
  have i1:IntKind.i64.wrap (((A.length+1:Nat):Int) - 1)=(A.length:Int):=by rw[show (((A.length+1:Nat):Int) - 1)=(A.length:Int) from by omega];exact IntWalk.i64_in _ (by simp at hl;omega)
  have n0:0<A.length+1:=by omega
  have n1:(A.length:Int)<((A.length+1:Nat):Int):=by omega
  generalize A.length+1=N at *;have HB:=k_ hb0;clear h c2 hb0 hl;obtain⟨x1,x2,x3,x4,x5⟩:=x
  go_enter Tryz.func244,Tryz.ntmps244
  go_wp2_with fail
  go_ret
  exact⟨rfl,HB.out⟩
def rF (w:World) (A:List Alarm) (FR:World→Value→Prop) (e:Ending) (w':World):Prop:=∃ s1 s2 a3 n3 c3 a4 n4 c4 a5 n5 c5,e=.returned (.agg #[.int .i64 0,.int .i64 s1,.int .i64 s2,.slice a3 n3 c3,.slice a4 n4 c4,.slice a5 n5 c5,.bool false])∧Own bG w' w.heap.size (.slice a5 n5 c5) A∧FR w' (.slice a3 n3 c3)∧Below w.heap.size w w'
def FrP (n:Nat) (lv:Bool) (wy:World) (v:Value):Prop:=∃ a c,v=.slice a n c∧∀ k,n=k+1→∃ g,a=some ⟨g,0,none⟩∧wy.cell? ⟨g,k * 9+3,none⟩=some (.bool lv)
def goB (d:Bool) (n:Nat) (lv:Bool) (A:List Alarm):Bool:=!d && decide (0<n) && !lv && !oK A
theorem Ir (w:World) (F:Nat→Prop) (tb:Nat) (p:TPrg) (X:TB) (hflt:∀ k,F k→k<w.heap.size) (c0 c1:Value) (j bb o nf m2:Nat) (hj:j<nf) (res:Int) (hres:∀ wx,Below w.heap.size w wx→wx.cell? ⟨bb,o+j * 5+1,none⟩=some (.int .i64 res)) (h01:∃ a0 n0 m0 a1 n1 m1,c0=.slice a0 n0 m0∧c1=.slice a1 n1 m1)
  (x:Int) (bv:Bool) (VAL:∀ wx,Below w.heap.size w wx→Calls Tryz.prog 243 #[.pointer (some ⟨tb,0,none⟩)] wx fun e w'=>e=.returned (.tuple #[.int .i64 x,.bool bv])∧Below wx.heap.size wx w')
  (FNC:∀ wx,Below w.heap.size w wx→Calls Tryz.prog 175 #[.pointer (some ⟨tb,0,none⟩)] wx fun e w'=>e=.returned (.int .i64 j)∧Below wx.heap.size wx w')
  (A:List Alarm) (hA:A.length≤100000) (LIF:res≠0→∀ wx,Below w.heap.size w wx→Calls Tryz.prog 172 #[.pointer (some ⟨tb,0,none⟩)] wx (rF wx A (fun _ _=>True)))
  (hs:Bool) (hhs:hs=(decide (res≠0) && !oK A))
  (d:Bool) (DFR:∀ wx,Below w.heap.size w wx→Calls Tryz.prog 245 #[.pointer (some ⟨tb,0,none⟩)] wx fun e w'=>e=.returned (.bool d)∧Below wx.heap.size wx w')
  (T1:Tk) (A2:List Alarm) (hA2:A2.length≤100000) (kf1:{ x:Int × Int // aJ x.1∧aJ x.2 }→Option Int) (POP:∀ wx,Below w.heap.size w wx→Calls Tryz.prog 246 #[.pointer (some ⟨tb,0,none⟩),.int .i64 x,.bool hs] wx fun e w'=>e=.returned (.bool true)∧∃ F1 X1,TaskAt w' F1 tb p T1 X1∧X1.Q X A2 kf1∧(∀ k,F1 k→F k∨wx.heap.size≤k)∧Fr F wx w')
  (n:Nat) (lv:Bool) (LIF2:∀ wx F1 X1,TaskAt wx F1 tb p T1 X1→X1.al=A2→Calls Tryz.prog 172 #[.pointer (some ⟨tb,0,none⟩)] wx (rF wx A2 (FrP n lv)))
  (hn:n≤1000) (pc:Int) (hpc:0≤pc∧pc≤100000) (PCC:goB d n lv A2=true→∀ wx F1 X1,TaskAt wx F1 tb p T1 X1→Calls Tryz.prog 176 #[.pointer (some ⟨tb,0,none⟩)] wx fun e w'=>e=.returned (.int .i64 pc)∧Below wx.heap.size wx w')
  (T2:Tk) (GOTO:goB d n lv A2=true→∀ wx F1 X1,TaskAt wx F1 tb p T1 X1→Calls Tryz.prog 247 #[.pointer (some ⟨tb,0,none⟩),.int .i64 (pc+1)] wx fun e w'=>e=.returned (.tuple #[])∧TaskAt w' F1 tb p T2 X1∧Fr F1 wx w') (hXD:∀ k,X.D k→k<w.heap.size) :
  Calls Tryz.prog 174 #[.agg #[c0,c1,.slice (some ⟨bb,o,none⟩) nf m2],.pointer (some ⟨tb,0,none⟩)] w (aW w F tb p X (if goB d n lv A2 then T2 else T1) A2 kf1 (bA 0 0 0 0 0 false (.slice none 0 0))):=by
 obtain⟨TF,hTF⟩:∃ TF,TF=(if goB d n lv A2=true then T2 else T1):=⟨_,rfl⟩;rw[← hTF];have HTF:=k_ hTF;clear hTF;obtain⟨a0,n0,m0,a1,n1,m1,rfl,rfl⟩:=h01;have hj20:(0:Int)≤(j:Int):=by omega
 have hj21:(j:Int)<(nf:Int):=by omega
 have hb0:=((Below.refl w.heap.size w).alloc (Nat.le_refl _) (.cells #[.slice a0 n0 m0,.slice a1 n1 m1,.slice (some ⟨bb,o,none⟩) nf m2] 48)).alloc (by simp) bB;have hr0:=aU (ai w (.cells #[.slice a0 n0 m0,.slice a1 n1 m1,.slice (some ⟨bb,o,none⟩) nf m2] 48)) bB;have hra:=ai (w.alloc (.cells #[.slice a0 n0 m0,.slice a1 n1 m1,.slice (some ⟨bb,o,none⟩) nf m2] 48)) bB;rw[show (w.alloc (.cells #[.slice a0 n0 m0,.slice a1 n1 m1,.slice (some ⟨bb,o,none⟩) nf m2] 48)).heap.size=w.heap.size+1 from by simp] at hra;obtain⟨W,hW⟩:∃ W,W=(w.alloc (.cells #[.slice a0 n0 m0,.slice a1 n1 m1,.slice (some ⟨bb,o,none⟩) nf m2] 48)).alloc bB:=⟨_,rfl⟩;rw[← hW] at hb0 hr0 hra;unfold bB at hW;have HW:=k_ hW;have HRES:=k_ hres;have VALX:=k_ VAL;have FNX:=k_ FNC;have LFX:=k_ LIF;have DFX:=k_ DFR;have PPX:=k_ POP;have L2X:=k_ LIF2;have PCX:=k_ PCC;have GTX:=k_ GOTO;have HHS:=k_ hhs;have HAL:=k_ (And.intro hA hA2);clear hW hres VAL FNC LIF DFR POP LIF2 PCC GOTO hj hhs hA hA2;have HB0:=k_ hb0;clear hb0;have HR0:=k_ hr0;clear hr0;have HRA:=k_ hra;clear hra;have HFLT:=k_ hflt;clear hflt;have HXD:=k_ hXD;clear hXD
 go_enter Tryz.func174,Tryz.ntmps174
 go_upto_region 1 with fail
 rw[← HW.out];go_wp2_with fail;refine(VALX.out _ HB0.out).mono ?_;rintro e w1 ⟨rfl,hb1⟩;have HB1:=k_ (HB0.out.trans (hb1.mono HB0.out.size));have HW1:=k_ hb1;clear hb1;have HKK:=k_ (fun wx (hx:Below w1.heap.size w1 wx)=>by
  have g:=(Fr.of_below (HW1.out.trans (hx.mono HW1.out.size)) (fun _=>False)).heap HR0.out (fun h=>h);exact And.intro (aa g 2).1 (HRES.out wx (HB1.out.trans (hx.mono HB1.out.size))))
 have fn4:=fun wx (hx:Below w1.heap.size w1 wx)=>FNX.out wx (HB1.out.trans (hx.mono HB1.out.size))
 have FN4:=k_ fn4;clear fn4
 go_upto_region 2 with fail
 go_cut [7] (fun t wx=>t=.bool hs∧Below w1.heap.size w1 wx)
 case first =>
  by_cases h0:res=0
  case pos =>
   have hz0:(res != 0)=false:=by rw[h0];rfl
   have HHS:=k_ (show hs=false by rw[HHS.out,decide_eq_false (by omega)];rfl);clear h0;refine wp_region_noPanic ?_;refine wp_region_held_drew (S:=fun w'=>Below w1.heap.size w1 w') (by kernel_rfl) (Below.refl _ _).drew (fun _=>?_);have HR1:=k_ (Below.refl w1.heap.size w1).drew;generalize w1.drew=r1 at *;refine tk_ (i:=0) (v:=?_) rfl (by kernel_rfl) (fun _ _ _ h=>h) ?tq1 HR1.out ?_
   case tq1=>(intro wq hq;obtain⟨f0,f1⟩:=HKK.out wq hq;go_simp;first | done | with_reducible rfl)
   refine tk_ (i:=1) (v:=?_) rfl (by kernel_rfl) (fun _ _ _ h=>h) ?tq2 HR1.out ?_
   case tq2=>(intro wq hq;obtain⟨f0,f1⟩:=HKK.out wq hq;go_simp;first | done | with_reducible rfl)
   refine tk_ (i:=2) (v:=?_) rfl (by kernel_rfl) (fun _ _ _ h=>h) ?tq3 HR1.out ?_
   case tq3=>(intro wq hq;obtain⟨f0,f1⟩:=HKK.out wq hq;go_simp;first | done | with_reducible rfl)
   refine rd_ (i:=3) (by kernel_rfl) rfl fun K hK=>?_
   go_simp
   go_at_call 175
   refine(FN4.out r1 HR1.out).mono ?_;rintro e r2 ⟨rfl,hb⟩;have HR2:=k_ (HR1.out.trans (hb.mono HR1.out.size));clear hb;refine hK.out _ _ HR2.out (fun _=>?_);clear hK K;refine tk_ (i:=4) (v:=?_) rfl (by kernel_rfl) (fun _ _ _ h=>h) ?tq4 HR2.out ?_
   case tq4=>(intro wq hq;obtain⟨f0,f1⟩:=HKK.out wq hq;go_simp;first | done | with_reducible rfl)
   refine tk_ (i:=5) (v:=?_) rfl (by kernel_rfl) (fun _ _ _ h=>h) ?tq5 HR2.out ?_
   case tq5=>(intro wq hq;obtain⟨f0,f1⟩:=HKK.out wq hq;go_simp;first | done | with_reducible rfl)
   refine tk_ (i:=6) (v:=?_) rfl (by kernel_rfl) (fun _ _ _ h=>h) ?tq6 HR2.out ?_
   case tq6=>(intro wq hq;obtain⟨f0,f1⟩:=HKK.out wq hq;go_simp;first | done | with_reducible rfl)
   refine tk_ (i:=7) (v:=?_) rfl (by kernel_rfl) (fun _ _ _ h=>h) ?tq7 HR2.out ?_
   case tq7=>(intro wq hq;obtain⟨f0,f1⟩:=HKK.out wq hq;go_simp;first | done | with_reducible rfl)
   refine tk_ (i:=8) (v:=?_) rfl (by kernel_rfl) (fun _ _ _ h=>h) ?tq8 HR2.out ?_
   case tq8=>(intro wq hq;obtain⟨f0,f1⟩:=HKK.out wq hq;go_simp;first | done | with_reducible rfl)
   refine wpAnyH_take (i:=9) (v:=undef) rfl (by kernel_rfl) (by kernel_rfl) (by kernel_rfl) (fun _ _ _ h=>h) (Or.inr ⟨by kernel_rfl,by kernel_rfl⟩) HR2.out ?_;refine wpAnyH_take (i:=10) (v:=undef) rfl (by kernel_rfl) (by kernel_rfl) (by kernel_rfl) (fun _ _ _ h=>h) (Or.inr ⟨by kernel_rfl,by kernel_rfl⟩) HR2.out ?_;refine wpAnyH_take (i:=11) (v:=undef) rfl (by kernel_rfl) (by kernel_rfl) (by kernel_rfl) (fun _ _ _ h=>h) (Or.inr ⟨by kernel_rfl,by kernel_rfl⟩) HR2.out ?_;refine wpAnyH_take (i:=12) (v:=undef) rfl (by kernel_rfl) (by kernel_rfl) (by kernel_rfl) (fun _ _ _ h=>h) (Or.inr ⟨by kernel_rfl,by kernel_rfl⟩) HR2.out ?_;refine tk_ (i:=13) (v:=?_) rfl (by kernel_rfl) (fun _ _ _ h=>h) ?tq9 HR2.out ?_
   case tq9=>(intro wq hq;obtain⟨f0,f1⟩:=HKK.out wq hq;go_simp;first | done | with_reducible rfl)
   refine rd_ (i:=14) (by kernel_rfl) rfl fun K hK=>?_
   go_simp;refine hK.out _ _ HR2.out (fun _=>?_);clear hK K;refine wpAnyH_done (by kernel_rfl) ?_ _;refine NoPanic.normal ?_;have HR:=HR2;generalize r2=r9 at *;go_wp2_with fail
   go_meet
   case rel=>exact⟨by rw[HHS.out],HR.out⟩
  case neg =>
   have hz0:(res != 0)=true:=by rw[bne_iff_ne];exact h0
   have HHS:=k_ (show hs=!oK A by rw[HHS.out,decide_eq_true (by exact h0)];rfl);have lf4:=fun wx (hx:Below w1.heap.size w1 wx)=>LFX.out h0 wx (HB1.out.trans (hx.mono HB1.out.size))
   have LF4:=k_ lf4;clear lf4;clear h0;refine wp_region_noPanic ?_;refine wp_region_held_drew (S:=fun w'=>Below w1.heap.size w1 w') (by kernel_rfl) (Below.refl _ _).drew (fun _=>?_);have HR1:=k_ (Below.refl w1.heap.size w1).drew;generalize w1.drew=r1 at *;refine tk_ (i:=0) (v:=?_) rfl (by kernel_rfl) (fun _ _ _ h=>h) ?tq1 HR1.out ?_
   case tq1=>(intro wq hq;obtain⟨f0,f1⟩:=HKK.out wq hq;go_simp;first | done | with_reducible rfl)
   refine tk_ (i:=1) (v:=?_) rfl (by kernel_rfl) (fun _ _ _ h=>h) ?tq2 HR1.out ?_
   case tq2=>(intro wq hq;obtain⟨f0,f1⟩:=HKK.out wq hq;go_simp;first | done | with_reducible rfl)
   refine tk_ (i:=2) (v:=?_) rfl (by kernel_rfl) (fun _ _ _ h=>h) ?tq3 HR1.out ?_
   case tq3=>(intro wq hq;obtain⟨f0,f1⟩:=HKK.out wq hq;go_simp;first | done | with_reducible rfl)
   refine rd_ (i:=3) (by kernel_rfl) rfl fun K hK=>?_
   go_simp
   go_at_call 175
   refine(FN4.out r1 HR1.out).mono ?_;rintro e r2 ⟨rfl,hb⟩;have HR2:=k_ (HR1.out.trans (hb.mono HR1.out.size));clear hb;refine hK.out _ _ HR2.out (fun _=>?_);clear hK K;refine tk_ (i:=4) (v:=?_) rfl (by kernel_rfl) (fun _ _ _ h=>h) ?tq4 HR2.out ?_
   case tq4=>(intro wq hq;obtain⟨f0,f1⟩:=HKK.out wq hq;go_simp;first | done | with_reducible rfl)
   refine tk_ (i:=5) (v:=?_) rfl (by kernel_rfl) (fun _ _ _ h=>h) ?tq5 HR2.out ?_
   case tq5=>(intro wq hq;obtain⟨f0,f1⟩:=HKK.out wq hq;go_simp;first | done | with_reducible rfl)
   refine tk_ (i:=6) (v:=?_) rfl (by kernel_rfl) (fun _ _ _ h=>h) ?tq6 HR2.out ?_
   case tq6=>(intro wq hq;obtain⟨f0,f1⟩:=HKK.out wq hq;go_simp;first | done | with_reducible rfl)
   refine tk_ (i:=7) (v:=?_) rfl (by kernel_rfl) (fun _ _ _ h=>h) ?tq7 HR2.out ?_
   case tq7=>(intro wq hq;obtain⟨f0,f1⟩:=HKK.out wq hq;go_simp;first | done | with_reducible rfl)
   refine tk_ (i:=8) (v:=?_) rfl (by kernel_rfl) (fun _ _ _ h=>h) ?tq8 HR2.out ?_
   case tq8=>(intro wq hq;obtain⟨f0,f1⟩:=HKK.out wq hq;go_simp;first | done | with_reducible rfl)
   refine tk_ (i:=9) (v:=?_) rfl (by kernel_rfl) (fun _ _ _ h=>h) ?tq9 HR2.out ?_
   case tq9=>(intro wq hq;obtain⟨f0,f1⟩:=HKK.out wq hq;go_simp;first | done | with_reducible rfl)
   refine rd_ (i:=10) (by kernel_rfl) rfl fun K hK=>?_
   go_simp
   go_at_call 172
   refine(LF4.out r2 HR2.out).mono ?_;rintro e r3 ⟨s1,s2,a3,n3,c3,a4,n4,c4,a5,n5,c5,rfl,hoA,_,hb⟩;have HR3:=k_ (HR2.out.trans (hb.mono HR2.out.size));have UN:=k_ (oz r3 0 s1 s2 a3 a4 n3 c3 n4 c4 false _ (.slice a5 n5 c5) A hoA HAL.out.1);clear hoA;clear hb;refine hK.out _ _ HR3.out (fun _=>?_);clear hK K;refine rd_ (i:=11) (by kernel_rfl) rfl fun K hK=>?_
   go_simp
   go_at_call 244
   refine(UN.out).mono ?_;rintro e r4 ⟨rfl,hb⟩;have HR4:=k_ (HR3.out.trans (hb.mono HR3.out.size));clear hb;refine hK.out _ _ HR4.out (fun _=>?_);clear hK K;refine tk_ (i:=12) (v:=?_) rfl (by kernel_rfl) (fun _ _ _ h=>h) ?tq10 HR4.out ?_
   case tq10=>(intro wq hq;obtain⟨f0,f1⟩:=HKK.out wq hq;go_simp;first | done | with_reducible rfl)
   refine tk_ (i:=13) (v:=?_) rfl (by kernel_rfl) (fun _ _ _ h=>h) ?tq11 HR4.out ?_
   case tq11=>(intro wq hq;obtain⟨f0,f1⟩:=HKK.out wq hq;go_simp;first | done | with_reducible rfl)
   refine rd_ (i:=14) (by kernel_rfl) rfl fun K hK=>?_
   go_simp;refine hK.out _ _ HR4.out (fun _=>?_);clear hK K;refine wpAnyH_done (by kernel_rfl) ?_ _;refine NoPanic.normal ?_;have HR:=HR4;generalize r4=r9 at *;go_wp2_with fail
   go_meet
   case rel=>exact⟨by rw[HHS.out],HR.out⟩
 obtain⟨rfl,hwc⟩:=hcut;have HW2:=k_ (HB1.out.trans (hwc.mono HB1.out.size));have HWW:=k_ (HW1.out.trans (hwc.mono HW1.out.size));clear hwc;generalize wc=w2 at *;go_wp2_with fail;refine(DFX.out _ HW2.out).mono ?_;rintro e w3 ⟨rfl,hb3⟩;have HW3:=k_ (HW2.out.trans (hb3.mono HW2.out.size));have HWX:=k_ (HWW.out.trans (hb3.mono HWW.out.size));clear hb3;go_wp2_with fail;refine(PPX.out _ HW3.out).mono ?_;rintro e w4 ⟨rfl,F1,X1,hT1,hQ,hF1,hf⟩;have L2:=k_ (L2X.out w4 F1 X1 hT1 hQ.2.1);have hrw:=hf.heap ((fb_ HWX.out).heap HRA.out (fun h=>h)) (fun e=>by have:=HFLT.out (w.heap.size+1) e;omega);have HT1:=k_ hT1;clear hT1;have HQ:=k_ hQ;clear hQ;have HF1:=k_ hF1;clear hF1;have HF:=k_ hf;clear hf;have HRW:=k_ hrw;clear hrw;go_wp2_with fail;refine(L2.out).mono ?_;rintro e w5 ⟨s1,s2,a3,n3,c3,a4,n4,c4,a5,n5,c5,rfl,hoA,⟨av,cv,hv,hcell⟩,hb⟩
 injection hv with e1 e2 e3
 subst e1 e2 e3;have hbe:=(Below.refl w5.heap.size w5).alloc (Nat.le_refl _) (.cells #[.int .i64 0,.int .i64 s1,.int .i64 s2,.slice a3 n3 c3,.slice a4 n4 c4,.slice a5 n5 c5,.bool false] 280);have UN:=k_ (oz _ 0 s1 s2 a3 a4 n3 c3 n4 c4 false _ (.slice a5 n5 c5) A2 (Own.below hoA hbe) HAL.out.2);have hb6:=hb.trans (hbe.mono hb.size);clear hoA;have HB6:=k_ hb6;clear hb6;clear hb;obtain⟨w6,hw6⟩:∃ w6,w6=w5.alloc (.cells #[.int .i64 0,.int .i64 s1,.int .i64 s2,.slice a3 n3 c3,.slice a4 n4 c4,.slice a5 n5 c5,.bool false] 280):=⟨_,rfl⟩;rw[← hw6] at HB6 hbe UN;have hrl:w6.heap[w5.heap.size]?=some (.cells #[.int .i64 0,.int .i64 s1,.int .i64 s2,.slice a3 n3 c3,.slice a4 n4 c4,.slice a5 n5 c5,.bool false] 280):=by rw[hw6];exact ai _ _
 have l0:w6.cell? ⟨w5.heap.size,0,none⟩=some (.int .i64 0):=(aa hrl 0).1;have l1:w6.cell? ⟨w5.heap.size,1,none⟩=some (.int .i64 s1):=(aa hrl 1).1;have l2:w6.cell? ⟨w5.heap.size,2,none⟩=some (.int .i64 s2):=(aa hrl 2).1;have l3:w6.cell? ⟨w5.heap.size,3,none⟩=some (.slice a3 n3 c3):=(aa hrl 3).1;have l4:w6.cell? ⟨w5.heap.size,4,none⟩=some (.slice a4 n4 c4):=(aa hrl 4).1;have l5:w6.cell? ⟨w5.heap.size,5,none⟩=some (.slice a5 n5 c5):=(aa hrl 5).1;have l6:w6.cell? ⟨w5.heap.size,6,none⟩=some (.bool false):=(aa hrl 6).1;have HW6:=k_ hw6;have HT6:=k_ (HT1.out.fr (fb_ HB6.out) (fun _ _ h=>h) (fun _ _ h=>h));have HR6:=k_ ((fb_ HB6.out).heap HRW.out (fun h=>h));have hcell6:=fun k hk=>(hcell k hk).imp fun g h=>And.intro h.1 (ae hbe h.2)
 have hn3:=hn;clear hrl hw6 hbe hcell
 go_upto_region 6 with fail
 rw[← HW6.out];generalize w5.heap.size=lb at *
 cases hd:d with
 | true =>
   subst hd;have HGO:=k_ (show goB true n3 lv A2=false from rfl);clear hcell6;have hF1:=HF1.out;have hq:=HQ.out;have hsz:=HWX.out.size;have hsz2:=HW3.out.size;have hszA:w.heap.size+1<W.heap.size:=by
    have:=HRA.out
    rcases Nat.lt_or_ge (w.heap.size+1) W.heap.size with h1 | h1
    ·exact h1
    ·rw[Array.getElem?_eq_none h1] at this;cases this
   have hFx:∀ k,F1 k→F k∨w.heap.size+2≤k:=fun k hk=>(hF1 k hk).imp id (fun h1=>by omega)
   have hFz:∀ q,F1 q→q≠w.heap.size+1:=fun q hq e=>by
    rcases hFx q hq with h1 | h1
    ·have:=HFLT.out q h1;omega
    ·omega
   have hs4:=HF.out.size;have hr8:w6.heap[w.heap.size+1]?=some bB:=HR6.out;have hfw:=(((Fr.of_below HW3.out F).trans HF.out (fun _ _ h=>h)).trans (Fr.of_below HB6.out F) (fun _ _ h=>h)).trans (Fr.refl F1 w6) (fun q hq e=>by rcases hFx q e with h1 | h1;exact h1;omega);unfold bB at hr8;obtain⟨⟨u0,u1,u2,u3,u4,u5,u6⟩,n0,n1,n2,n3,n4,n5,n6⟩:=aX hr8;have hfs:=bO w6 (.int .i64 0) (.int .i64 0) (.int .i64 0) (.int .i64 0) (.int .i64 0) (.bool false) (.slice none 0 0) (w.heap.size+1);have hrs:=bN hr8 (.int .i64 0) (.int .i64 0) (.int .i64 0) (.int .i64 0) (.int .i64 0) (.bool false) (.slice none 0 0);have hT9:=HT6.out.fr hfs (fun q hq e=>hFz q hq e) (fun q hqq e=>by rw[hq.1] at hqq;have:=HXD.out q hqq;have e:q=w.heap.size+1:=e;omega);have hf9:=hfw.trans hfs (fun q hq e=>by have e:q=w.heap.size+1:=e;omega);have hF9:∀ q,F1 q→F q∨w.heap.size≤q:=fun q hq=>(hFx q hq).imp id (fun h1=>by omega)
   have HPP:=k_ (show aW w F tb p X TF A2 kf1 (bA 0 0 0 0 0 false (.slice none 0 0)) _ _ from⟨rfl,F1,X1,by have:=HGO.out;rw[HTF.out];simp only[this,if_true,Bool.false_eq_true,if_false];exact hT9,hq,hF9,hf9⟩);clear hfs hr8 hT9 hfw hf9 hF9 hFz hFx hF1 hq hsz hsz2 hszA hs4 HGO;have HRS:=k_ hrs;clear hrs;unfold bA
   go_wp2_with (with_reducible refine bodyPost_ret ?_ rfl HPP.out;have k0:=(aa HRS.out 0).1;have k1:=(aa HRS.out 1).1;have k2:=(aa HRS.out 2).1;have k3:=(aa HRS.out 3).1;have k4:=(aa HRS.out 4).1;have k5:=(aa HRS.out 5).1;have k6:=(aa HRS.out 6).1;simp at k0 k1 k2 k3 k4 k5 k6;simp[results,Tryz.results174,go_sem,k0,k1,k2,k3,k4,k5,k6,bA])
 | false =>
   subst hd
   rcases n3 with _ | k
   ·have HGO:=k_ (show goB false 0 lv A2=false from rfl)
    clear hcell6;have hF1:=HF1.out;have hq:=HQ.out;have hsz:=HWX.out.size;have hsz2:=HW3.out.size;have hszA:w.heap.size+1<W.heap.size:=by
     have:=HRA.out
     rcases Nat.lt_or_ge (w.heap.size+1) W.heap.size with h1 | h1
     ·exact h1
     ·rw[Array.getElem?_eq_none h1] at this;cases this
    have hFx:∀ k,F1 k→F k∨w.heap.size+2≤k:=fun k hk=>(hF1 k hk).imp id (fun h1=>by omega)
    have hFz:∀ q,F1 q→q≠w.heap.size+1:=fun q hq e=>by
     rcases hFx q hq with h1 | h1
     ·have:=HFLT.out q h1;omega
     ·omega
    have hs4:=HF.out.size;have hr8:w6.heap[w.heap.size+1]?=some bB:=HR6.out;have hfw:=(((Fr.of_below HW3.out F).trans HF.out (fun _ _ h=>h)).trans (Fr.of_below HB6.out F) (fun _ _ h=>h)).trans (Fr.refl F1 w6) (fun q hq e=>by rcases hFx q e with h1 | h1;exact h1;omega);unfold bB at hr8;obtain⟨⟨u0,u1,u2,u3,u4,u5,u6⟩,n0,n1,n2,n3,n4,n5,n6⟩:=aX hr8;have hfs:=bO w6 (.int .i64 0) (.int .i64 0) (.int .i64 0) (.int .i64 0) (.int .i64 0) (.bool false) (.slice none 0 0) (w.heap.size+1);have hrs:=bN hr8 (.int .i64 0) (.int .i64 0) (.int .i64 0) (.int .i64 0) (.int .i64 0) (.bool false) (.slice none 0 0);have hT9:=HT6.out.fr hfs (fun q hq e=>hFz q hq e) (fun q hqq e=>by rw[hq.1] at hqq;have:=HXD.out q hqq;have e:q=w.heap.size+1:=e;omega);have hf9:=hfw.trans hfs (fun q hq e=>by have e:q=w.heap.size+1:=e;omega);have hF9:∀ q,F1 q→F q∨w.heap.size≤q:=fun q hq=>(hFx q hq).imp id (fun h1=>by omega)
    have HPP:=k_ (show aW w F tb p X TF A2 kf1 (bA 0 0 0 0 0 false (.slice none 0 0)) _ _ from⟨rfl,F1,X1,by have:=HGO.out;rw[HTF.out];simp only[this,if_true,Bool.false_eq_true,if_false];exact hT9,hq,hF9,hf9⟩);clear hfs hr8 hT9 hfw hf9 hF9 hFz hFx hF1 hq hsz hsz2 hszA hs4 HGO;have HRS:=k_ hrs;clear hrs;unfold bA
    go_wp2_with (with_reducible refine bodyPost_ret ?_ rfl HPP.out;have k0:=(aa HRS.out 0).1;have k1:=(aa HRS.out 1).1;have k2:=(aa HRS.out 2).1;have k3:=(aa HRS.out 3).1;have k4:=(aa HRS.out 4).1;have k5:=(aa HRS.out 5).1;have k6:=(aa HRS.out 6).1;simp at k0 k1 k2 k3 k4 k5 k6;simp[results,Tryz.results174,go_sem,k0,k1,k2,k3,k4,k5,k6,bA])
   ·obtain⟨g,rfl,kc⟩:=hcell6 k rfl
    clear hcell6;have hk0:(0:Int)<((k+1:Nat):Int):=by omega
    cases lv with
    | true =>
      have HGO:=k_ (show goB false (k+1) true A2=false by simp[goB]);have hF1:=HF1.out;have hq:=HQ.out;have hsz:=HWX.out.size;have hsz2:=HW3.out.size;have hszA:w.heap.size+1<W.heap.size:=by
       have:=HRA.out
       rcases Nat.lt_or_ge (w.heap.size+1) W.heap.size with h1 | h1
       ·exact h1
       ·rw[Array.getElem?_eq_none h1] at this;cases this
      have hFx:∀ k,F1 k→F k∨w.heap.size+2≤k:=fun k hk=>(hF1 k hk).imp id (fun h1=>by omega)
      have hFz:∀ q,F1 q→q≠w.heap.size+1:=fun q hq e=>by
       rcases hFx q hq with h1 | h1
       ·have:=HFLT.out q h1;omega
       ·omega
      have hs4:=HF.out.size;have hr8:w6.heap[w.heap.size+1]?=some bB:=HR6.out;have hfw:=(((Fr.of_below HW3.out F).trans HF.out (fun _ _ h=>h)).trans (Fr.of_below HB6.out F) (fun _ _ h=>h)).trans (Fr.refl F1 w6) (fun q hq e=>by rcases hFx q e with h1 | h1;exact h1;omega);unfold bB at hr8;obtain⟨⟨u0,u1,u2,u3,u4,u5,u6⟩,n0,n1,n2,n3,n4,n5,n6⟩:=aX hr8;have hfs:=bO w6 (.int .i64 0) (.int .i64 0) (.int .i64 0) (.int .i64 0) (.int .i64 0) (.bool false) (.slice none 0 0) (w.heap.size+1);have hrs:=bN hr8 (.int .i64 0) (.int .i64 0) (.int .i64 0) (.int .i64 0) (.int .i64 0) (.bool false) (.slice none 0 0);have hT9:=HT6.out.fr hfs (fun q hq e=>hFz q hq e) (fun q hqq e=>by rw[hq.1] at hqq;have:=HXD.out q hqq;have e:q=w.heap.size+1:=e;omega);have hf9:=hfw.trans hfs (fun q hq e=>by have e:q=w.heap.size+1:=e;omega);have hF9:∀ q,F1 q→F q∨w.heap.size≤q:=fun q hq=>(hFx q hq).imp id (fun h1=>by omega)
      have HPP:=k_ (show aW w F tb p X TF A2 kf1 (bA 0 0 0 0 0 false (.slice none 0 0)) _ _ from⟨rfl,F1,X1,by have:=HGO.out;rw[HTF.out];simp only[this,if_true,Bool.false_eq_true,if_false];exact hT9,hq,hF9,hf9⟩);clear hfs hr8 hT9 hfw hf9 hF9 hFz hFx hF1 hq hsz hsz2 hszA hs4 HGO;have HRS:=k_ hrs;clear hrs;unfold bA
      go_wp2_with (with_reducible refine bodyPost_ret ?_ rfl HPP.out;have k0:=(aa HRS.out 0).1;have k1:=(aa HRS.out 1).1;have k2:=(aa HRS.out 2).1;have k3:=(aa HRS.out 3).1;have k4:=(aa HRS.out 4).1;have k5:=(aa HRS.out 5).1;have k6:=(aa HRS.out 6).1;simp at k0 k1 k2 k3 k4 k5 k6;simp[results,Tryz.results174,go_sem,k0,k1,k2,k3,k4,k5,k6,bA])
    | false =>
      go_wp2_with fail;refine(UN.out).mono ?_;rintro e w7 ⟨rfl,hb⟩;have HB7:=k_ (HB6.out.trans (hb.mono HB6.out.size));have HT7:=k_ (HT1.out.fr (fb_ HB7.out) (fun _ _ h=>h) (fun _ _ h=>h));have HR7:=k_ ((fb_ HB7.out).heap HRW.out (fun h=>h));clear hb UN kc l0 l1 l2 l3 l4 l5 l6
      cases hu:oK A2 with
      | true =>
        have HGO:=k_ (show goB false (k+1) false A2=false by simp[goB,hu]);clear hu;have hF1:=HF1.out;have hq:=HQ.out;have hsz:=HWX.out.size;have hsz2:=HW3.out.size;have hszA:w.heap.size+1<W.heap.size:=by
         have:=HRA.out
         rcases Nat.lt_or_ge (w.heap.size+1) W.heap.size with h1 | h1
         ·exact h1
         ·rw[Array.getElem?_eq_none h1] at this;cases this
        have hFx:∀ k,F1 k→F k∨w.heap.size+2≤k:=fun k hk=>(hF1 k hk).imp id (fun h1=>by omega)
        have hFz:∀ q,F1 q→q≠w.heap.size+1:=fun q hq e=>by
         rcases hFx q hq with h1 | h1
         ·have:=HFLT.out q h1;omega
         ·omega
        have hs4:=HF.out.size;have hr8:w7.heap[w.heap.size+1]?=some bB:=HR7.out;have hfw:=(((Fr.of_below HW3.out F).trans HF.out (fun _ _ h=>h)).trans (Fr.of_below HB7.out F) (fun _ _ h=>h)).trans (Fr.refl F1 w7) (fun q hq e=>by rcases hFx q e with h1 | h1;exact h1;omega);unfold bB at hr8;obtain⟨⟨u0,u1,u2,u3,u4,u5,u6⟩,n0,n1,n2,n3,n4,n5,n6⟩:=aX hr8;have hfs:=bO w7 (.int .i64 0) (.int .i64 0) (.int .i64 0) (.int .i64 0) (.int .i64 0) (.bool false) (.slice none 0 0) (w.heap.size+1);have hrs:=bN hr8 (.int .i64 0) (.int .i64 0) (.int .i64 0) (.int .i64 0) (.int .i64 0) (.bool false) (.slice none 0 0);have hT9:=HT7.out.fr hfs (fun q hq e=>hFz q hq e) (fun q hqq e=>by rw[hq.1] at hqq;have:=HXD.out q hqq;have e:q=w.heap.size+1:=e;omega);have hf9:=hfw.trans hfs (fun q hq e=>by have e:q=w.heap.size+1:=e;omega);have hF9:∀ q,F1 q→F q∨w.heap.size≤q:=fun q hq=>(hFx q hq).imp id (fun h1=>by omega)
        have HPP:=k_ (show aW w F tb p X TF A2 kf1 (bA 0 0 0 0 0 false (.slice none 0 0)) _ _ from⟨rfl,F1,X1,by have:=HGO.out;rw[HTF.out];simp only[this,if_true,Bool.false_eq_true,if_false];exact hT9,hq,hF9,hf9⟩);clear hfs hr8 hT9 hfw hf9 hF9 hFz hFx hF1 hq hsz hsz2 hszA hs4 HGO;have HRS:=k_ hrs;clear hrs;unfold bA
        go_wp2_with (with_reducible refine bodyPost_ret ?_ rfl HPP.out;have k0:=(aa HRS.out 0).1;have k1:=(aa HRS.out 1).1;have k2:=(aa HRS.out 2).1;have k3:=(aa HRS.out 3).1;have k4:=(aa HRS.out 4).1;have k5:=(aa HRS.out 5).1;have k6:=(aa HRS.out 6).1;simp at k0 k1 k2 k3 k4 k5 k6;simp[results,Tryz.results174,go_sem,k0,k1,k2,k3,k4,k5,k6,bA])
      | false =>
        have HGO:=k_ (show goB false (k+1) false A2=true by simp[goB,hu]);clear hu;have hp:=PCX.out HGO.out w7 F1 X1 HT7.out;have HP:=k_ hp;clear hp;go_wp2_with fail;refine HP.out.mono ?_;rintro e w8 ⟨rfl,hb⟩;have HB8:=k_ (HB7.out.trans (hb.mono HB7.out.size));clear hb;have i1:IntKind.i64.wrap (pc+1)=pc+1:=IntWalk.i64_in _ (by omega);have hT8:=HT1.out.fr (fb_ HB8.out) (fun _ _ h=>h) (fun _ _ h=>h);have hg:=GTX.out HGO.out w8 F1 X1 hT8;have HT8:=k_ hT8;clear hT8;have HG:=k_ hg;clear hg;go_wp2_with fail;refine HG.out.mono ?_;rintro e w9 ⟨rfl,hT9a,hf9a⟩;have HT9A:=k_ hT9a;have HF9A:=k_ hf9a;have HR9:=k_ (hf9a.heap ((fb_ HB8.out).heap HRW.out (fun h=>h)) (fun e=>by
         rcases HF1.out _ e with h1 | h1
         ·have:=HFLT.out _ h1;omega
         ·have:=HWX.out.size
          have:=HW3.out.size;have:=HRA.out
          rcases Nat.lt_or_ge (w.heap.size+1) W.heap.size with h2 | h2
          ·omega
          ·rw[Array.getElem?_eq_none h2] at this;cases this))
        clear hT9a hf9a;have hF1:=HF1.out;have hq:=HQ.out;have hsz:=HWX.out.size;have hsz2:=HW3.out.size;have hszA:w.heap.size+1<W.heap.size:=by
         have:=HRA.out
         rcases Nat.lt_or_ge (w.heap.size+1) W.heap.size with h1 | h1
         ·exact h1
         ·rw[Array.getElem?_eq_none h1] at this;cases this
        have hFx:∀ k,F1 k→F k∨w.heap.size+2≤k:=fun k hk=>(hF1 k hk).imp id (fun h1=>by omega)
        have hFz:∀ q,F1 q→q≠w.heap.size+1:=fun q hq e=>by
         rcases hFx q hq with h1 | h1
         ·have:=HFLT.out q h1;omega
         ·omega
        have hs4:=HF.out.size;have hr8:w9.heap[w.heap.size+1]?=some bB:=HR9.out;have hfw:=(((Fr.of_below HW3.out F).trans HF.out (fun _ _ h=>h)).trans (Fr.of_below HB8.out F) (fun _ _ h=>h)).trans HF9A.out (fun q hq e=>by rcases hFx q e with h1 | h1;exact h1;omega);unfold bB at hr8;obtain⟨⟨u0,u1,u2,u3,u4,u5,u6⟩,n0,n1,n2,n3,n4,n5,n6⟩:=aX hr8;have hfs:=bO w9 (.int .i64 0) (.int .i64 0) (.int .i64 0) (.int .i64 0) (.int .i64 0) (.bool false) (.slice none 0 0) (w.heap.size+1);have hrs:=bN hr8 (.int .i64 0) (.int .i64 0) (.int .i64 0) (.int .i64 0) (.int .i64 0) (.bool false) (.slice none 0 0);have hT9:=HT9A.out.fr hfs (fun q hq e=>hFz q hq e) (fun q hqq e=>by rw[hq.1] at hqq;have:=HXD.out q hqq;have e:q=w.heap.size+1:=e;omega);have hf9:=hfw.trans hfs (fun q hq e=>by have e:q=w.heap.size+1:=e;omega);have hF9:∀ q,F1 q→F q∨w.heap.size≤q:=fun q hq=>(hFx q hq).imp id (fun h1=>by omega)
        have HPP:=k_ (show aW w F tb p X TF A2 kf1 (bA 0 0 0 0 0 false (.slice none 0 0)) _ _ from⟨rfl,F1,X1,by have:=HGO.out;rw[HTF.out];simp only[this,if_true,Bool.false_eq_true,if_false];exact hT9,hq,hF9,hf9⟩);clear hfs hr8 hT9 hfw hf9 hF9 hFz hFx hF1 hq hsz hsz2 hszA hs4 HGO;have HRS:=k_ hrs;clear hrs;unfold bA
        go_wp2_with (with_reducible refine bodyPost_ret ?_ rfl HPP.out;have k0:=(aa HRS.out 0).1;have k1:=(aa HRS.out 1).1;have k2:=(aa HRS.out 2).1;have k3:=(aa HRS.out 3).1;have k4:=(aa HRS.out 4).1;have k5:=(aa HRS.out 5).1;have k6:=(aa HRS.out 6).1;simp at k0 k1 k2 k3 k4 k5 k6;simp[results,Tryz.results174,go_sem,k0,k1,k2,k3,k4,k5,k6,bA])
theorem CJ (w:World) (F:Nat→Prop) (tb:Nat) (p:TPrg) (T:Tk) (X:TB) (h:TaskAt w F tb p T X) (hm:iK T.marks X.al=2) (hml:T.marks.length≤10000) (hal:X.al.length≤10000) (a0 a1 a2:Option Addr) (n0 m0 n1 m1 n2 m2:Nat) (ma:Option Addr)
  (T':Tk) (al:List Alarm) (kf:{ x:Int × Int // aJ x.1∧aJ x.2 }→Option Int) (k a f v fn:Int) (b:Bool) (r0:Option Addr) (r1 r2:Nat) (POP:∀ wr,Below w.heap.size w wr→Calls Tryz.prog 174 #[.agg #[.slice a0 n0 m0,.slice a1 n1 m1,.slice a2 n2 m2],.pointer (some ⟨tb,0,none⟩)] wr (aW wr F tb p X T' al kf (bA k a f v fn b (.slice r0 r1 r2)))) :
  Calls Tryz.prog 126 #[.agg #[.slice a0 n0 m0,.slice a1 n1 m1,.slice a2 n2 m2],.pointer ma,.pointer (some ⟨tb,0,none⟩)] w (aW w F tb p X T' al kf (bA k a f v fn b (.slice r0 r1 r2))):=by
 have hb0:=((Below.refl w.heap.size w).alloc (Nat.le_refl _) (.cells #[.slice a0 n0 m0,.slice a1 n1 m1,.slice a2 n2 m2] 48));have hb1:=hb0.alloc hb0.size bB;have hr0:=aU (ai w (.cells #[.slice a0 n0 m0,.slice a1 n1 m1,.slice a2 n2 m2] 48)) bB;have hra:=ai (w.alloc (.cells #[.slice a0 n0 m0,.slice a1 n1 m1,.slice a2 n2 m2] 48)) bB;rw[show (w.alloc (.cells #[.slice a0 n0 m0,.slice a1 n1 m1,.slice a2 n2 m2] 48)).heap.size=w.heap.size+1 from by simp] at hra;obtain⟨W,hW⟩:∃ W,W=(w.alloc (.cells #[.slice a0 n0 m0,.slice a1 n1 m1,.slice a2 n2 m2] 48)).alloc bB:=⟨_,rfl⟩;rw[← hW] at hb1 hr0 hra;have hT:=h.below hb1;have nx:=iA W F tb p T X hT hml hal;rw[hm] at nx;have hflt:=h.flt;have hout:=fun k (hk:X.D k)=>(h.out k hk).2
 unfold bB at hW hra;have HW:=k_ hW;have PPX:=k_ POP;clear hb0 hW hT h hm hml hal POP;have NX:=k_ nx;clear nx;have HB1:=k_ hb1;clear hb1;have HRA:=k_ hra;clear hra;have HR0:=k_ hr0;clear hr0;have HFLT:=k_ hflt;clear hflt;have HOUT:=k_ hout;clear hout
 go_enter Tryz.func126,Tryz.ntmps126
 go_upto_region 1 with fail
 rw[← HW.out];go_wp2_with fail;refine NX.out.mono ?_;rintro e w3 ⟨rfl,hb3⟩;have hb13:=HB1.out.trans (hb3.mono HB1.out.size);have hsz:w.heap.size+2≤w3.heap.size:=Nat.le_trans (aj HRA.out) hb3.size;have hro3:=(fb_ hb3).heap HR0.out (fun h=>h);have hr3:=(fb_ hb3).heap HRA.out (fun h=>h);have pp:=PPX.out w3 hb13;have k0:w3.cell? ⟨w.heap.size,0,none⟩=some (.slice a0 n0 m0):=(aa hro3 0).1;have k1:w3.cell? ⟨w.heap.size,1,none⟩=some (.slice a1 n1 m1):=(aa hro3 1).1;have k2:w3.cell? ⟨w.heap.size,2,none⟩=some (.slice a2 n2 m2):=(aa hro3 2).1;clear hb3 NX hro3;have PP:=k_ pp;clear pp;have HR3:=k_ hr3;clear hr3;have HB13:=k_ hb13;clear hb13;have HSZ:=k_ hsz;clear hsz;go_wp2_with fail;refine PP.out.mono ?_;rintro e w5 ⟨rfl,F',X',hT',hXD,hF',hf5⟩;have hsz:=HSZ.out;have hr5:=hf5.heap HR3.out (fun e=>by have:=HFLT.out (w.heap.size+1) e;omega);have hfw:=(Fr.of_below HB13.out F).trans hf5 (fun _ _ h=>h);have hFz:∀ q,F' q→q≠w.heap.size+1:=fun q hq e=>by
  rcases hF' q hq with h1 | h1
  ·have:=HFLT.out q h1;omega
  ·omega
 obtain⟨⟨u0,u1,u2,u3,u4,u5,u6⟩,n0,n1,n2,n3,n4,n5,n6⟩:=aX hr5;have hfs:=bO w5 (.int .i64 k) (.int .i64 a) (.int .i64 f) (.int .i64 v) (.int .i64 fn) (.bool b) (.slice r0 r1 r2) (w.heap.size+1);have hrs:=bN hr5 (.int .i64 k) (.int .i64 a) (.int .i64 f) (.int .i64 v) (.int .i64 fn) (.bool b) (.slice r0 r1 r2);have hT5:=hT'.fr hfs (fun q hq e=>hFz q hq e) (fun q hq e=>by rw[hXD.1] at hq;have:=HOUT.out q hq;have e:q=w.heap.size+1:=e;omega);have hf6:=hfw.trans hfs (fun q hq e=>by have e:q=w.heap.size+1:=e;omega);have hF6:∀ q,F' q→F q∨w.heap.size≤q:=fun q hq=>(hF' q hq).imp id (fun h1=>by omega)
 have HPP:=k_ (show aW w F tb p X T' al kf (bA k a f v fn b (.slice r0 r1 r2)) _ _ from⟨rfl,F',X',hT5,hXD,hF6,hf6⟩);clear hfs hr5 hT' hT5 hf6 hfw hF6 hFz hF' hf5 hXD hsz k0 k1 k2;have HRS:=k_ hrs;clear hrs;unfold bA
 go_wp2_with (with_reducible refine bodyPost_ret ?_ rfl HPP.out;have k0:=(aa HRS.out 0).1;have k1:=(aa HRS.out 1).1;have k2:=(aa HRS.out 2).1;have k3:=(aa HRS.out 3).1;have k4:=(aa HRS.out 4).1;have k5:=(aa HRS.out 5).1;have k6:=(aa HRS.out 6).1;simp at k0 k1 k2 k3 k4 k5 k6;simp[results,Tryz.results126,go_sem,k0,k1,k2,k3,k4,k5,k6,bA])
theorem step_exit (w:World) (F:Nat→Prop) (tb:Nat) (p:TPrg) (T:Tk) (X:TB) (h:TaskAt w F tb p T X) (hm:iK T.marks X.al=3) (hml:T.marks.length≤10000) (hal:X.al.length≤10000) (a0 a1 a2:Option Addr) (n0 m0 n1 m1 n2 m2:Nat) (ma:Option Addr) :
  Calls Tryz.prog 126 #[.agg #[.slice a0 n0 m0,.slice a1 n1 m1,.slice a2 n2 m2],.pointer ma,.pointer (some ⟨tb,0,none⟩)] w (aW w F tb p X T X.al X.kf (bA 10 0 0 0 0 false (.slice none 0 0))):=by
 have hb0:=((Below.refl w.heap.size w).alloc (Nat.le_refl _) (.cells #[.slice a0 n0 m0,.slice a1 n1 m1,.slice a2 n2 m2] 48));have hb1:=hb0.alloc hb0.size bB;have hr0:=aU (ai w (.cells #[.slice a0 n0 m0,.slice a1 n1 m1,.slice a2 n2 m2] 48)) bB;have hra:=ai (w.alloc (.cells #[.slice a0 n0 m0,.slice a1 n1 m1,.slice a2 n2 m2] 48)) bB;rw[show (w.alloc (.cells #[.slice a0 n0 m0,.slice a1 n1 m1,.slice a2 n2 m2] 48)).heap.size=w.heap.size+1 from by simp] at hra;obtain⟨W,hW⟩:∃ W,W=(w.alloc (.cells #[.slice a0 n0 m0,.slice a1 n1 m1,.slice a2 n2 m2] 48)).alloc bB:=⟨_,rfl⟩;rw[← hW] at hb1 hr0 hra;have hT:=h.below hb1;have nx:=iA W F tb p T X hT hml hal;rw[hm] at nx;have hflt:=h.flt;have hout:=fun k (hk:X.D k)=>(h.out k hk).2
 unfold bB at hW hra;have HW:=k_ hW;have HTT:=k_ h;clear hb0 hW hT h hm hml hal;have NX:=k_ nx;clear nx;have HB1:=k_ hb1;clear hb1;have HRA:=k_ hra;clear hra;have HR0:=k_ hr0;clear hr0;have HFLT:=k_ hflt;clear hflt;have HOUT:=k_ hout;clear hout
 go_enter Tryz.func126,Tryz.ntmps126
 go_upto_region 1 with fail
 rw[← HW.out];go_wp2_with fail;refine NX.out.mono ?_;rintro e w3 ⟨rfl,hb3⟩;have hb13:=HB1.out.trans (hb3.mono HB1.out.size);have hsz:w.heap.size+2≤w3.heap.size:=Nat.le_trans (aj HRA.out) hb3.size;have hro3:=(fb_ hb3).heap HR0.out (fun h=>h);have hr3:=(fb_ hb3).heap HRA.out (fun h=>h);have k0:w3.cell? ⟨w.heap.size,0,none⟩=some (.slice a0 n0 m0):=(aa hro3 0).1;have k1:w3.cell? ⟨w.heap.size,1,none⟩=some (.slice a1 n1 m1):=(aa hro3 1).1;have k2:w3.cell? ⟨w.heap.size,2,none⟩=some (.slice a2 n2 m2):=(aa hro3 2).1;clear hb3 NX hro3;have hfw:=Fr.of_below hb13 F;have hT3:=HTT.out.below hb13;have hFz:∀ q,F q→q≠w.heap.size+1:=fun q hq e=>by
  have:=HFLT.out q hq;omega
 obtain⟨⟨u0,u1,u2,u3,u4,u5,u6⟩,n0,n1,n2,n3,n4,n5,n6⟩:=aX hr3;have hfs:=bO w3 (.int .i64 10) (.int .i64 0) (.int .i64 0) (.int .i64 0) (.int .i64 0) (.bool false) (.slice none 0 0) (w.heap.size+1);have hrs:=bN hr3 (.int .i64 10) (.int .i64 0) (.int .i64 0) (.int .i64 0) (.int .i64 0) (.bool false) (.slice none 0 0);have hT5:=hT3.fr hfs (fun q hq e=>hFz q hq e) (fun q hq e=>by have:=HOUT.out q hq;have e:q=w.heap.size+1:=e;omega);have hf6:=hfw.trans hfs (fun q hq e=>by have e:q=w.heap.size+1:=e;omega);have hF6:∀ q,F q→F q∨w.heap.size≤q:=fun q hq=>.inl hq
 have HPP:=k_ (show aW w F tb p X T X.al X.kf (bA 10 0 0 0 0 false (.slice none 0 0)) _ _ from⟨rfl,F,X,hT5,⟨rfl,rfl,rfl,rfl⟩,hF6,hf6⟩);clear hfs hr3 hT3 hT5 hf6 hfw hF6 hFz hsz k0 k1 k2 hb13;have HRS:=k_ hrs;clear hrs;unfold bA
 go_wp2_with (with_reducible refine bodyPost_ret ?_ rfl HPP.out;have k0:=(aa HRS.out 0).1;have k1:=(aa HRS.out 1).1;have k2:=(aa HRS.out 2).1;have k3:=(aa HRS.out 3).1;have k4:=(aa HRS.out 4).1;have k5:=(aa HRS.out 5).1;have k6:=(aa HRS.out 6).1;simp at k0 k1 k2 k3 k4 k5 k6;simp[results,Tryz.results126,go_sem,k0,k1,k2,k3,k4,k5,k6,bA])
end Go.Proofs.YtlofbhoicbemnaaGreatDoor.Tk
