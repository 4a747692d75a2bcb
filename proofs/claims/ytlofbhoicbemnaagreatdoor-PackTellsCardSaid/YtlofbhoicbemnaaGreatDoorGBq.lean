/- Walk: a new machine of the first program. -/
import Derived.Test.YtlofbhoicbemnaaGreatDoorGBo
import Derived.Test.YtlofbhoicbemnaaGreatDoorGBp
set_option linter.unusedVariables false
set_option linter.unusedSimpArgs false
set_option maxRecDepth 100000
set_option maxHeartbeats 3200000
namespace Go.Proofs.YtlofbhoicbemnaaGreatDoor.Tk
open Go.ChangeShapes Go.WideShapes Go.ChangeAt Go.RowKit Go.Maps
theorem pvZ {w:World} {D:Nat→Prop} {v:Int} {c0 c1 c2:Value} (h:aD w D (pZ v) c0 c1 c2):PV w D qZ c0 c1 c2:=by
 obtain⟨⟨a0,m0,rfl,_⟩,⟨a1,m1,rfl,hs⟩,a2,m2,rfl,hf⟩:=h;refine⟨⟨_,_,_,rfl⟩,⟨a1,m1,rfl,fun j hj=>by cases hj⟩,a2,m2,rfl,fun j hj=>?_⟩;obtain rfl:j=0:=by have:j<1:=hj;omega
 obtain⟨b,o,e,hD,c0,c1,c2,c3,c4,q0,q1,q2,q3,q4,r1,r2,⟨y0,z0,r3,_⟩,⟨y3,z3,r4,r5⟩,y4,z4,r6,_⟩:=hf 0 (by show 0<1;decide);exact⟨b,o,e,hD,c0,c1,c2,c3,c4,q0,q1,q2,q3,q4,⟨y0,z0,r3⟩,⟨_,r1⟩,r2,⟨y3,z3,r4,r5⟩,y4,_,z4,r6⟩
def qw:Cfg:=⟨8,16,512,40,8⟩
def kP (v:Int) (w:World) (e:Ending) (w':World):Prop:=∃ wb X,∃ D:Nat→Prop,∃ tb F XT kb tc hb hc,e=.returned (.tuple #[.pointer (some ⟨wb,0,none⟩),.int .i64 0,.agg #[.int .i64 0,.int .i64 0]])∧dw w' wb X∧X.ot=.slice none 0 0∧X.st=0 ∧
 X.tk=.slice (some ⟨kb,0,none⟩) 1 tc∧X.hd=.slice (some ⟨hb,0,none⟩) 1 hc∧Own ptE w' w.heap.size X.tk [tb]∧Own Be w' w.heap.size X.hd [(0,false)]∧TaskAt w' F tb qZ (TZ 0 0) XT∧XT.New∧XT.D=D∧aD w' D (pZ v) X.c0 X.c1 X.c2 ∧
 (∀ k,D k→w.heap.size≤k∧k<w'.heap.size∧k≠wb∧k≠kb∧k≠hb)∧(∀ q,F q→w.heap.size≤q∧q≠wb∧q≠kb∧q≠hb)∧kb≠hb∧wb≠kb∧wb≠hb∧w.heap.size≤wb∧Below w.heap.size w w'
theorem Al (w:World) (v:Int) (hv5:v=5∨v=-7) (D:Nat→Prop) (hD:∀ k,D k→k<w.heap.size) (c0 c1 c2:Value) (hg:aD w D (pZ v) c0 c1 c2) :
  Calls Tryz.prog 84 #[.agg #[c0,c1,c2],qw.val] w (kP v w):=by
 have hg0:=hg;obtain⟨⟨a0,m0,e0,_⟩,⟨a1,m1,e1,_⟩,a2,m2,e2,_⟩:=hg;have e0:c0=.slice a0 0 m0:=e0;have e1:c1=.slice a1 0 m1:=e1;have e2:c2=.slice a2 1 m2:=e2;subst e0 e1 e2;obtain⟨W1,hW1⟩:∃ W1,W1=w.alloc (.cells #[.slice a0 0 m0,.slice a1 0 m1,.slice a2 1 m2] 48):=⟨_,rfl⟩;obtain⟨W2,hW2⟩:∃ W2,W2=W1.alloc (.cells #[.int .i64 8,.int .i64 16,.int .i64 512,.int .i64 40,.int .i64 8] 50):=⟨_,rfl⟩;obtain⟨W3,hW3⟩:∃ W3,W3=W2.alloc (.cells #[.int .i64 0,.int .i64 0] 147):=⟨_,rfl⟩;have b1:Below w.heap.size w W1:=by rw[hW1];exact(Below.refl _ _).alloc (Nat.le_refl _) _
 have b2:Below W1.heap.size W1 W2:=by rw[hW2];exact(Below.refl _ _).alloc (Nat.le_refl _) _
 have b3:Below W2.heap.size W2 W3:=by rw[hW3];exact(Below.refl _ _).alloc (Nat.le_refl _) _
 have s1:W1.heap.size=w.heap.size+1:=by rw[hW1];simp
 have s2:W2.heap.size=w.heap.size+2:=by rw[hW2];simp[s1]
 have r0:W1.heap[w.heap.size]?=some (.cells #[.slice a0 0 m0,.slice a1 0 m1,.slice a2 1 m2] 48):=by rw[hW1];exact ai _ _
 have r1:W2.heap[w.heap.size+1]?=some (.cells #[.int .i64 8,.int .i64 16,.int .i64 512,.int .i64 40,.int .i64 8] 50):=by rw[hW2,← s1];exact ai _ _
 have r2:W3.heap[w.heap.size+2]?=some (.cells #[.int .i64 0,.int .i64 0] 147):=by rw[hW3,← s2];exact ai _ _
 have r0:=(fb_ b2).heap r0 (fun h=>h);have r0:=(fb_ b3).heap r0 (fun h=>h);have r1:=(fb_ b3).heap r1 (fun h=>h);have hb3:Below w.heap.size w W3:=(b1.trans (b2.mono b1.size)).trans (b3.mono (Nat.le_trans b1.size b2.size));have s3:W3.heap.size=w.heap.size+3:=by rw[hW3];simp[s2]
 obtain⟨pq,hpq⟩:∃ pq,pq=w.heap.size:=⟨_,rfl⟩;obtain⟨cq,hcq⟩:∃ cq,cq=w.heap.size+1:=⟨_,rfl⟩;obtain⟨lq,hlq⟩:∃ lq,lq=w.heap.size+1+1:=⟨_,rfl⟩;have hW:W3=((w.alloc (.cells #[.slice a0 0 m0,.slice a1 0 m1,.slice a2 1 m2] 48)).alloc (.cells #[.int .i64 8,.int .i64 16,.int .i64 512,.int .i64 40,.int .i64 8] 50)).alloc (.cells #[.int .i64 0,.int .i64 0] 147):=by rw[hW3,hW2,hW1]
 rw[← hpq] at r0;rw[← hcq] at r1;rw[← hlq] at r2;have HW:=k_ hW;have HQ:=k_ (And.intro hpq (And.intro hcq hlq));have HS3:=k_ s3;have hg3:=hg0.fr (fb_ hb3) (fun _ _ h=>h);have HG3:=k_ hg3;clear hW hW1 hW2 hW3 b1 b2 b3 s1 s2 s3 hpq hcq hlq hg0 hg3;have HB3:=k_ hb3;clear hb3;have R0:=k_ r0;clear r0;have R1:=k_ r1;clear r1;have R2:=k_ r2;clear r2;have ck:=fun w=>kS w qw
 rw[if_pos (show qw.ok from by decide)] at ck;have CK:=k_ ck;clear ck;have fp:=fun wx (hx:Below W3.heap.size W3 wx)=>wu wx D (fun k hk=>Nat.lt_of_lt_of_le (hD k hk) (Nat.le_trans HB3.out.size hx.size)) (pZ v) _ _ _ (HG3.out.fr (fb_ hx) (fun _ _ h=>h)) (J4 v hv5).1 (J4 v hv5).2
 have FP:=k_ fp;clear fp;unfold qw Cfg.val;unfold qw Cfg.val at CK
 dsimp only at CK
 go_enter Tryz.func84,Tryz.ntmps84
 go_upto_region 1 with fail
 rw[← HW.out,← HQ.out.2.2,← HQ.out.2.1,← HQ.out.1];have HC:=k_ (show ∀ wx,Below W3.heap.size W3 wx→wx.cell? ⟨pq,0,none⟩=some (.slice a0 0 m0)∧wx.cell? ⟨pq,1,none⟩=some (.slice a1 0 m1)∧wx.cell? ⟨pq,2,none⟩=some (.slice a2 1 m2)∧wx.cell? ⟨cq,0,none⟩=some (.int .i64 8)∧wx.cell? ⟨cq,1,none⟩=some (.int .i64 16)∧wx.cell? ⟨cq,2,none⟩=some (.int .i64 512)∧wx.cell? ⟨cq,3,none⟩=some (.int .i64 40)∧wx.cell? ⟨cq,4,none⟩=some (.int .i64 8) from fun wx hx=>by
  have g0:=(fb_ hx).heap R0.out (fun h=>h);have g1:=(fb_ hx).heap R1.out (fun h=>h);exact⟨(aa g0 0).1,(aa g0 1).1,(aa g0 2).1,(aa g1 0).1,(aa g1 1).1,(aa g1 2).1,(aa g1 3).1,(aa g1 4).1⟩)
 obtain⟨q0,q1,q2,q3,q4,q5,q6,q7⟩:=HC.out W3 (Below.refl _ _);go_wp2_with fail;refine(CK.out _).mono ?_;rintro e w4 ⟨rfl,hb4⟩;have HB4:=k_ hb4;clear q0 q1 q2 q3 q4 q5 q6 q7 hb4;obtain⟨q0,q1,q2,q3,q4,q5,q6,q7⟩:=HC.out w4 HB4.out;have fp4:=FP.out w4 HB4.out;have FP4:=k_ fp4;clear fp4;go_wp2_with fail;refine FP4.out.mono ?_;intro e w5 hpost;obtain⟨hb5,Ms,mb,b,nm,V,hMs,rfl,hmp⟩:=Ee (tb:=tZ) (by rw[KE v hv5]) (JW v hv5) hpost;have hb6:=(HB4.out.trans (hb5.mono HB4.out.size)).alloc (HB4.out.trans (hb5.mono HB4.out.size)).size (.cells #[.int .i64 0,.int .i64 0] 147);obtain⟨w6,hw6⟩:∃ w6,w6=w5.alloc (.cells #[.int .i64 0,.int .i64 0] 147):=⟨_,rfl⟩;rw[← hw6] at hb6;have HB6:=k_ hb6;have HW6:=k_ hw6;clear q0 q1 q2 q3 q4 q5 q6 q7 hb5 hMs hmp hpost hb6 hw6 FP4 FP
 go_upto_region 7 with fail
 rw[← HW6.out];have HB7:=k_ (show Below W3.heap.size W3 w6.drew from HB6.out.drew);refine wp_region_noPanic ?_;refine wp_region_held_drew (S:=fun wx=>Below W3.heap.size W3 wx) (by kernel_rfl) HB7.out (fun _=>?_);clear HW6;generalize w6.drew=w7 at *;refine tk_ (i:=0) (v:=?_) rfl (by kernel_rfl) (fun _ _ _ h=>h) ?tq0 HB7.out ?_
 case tq0=>(intro wq hq;obtain⟨q0,q1,q2,q3,q4,q5,q6,q7⟩:=HC.out wq hq;go_simp;first | done | with_reducible rfl)
 refine tk_ (i:=2) (v:=?_) rfl (by kernel_rfl) (fun _ _ _ h=>h) ?tq2 HB7.out ?_
 case tq2=>(intro wq hq;obtain⟨q0,q1,q2,q3,q4,q5,q6,q7⟩:=HC.out wq hq;go_simp;first | done | with_reducible rfl)
 refine tk_ (i:=3) (v:=?_) rfl (by kernel_rfl) (fun _ _ _ h=>h) ?tq3 HB7.out ?_
 case tq3=>(intro wq hq;obtain⟨q0,q1,q2,q3,q4,q5,q6,q7⟩:=HC.out wq hq;go_simp;first | done | with_reducible rfl)
 refine rd_ (i:=1) (by kernel_rfl) rfl fun K hK=>?_
 have hgx:=fun wx (hx:Below W3.heap.size W3 wx)=>HG3.out.fr (fb_ hx) (fun _ _ h=>h)
 have hDx:=fun wx (hx:Below W3.heap.size W3 wx) k (hk:D k)=>Nat.lt_of_lt_of_le (hD k hk) (Nat.le_trans HB3.out.size hx.size)
 have wd:=jm w7 D (hDx w7 HB7.out) qZ _ _ _ (0:Nat) (pvZ (hgx w7 HB7.out)) rA;rw[wZ] at wd;have HGX:=k_ hgx;have HDX:=k_ hDx;clear hgx hDx;have WD:=k_ wd;clear wd;go_simp
 go_at_call 96
 refine WD.out.mono ?_;rintro e w8 ⟨rfl,hb8⟩;have HB8:=k_ (HB7.out.trans (hb8.mono HB7.out.size));clear hb8;refine hK.out _ _ HB8.out (fun _=>?_);clear hK K;refine tk_ (i:=4) (v:=?_) rfl (by kernel_rfl) (fun _ _ _ h=>h) ?tq4 HB8.out ?_
 case tq4=>(intro wq hq;obtain⟨q0,q1,q2,q3,q4,q5,q6,q7⟩:=HC.out wq hq;go_simp;first | done | with_reducible rfl)
 refine wpAnyH_done (by kernel_rfl) ?_ _;refine NoPanic.normal ?_;obtain⟨q0,q1,q2,q3,q4,q5,q6,q7⟩:=HC.out w8 HB8.out;have cp:=BL w8 D (pZ v) _ _ _ (HGX.out w8 HB8.out) (by rcases hv5 with rfl | rfl <;> decide +kernel);have CP:=k_ cp;clear cp
 go_upto_region 9 with fail
 go_wp2_with fail;refine CP.out.mono ?_;rintro e w9 ⟨d0,d1,d2,rfl,hown,hb9⟩;have hval:=hown.val;have hval0:=hval;obtain⟨⟨b0,k0,e0,_⟩,⟨b1,k1,e1,_⟩,b2,k2,e2,_⟩:=hval0;have e0:d0=.slice b0 0 k0:=e0;have e1:d1=.slice b1 0 k1:=e1;have e2:d2=.slice b2 1 k2:=e2;subst e0 e1 e2;have hb39:=HB8.out.trans (hb9.mono HB8.out.size);have g0:=(fb_ hb39).heap R0.out (fun h=>h);have g1:=(fb_ hb39).heap R1.out (fun h=>h);have gl:=(fb_ hb39).heap R2.out (fun h=>h);obtain⟨w10,hw10⟩:∃ w10,w10=((w9.setCell ⟨pq,0,none⟩ (.slice b0 0 k0)).setCell ⟨pq,1,none⟩ (.slice b1 0 k1)).setCell ⟨pq,2,none⟩ (.slice b2 1 k2):=⟨_,rfl⟩;have hf10:Fr (fun q=>q=pq) w9 w10:=by rw[hw10];exact(((Fr.refl (fun q=>q=pq) w9).setCell (p:=⟨pq,0,none⟩) (fun _=>rfl) (.slice b0 0 k0)).setCell (p:=⟨pq,1,none⟩) (fun _=>rfl) (.slice b1 0 k1)).setCell (p:=⟨pq,2,none⟩) (fun _=>rfl) (.slice b2 1 k2)
 have gp:w10.heap[pq]?=some (.cells #[.slice b0 0 k0,.slice b1 0 k1,.slice b2 1 k2] 48):=by rw[hw10];exact ag (ag (ag g0 0 _) 1 _) 2 _
 have nz1:¬ cq=pq:=by have:=HQ.out;omega
 have nz2:¬ lq=pq:=by have:=HQ.out;omega
 have gc:=hf10.heap g1 nz1;have gl:=hf10.heap gl nz2;have hD2:∀ k,(w8.heap.size≤k∧k<w9.heap.size)→¬ k=pq:=fun k hk e=>by have:=HQ.out.1;have:=HB8.out.size;have:=HS3.out;omega
 have hv10:=hval.fr hf10 hD2;have hb10:Below w.heap.size w w10:=(HB3.out.trans (hb39.mono HB3.out.size)).trans (hf10.below (Nat.le_trans HB3.out.size hb39.size) (fun q hq=>by have hq:q=pq:=hq;have:=HQ.out.1;omega));have hs10:w9.heap.size≤w10.heap.size:=hf10.size;have p0:=(aa g0 0).1;have p1:=(aa g0 1).1;have p2:=(aa g0 2).1;have f0:=(aa g0 0).2;have f1:=(aa g0 1).2;have f2:=(aa g0 2).2;simp only[List.getElem?_toArray,List.getElem?_cons_zero,List.getElem?_cons_succ] at p0 p1 p2;have HW10:=k_ hw10;have HSZ:=k_ (And.intro HB8.out.size (And.intro hb9.size hs10));clear hw10 hf10 g0 g1 hb39 hb9 hown hval hD2 q0 q1 q2 hs10;have GP:=k_ gp;clear gp;have GC:=k_ gc;clear gc;have GL:=k_ gl;clear gl;have HV10:=k_ hv10;clear hv10;have HB10:=k_ hb10;clear hb10
 go_upto_region 10 with fail
 rw[← HW10.out];clear p0 p1 p2 f0 f1 f2 q3 q4 q5 q6 q7 HW10;have hn:=Er w10 b1 k1;have HC2:=k_ (show ∀ wx,Below w10.heap.size w10 wx→wx.cell? ⟨pq,0,none⟩=some (.slice b0 0 k0)∧wx.cell? ⟨pq,1,none⟩=some (.slice b1 0 k1)∧wx.cell? ⟨pq,2,none⟩=some (.slice b2 1 k2)∧wx.cell? ⟨cq,0,none⟩=some (.int .i64 8)∧wx.cell? ⟨cq,1,none⟩=some (.int .i64 16)∧wx.cell? ⟨cq,2,none⟩=some (.int .i64 512)∧wx.cell? ⟨cq,3,none⟩=some (.int .i64 40)∧wx.cell? ⟨cq,4,none⟩=some (.int .i64 8) from fun wx hx=>by
  have g0:=(fb_ hx).heap GP.out (fun h=>h);have g1:=(fb_ hx).heap GC.out (fun h=>h);exact⟨(aa g0 0).1,(aa g0 1).1,(aa g0 2).1,(aa g1 0).1,(aa g1 1).1,(aa g1 2).1,(aa g1 3).1,(aa g1 4).1⟩)
 obtain⟨q0,q1,q2,q3,q4,q5,q6,q7⟩:=HC2.out w10 (Below.refl _ _);have HN:=k_ hn;clear hn;go_wp2_with fail;refine HN.out.mono ?_;rintro e w11 ⟨hpb,rfl,hb11⟩;clear q0 q1 q2 q3 q4 q5 q6 q7;have HB11:=k_ hb11;have hc2:=fun wx (hx:Below w11.heap.size w11 wx)=>HC2.out wx (hb11.trans (hx.mono hb11.size))
 clear HC2;have HC2:=k_ hc2;have pnx:=fun w=>F9 w
 have PNX:=k_ pnx;have mk0:∀ w,(Instr.makeSlice 44 (.int .i64 0) (.int .i64 0)).run Tryz.prog w=.ok (.slice (some ⟨w.heap.size,0,none⟩) 0 0) (w.alloc (.cells #[] 3)):=fun w=>by kernel_rfl
 clear hb11 hc2 pnx
 go_upto_region 11 with fail
 have HB12:=k_ (Below.refl w11.heap.size w11).drew;refine wp_region_noPanic ?_;refine wp_region_held_drew (S:=fun wx=>Below w11.heap.size w11 wx) (by kernel_rfl) HB12.out (fun _=>?_);generalize w11.drew=w12 at *;refine tk_ (i:=0) (v:=?_) rfl (by kernel_rfl) (fun _ _ _ h=>h) ?tq0 HB12.out ?_
 case tq0=>(intro wq hq;obtain⟨q0,q1,q2,q3,q4,q5,q6,q7⟩:=HC2.out wq hq;go_simp;first | done | with_reducible rfl)
 refine tk_ (i:=1) (v:=?_) rfl (by kernel_rfl) (fun _ _ _ h=>h) ?tq1 HB12.out ?_
 case tq1=>(intro wq hq;obtain⟨q0,q1,q2,q3,q4,q5,q6,q7⟩:=HC2.out wq hq;go_simp;first | done | with_reducible rfl)
 refine tk_ (i:=2) (v:=?_) rfl (by kernel_rfl) (fun _ _ _ h=>h) ?tq2 HB12.out ?_
 case tq2=>(intro wq hq;obtain⟨q0,q1,q2,q3,q4,q5,q6,q7⟩:=HC2.out wq hq;go_simp;first | done | with_reducible rfl)
 refine tk_ (i:=3) (v:=?_) rfl (by kernel_rfl) (fun _ _ _ h=>h) ?tq3 HB12.out ?_
 case tq3=>(intro wq hq;obtain⟨q0,q1,q2,q3,q4,q5,q6,q7⟩:=HC2.out wq hq;go_simp;first | done | with_reducible rfl)
 refine tk_ (i:=4) (v:=?_) rfl (by kernel_rfl) (fun _ _ _ h=>h) ?tq4 HB12.out ?_
 case tq4=>(intro wq hq;obtain⟨q0,q1,q2,q3,q4,q5,q6,q7⟩:=HC2.out wq hq;go_simp;first | done | with_reducible rfl)
 refine tk_ (i:=5) (v:=?_) rfl (by kernel_rfl) (fun _ _ _ h=>h) ?tq5 HB12.out ?_
 case tq5=>(intro wq hq;obtain⟨q0,q1,q2,q3,q4,q5,q6,q7⟩:=HC2.out wq hq;go_simp;first | done | with_reducible rfl)
 refine tk_ (i:=7) (v:=?_) rfl (by kernel_rfl) (fun _ _ _ h=>h) ?tq7 HB12.out ?_
 case tq7=>(intro wq hq;obtain⟨q0,q1,q2,q3,q4,q5,q6,q7⟩:=HC2.out wq hq;go_simp;first | done | with_reducible rfl)
 refine tk_ (i:=8) (v:=?_) rfl (by kernel_rfl) (fun _ _ _ h=>h) ?tq8 HB12.out ?_
 case tq8=>(intro wq hq;obtain⟨q0,q1,q2,q3,q4,q5,q6,q7⟩:=HC2.out wq hq;go_simp;first | done | with_reducible rfl)
 refine tk_ (i:=9) (v:=?_) rfl (by kernel_rfl) (fun _ _ _ h=>h) ?tq9 HB12.out ?_
 case tq9=>(intro wq hq;obtain⟨q0,q1,q2,q3,q4,q5,q6,q7⟩:=HC2.out wq hq;go_simp;first | done | with_reducible rfl)
 refine wpAnyH_ready (rs:=[6,10]) (by kernel_rfl) (by simp) ?_;refine(AllReadyH.cons rfl (fun K hK=>?_) (AllReadyH.cons rfl (fun K hK=>?_) AllReadyH.nil))
 ·skip
  go_simp
  go_at_call 99
  refine(PNX.out _).mono ?_;rintro e w13 ⟨pb,rfl,hb⟩;have HBw13:=k_ (HB12.out.trans (hb.mono HB12.out.size));clear hb;refine hK.out _ _ HBw13.out (fun _=>?_);clear hK K;refine rd_ (i:=10) (by kernel_rfl) rfl fun K hK=>?_
  go_simp;obtain⟨w14,hw14⟩:∃ u,u=World.alloc w13 (.cells #[] 3):=⟨_,rfl⟩;have HBw14:=k_ (show Below w11.heap.size w11 w14 by rw[hw14];exact HBw13.out.alloc HBw13.out.size _);obtain⟨gb,hgb⟩:∃ y,y=(w13).heap.size:=⟨_,rfl⟩;rw[← hw14,← hgb];clear hw14 hgb;refine hK.out _ _ HBw14.out (fun _=>?_);clear hK K;refine tk_ (i:=11) (v:=?_) rfl (by kernel_rfl) (fun _ _ _ h=>h) ?tq11 HBw14.out ?_
  case tq11=>(intro wq hq;obtain⟨q0,q1,q2,q3,q4,q5,q6,q7⟩:=HC2.out wq hq;go_simp;first | done | with_reducible rfl)
  refine rd_ (i:=12) (by kernel_rfl) rfl fun K hK=>?_
  go_simp;obtain⟨wb,hwb⟩:∃ y,y=(w14).heap.size:=⟨_,rfl⟩;obtain⟨N,hN⟩:∃ u,u=World.alloc w14 (.cells #[.slice b0 0 k0,.slice b1 0 k1,.slice b2 1 k2,.int .i64 8,.int .i64 16,.int .i64 512,.int .i64 40,.int .i64 8,.pointer (some ⟨mb,0,none⟩),.pointer (some ⟨hpb,0,none⟩),.pointer (some ⟨pb,0,none⟩),.int .u64 0,.int .i64 0,.int .i64 0,.int .i64 0,.slice none 0 0,.slice none 0 0,.slice (some ⟨gb,0,none⟩) 0 0,.slice none 0 0,.int .i64 0,.int .i64 0,.int .i64 0] 175):=⟨_,rfl⟩;have hrow:=ai w14 (.cells #[.slice b0 0 k0,.slice b1 0 k1,.slice b2 1 k2,.int .i64 8,.int .i64 16,.int .i64 512,.int .i64 40,.int .i64 8,.pointer (some ⟨mb,0,none⟩),.pointer (some ⟨hpb,0,none⟩),.pointer (some ⟨pb,0,none⟩),.int .u64 0,.int .i64 0,.int .i64 0,.int .i64 0,.slice none 0 0,.slice none 0 0,.slice (some ⟨gb,0,none⟩) 0 0,.slice none 0 0,.int .i64 0,.int .i64 0,.int .i64 0] 175);have hbN:Below w11.heap.size w11 N:=by rw[hN];exact HBw14.out.alloc HBw14.out.size _
  have hsN:wb<N.heap.size:=by rw[hN,hwb];simp
  rw[← hN,← hwb] at hrow;have hwo:dw N wb ⟨.slice b0 0 k0,.slice b1 0 k1,.slice b2 1 k2,8,16,512,40,8,mb,hpb,pb,0,0,0,0,.slice none 0 0,.slice none 0 0,.slice (some ⟨gb,0,none⟩) 0 0,.slice none 0 0,0,0,0⟩:=hrow;rw[← hN,← hwb];have hlew:w11.heap.size≤wb:=by rw[hwb];exact HBw14.out.size
  have HWO:=k_ hwo;have HBN:=k_ hbN;have HLW:=k_ (And.intro hlew hsN);clear hN hwb hrow hwo hbN hlew hsN;refine hK.out _ _ HBN.out (fun _=>?_);clear hK K;refine tk_ (i:=13) (v:=?_) rfl (by kernel_rfl) (fun _ _ _ h=>h) ?tq13 HBN.out ?_
  case tq13=>(intro wq hq;obtain⟨q0,q1,q2,q3,q4,q5,q6,q7⟩:=HC2.out wq hq;go_simp;first | done | with_reducible rfl)
  refine wpAnyH_done (by kernel_rfl) ?_ _;refine NoPanic.normal ?_;have hszs:w8.heap.size≤w9.heap.size∧w9.heap.size≤w11.heap.size:=⟨HSZ.out.2.1,Nat.le_trans HSZ.out.2.2 HB11.out.size⟩;have hvN:=(HV10.out.fr (fb_ HB11.out) (fun _ _ h=>h)).fr (fb_ HBN.out) (fun _ _ h=>h);have sp:=DL N wb _ HWO.out (fun k=>w8.heap.size≤k∧k<w9.heap.size) (fun k hk=>⟨by have:=HLW.out;omega,by have:=HLW.out;omega⟩) (pvZ hvN) rfl rfl rfl rfl rfl rfl;have HVN:=k_ hvN;have HSS:=k_ hszs;clear hvN hszs;have SP:=k_ sp;clear sp;go_wp2_with fail;refine SP.out.mono ?_;rintro e w20 ⟨rfl,tb,F,XT,kb,tc,hb,hc,v1,v2,hwo,rfl,rfl,ho1,ho2,hT,hXn,hXD,hF,hne,hf⟩;have hl0:lq<w11.heap.size:=by have:=aj GL.out;have:=HB11.out.size;omega
  have hl8:lq<w8.heap.size:=by have:=HQ.out.2.2;have:=HS3.out;have:=HSZ.out.1;omega
  have hlN:lq≠wb:=by have:=HLW.out;omega
  have hgl:=hf.heap ((fb_ HBN.out).heap ((fb_ HB11.out).heap GL.out (fun h=>h)) (fun h=>h)) hlN;have x0:=(aa hgl 0).1;have x1:=(aa hgl 1).1;have g0:=(aa hgl 0).2;have g1:=(aa hgl 1).2;simp only[List.getElem?_toArray,List.getElem?_cons_zero,List.getElem?_cons_succ] at x0 x1;have hf2:Fr (fun q=>q=lq) w20 ((w20.setCell ⟨lq,0,none⟩ (.int .i64 0)).setCell ⟨lq,1,none⟩ (.int .i64 0)):=((Fr.refl (fun q=>q=lq) w20).setCell (p:=⟨lq,0,none⟩) (fun _=>rfl) (.int .i64 0)).setCell (p:=⟨lq,1,none⟩) (fun _=>rfl) (.int .i64 0);have hrs:=ag (ag hgl 0 (.int .i64 0)) 1 (.int .i64 0);have hb1:=(ho1.lt rfl).1;have hb2:=(ho2.lt rfl).1;have hw8w:w.heap.size≤w8.heap.size:=by have:=HS3.out;have:=HSZ.out.1;omega
  have hw11:w.heap.size≤w11.heap.size:=by have:=HSS.out;omega
  have hl:lq<N.heap.size:=by have:=HBN.out.size;omega
  have hend:kP v w (.returned (.tuple #[.pointer (some ⟨wb,0,none⟩),.int .i64 0,.agg #[.int .i64 0,.int .i64 0]])) ((w20.setCell ⟨lq,0,none⟩ (.int .i64 0)).setCell ⟨lq,1,none⟩ (.int .i64 0)):=by
   have hLW:=HLW.out;have hSS:=HSS.out;have h2N:=HBN.out.size;refine⟨wb,_,(fun k=>w8.heap.size≤k∧k<w9.heap.size),tb,F,XT,kb,tc,hb,hc,rfl,hwo.fr hf2 (fun e=>hlN e.symm),rfl,rfl,rfl,rfl,(ho1.fr hf2 (fun q hq e=>?_)).base (fun q hq=>?_),(ho2.fr hf2 (fun q hq e=>?_)).base (fun q hq=>?_),hT.fr hf2 (fun q hq e=>?_) (fun q hq e=>?_),hXn,hXD,(HVN.out.fr hf (fun q hq e=>?_)).fr hf2 (fun q hq e=>?_),fun k hk=>⟨?_,?_,?_,?_,?_⟩,fun q hq=>⟨?_,?_,?_,?_⟩,hne,?_,?_,?_,?_⟩
   ·have:=(ho1.lt hq).1;have e:q=lq:=e;omega
   ·have:=(ho1.lt hq).1;omega
   ·have:=(ho2.lt hq).1;have e:q=lq:=e;omega
   ·have:=(ho2.lt hq).1;omega
   ·have:=(hF q hq).1;have e:q=lq:=e;omega
   ·rw[hXD] at hq;have e:q=lq:=e;have:=hq.1;omega
   ·have e:q=wb:=e;have:=hq.2;omega
   ·have e:q=lq:=e;have:=hq.1;omega
   ·have:=hk.1;omega
   ·have:=hk.2;have:=hf.size;have:=hf2.size;omega
   ·have:=hk.2;omega
   ·have:=hk.2;have:N.heap.size≤kb:=hb1;omega
   ·have:=hk.2;have:N.heap.size≤hb:=hb2;omega
   ·have:=(hF q hq).1;omega
   ·have:=(hF q hq).1;omega
   ·exact(hF q hq).2.1
   ·exact(hF q hq).2.2
   ·have:N.heap.size≤kb:=hb1;omega
   ·have:N.heap.size≤hb:=hb2;omega
   ·omega
   ·have hbA:=(HB10.out.trans (HB11.out.mono HB10.out.size)).trans (HBN.out.mono (Nat.le_trans HB10.out.size HB11.out.size))
    have hbB:=hbA.trans (hf.below hbA.size (fun q hq=>by have hq:q=wb:=hq;omega));exact hbB.trans (hf2.below hbB.size (fun q hq=>by have hq:q=lq:=hq;have:=HQ.out.2.2;omega))
  have HEND:=k_ hend;have HRS:=k_ hrs;clear hend hrs hf2 hgl hb1 hb2 ho1 ho2 hT hXn hXD hF hne hf hwo hl0 hl8 hw8w hw11 hl;go_wp2_with fail;refine bodyPost_ret ?_ rfl HEND.out;have y0:=(aa HRS.out 0).1;have y1:=(aa HRS.out 1).1
  simp at y0 y1
  simp[results,Tryz.results84,go_sem,y0,y1]
 ·skip
  go_simp;obtain⟨w13,hw13⟩:∃ u,u=World.alloc w12 (.cells #[] 3):=⟨_,rfl⟩;have HBw13:=k_ (show Below w11.heap.size w11 w13 by rw[hw13];exact HB12.out.alloc HB12.out.size _);obtain⟨gb,hgb⟩:∃ y,y=(w12).heap.size:=⟨_,rfl⟩;rw[← hw13,← hgb];clear hw13 hgb;refine hK.out _ _ HBw13.out (fun _=>?_);clear hK K;refine rd_ (i:=6) (by kernel_rfl) rfl fun K hK=>?_
  go_simp
  go_at_call 99
  refine(PNX.out _).mono ?_;rintro e w14 ⟨pb,rfl,hb⟩;have HBw14:=k_ (HBw13.out.trans (hb.mono HBw13.out.size));clear hb;refine hK.out _ _ HBw14.out (fun _=>?_);clear hK K;refine tk_ (i:=11) (v:=?_) rfl (by kernel_rfl) (fun _ _ _ h=>h) ?tq11 HBw14.out ?_
  case tq11=>(intro wq hq;obtain⟨q0,q1,q2,q3,q4,q5,q6,q7⟩:=HC2.out wq hq;go_simp;first | done | with_reducible rfl)
  refine rd_ (i:=12) (by kernel_rfl) rfl fun K hK=>?_
  go_simp;obtain⟨wb,hwb⟩:∃ y,y=(w14).heap.size:=⟨_,rfl⟩;obtain⟨N,hN⟩:∃ u,u=World.alloc w14 (.cells #[.slice b0 0 k0,.slice b1 0 k1,.slice b2 1 k2,.int .i64 8,.int .i64 16,.int .i64 512,.int .i64 40,.int .i64 8,.pointer (some ⟨mb,0,none⟩),.pointer (some ⟨hpb,0,none⟩),.pointer (some ⟨pb,0,none⟩),.int .u64 0,.int .i64 0,.int .i64 0,.int .i64 0,.slice none 0 0,.slice none 0 0,.slice (some ⟨gb,0,none⟩) 0 0,.slice none 0 0,.int .i64 0,.int .i64 0,.int .i64 0] 175):=⟨_,rfl⟩;have hrow:=ai w14 (.cells #[.slice b0 0 k0,.slice b1 0 k1,.slice b2 1 k2,.int .i64 8,.int .i64 16,.int .i64 512,.int .i64 40,.int .i64 8,.pointer (some ⟨mb,0,none⟩),.pointer (some ⟨hpb,0,none⟩),.pointer (some ⟨pb,0,none⟩),.int .u64 0,.int .i64 0,.int .i64 0,.int .i64 0,.slice none 0 0,.slice none 0 0,.slice (some ⟨gb,0,none⟩) 0 0,.slice none 0 0,.int .i64 0,.int .i64 0,.int .i64 0] 175);have hbN:Below w11.heap.size w11 N:=by rw[hN];exact HBw14.out.alloc HBw14.out.size _
  have hsN:wb<N.heap.size:=by rw[hN,hwb];simp
  rw[← hN,← hwb] at hrow;have hwo:dw N wb ⟨.slice b0 0 k0,.slice b1 0 k1,.slice b2 1 k2,8,16,512,40,8,mb,hpb,pb,0,0,0,0,.slice none 0 0,.slice none 0 0,.slice (some ⟨gb,0,none⟩) 0 0,.slice none 0 0,0,0,0⟩:=hrow;rw[← hN,← hwb];have hlew:w11.heap.size≤wb:=by rw[hwb];exact HBw14.out.size
  have HWO:=k_ hwo;have HBN:=k_ hbN;have HLW:=k_ (And.intro hlew hsN);clear hN hwb hrow hwo hbN hlew hsN;refine hK.out _ _ HBN.out (fun _=>?_);clear hK K;refine tk_ (i:=13) (v:=?_) rfl (by kernel_rfl) (fun _ _ _ h=>h) ?tq13 HBN.out ?_
  case tq13=>(intro wq hq;obtain⟨q0,q1,q2,q3,q4,q5,q6,q7⟩:=HC2.out wq hq;go_simp;first | done | with_reducible rfl)
  refine wpAnyH_done (by kernel_rfl) ?_ _;refine NoPanic.normal ?_;have hszs:w8.heap.size≤w9.heap.size∧w9.heap.size≤w11.heap.size:=⟨HSZ.out.2.1,Nat.le_trans HSZ.out.2.2 HB11.out.size⟩;have hvN:=(HV10.out.fr (fb_ HB11.out) (fun _ _ h=>h)).fr (fb_ HBN.out) (fun _ _ h=>h);have sp:=DL N wb _ HWO.out (fun k=>w8.heap.size≤k∧k<w9.heap.size) (fun k hk=>⟨by have:=HLW.out;omega,by have:=HLW.out;omega⟩) (pvZ hvN) rfl rfl rfl rfl rfl rfl;have HVN:=k_ hvN;have HSS:=k_ hszs;clear hvN hszs;have SP:=k_ sp;clear sp;go_wp2_with fail;refine SP.out.mono ?_;rintro e w20 ⟨rfl,tb,F,XT,kb,tc,hb,hc,v1,v2,hwo,rfl,rfl,ho1,ho2,hT,hXn,hXD,hF,hne,hf⟩;have hl0:lq<w11.heap.size:=by have:=aj GL.out;have:=HB11.out.size;omega
  have hl8:lq<w8.heap.size:=by have:=HQ.out.2.2;have:=HS3.out;have:=HSZ.out.1;omega
  have hlN:lq≠wb:=by have:=HLW.out;omega
  have hgl:=hf.heap ((fb_ HBN.out).heap ((fb_ HB11.out).heap GL.out (fun h=>h)) (fun h=>h)) hlN;have x0:=(aa hgl 0).1;have x1:=(aa hgl 1).1;have g0:=(aa hgl 0).2;have g1:=(aa hgl 1).2;simp only[List.getElem?_toArray,List.getElem?_cons_zero,List.getElem?_cons_succ] at x0 x1;have hf2:Fr (fun q=>q=lq) w20 ((w20.setCell ⟨lq,0,none⟩ (.int .i64 0)).setCell ⟨lq,1,none⟩ (.int .i64 0)):=((Fr.refl (fun q=>q=lq) w20).setCell (p:=⟨lq,0,none⟩) (fun _=>rfl) (.int .i64 0)).setCell (p:=⟨lq,1,none⟩) (fun _=>rfl) (.int .i64 0);have hrs:=ag (ag hgl 0 (.int .i64 0)) 1 (.int .i64 0);have hb1:=(ho1.lt rfl).1;have hb2:=(ho2.lt rfl).1;have hw8w:w.heap.size≤w8.heap.size:=by have:=HS3.out;have:=HSZ.out.1;omega
  have hw11:w.heap.size≤w11.heap.size:=by have:=HSS.out;omega
  have hl:lq<N.heap.size:=by have:=HBN.out.size;omega
  have hend:kP v w (.returned (.tuple #[.pointer (some ⟨wb,0,none⟩),.int .i64 0,.agg #[.int .i64 0,.int .i64 0]])) ((w20.setCell ⟨lq,0,none⟩ (.int .i64 0)).setCell ⟨lq,1,none⟩ (.int .i64 0)):=by
   have hLW:=HLW.out;have hSS:=HSS.out;have h2N:=HBN.out.size;refine⟨wb,_,(fun k=>w8.heap.size≤k∧k<w9.heap.size),tb,F,XT,kb,tc,hb,hc,rfl,hwo.fr hf2 (fun e=>hlN e.symm),rfl,rfl,rfl,rfl,(ho1.fr hf2 (fun q hq e=>?_)).base (fun q hq=>?_),(ho2.fr hf2 (fun q hq e=>?_)).base (fun q hq=>?_),hT.fr hf2 (fun q hq e=>?_) (fun q hq e=>?_),hXn,hXD,(HVN.out.fr hf (fun q hq e=>?_)).fr hf2 (fun q hq e=>?_),fun k hk=>⟨?_,?_,?_,?_,?_⟩,fun q hq=>⟨?_,?_,?_,?_⟩,hne,?_,?_,?_,?_⟩
   ·have:=(ho1.lt hq).1;have e:q=lq:=e;omega
   ·have:=(ho1.lt hq).1;omega
   ·have:=(ho2.lt hq).1;have e:q=lq:=e;omega
   ·have:=(ho2.lt hq).1;omega
   ·have:=(hF q hq).1;have e:q=lq:=e;omega
   ·rw[hXD] at hq;have e:q=lq:=e;have:=hq.1;omega
   ·have e:q=wb:=e;have:=hq.2;omega
   ·have e:q=lq:=e;have:=hq.1;omega
   ·have:=hk.1;omega
   ·have:=hk.2;have:=hf.size;have:=hf2.size;omega
   ·have:=hk.2;omega
   ·have:=hk.2;have:N.heap.size≤kb:=hb1;omega
   ·have:=hk.2;have:N.heap.size≤hb:=hb2;omega
   ·have:=(hF q hq).1;omega
   ·have:=(hF q hq).1;omega
   ·exact(hF q hq).2.1
   ·exact(hF q hq).2.2
   ·have:N.heap.size≤kb:=hb1;omega
   ·have:N.heap.size≤hb:=hb2;omega
   ·omega
   ·have hbA:=(HB10.out.trans (HB11.out.mono HB10.out.size)).trans (HBN.out.mono (Nat.le_trans HB10.out.size HB11.out.size))
    have hbB:=hbA.trans (hf.below hbA.size (fun q hq=>by have hq:q=wb:=hq;omega));exact hbB.trans (hf2.below hbB.size (fun q hq=>by have hq:q=lq:=hq;have:=HQ.out.2.2;omega))
  have HEND:=k_ hend;have HRS:=k_ hrs;clear hend hrs hf2 hgl hb1 hb2 ho1 ho2 hT hXn hXD hF hne hf hwo hl0 hl8 hw8w hw11 hl;go_wp2_with fail;refine bodyPost_ret ?_ rfl HEND.out;have y0:=(aa HRS.out 0).1;have y1:=(aa HRS.out 1).1
  simp at y0 y1
  simp[results,Tryz.results84,go_sem,y0,y1]
end Go.Proofs.YtlofbhoicbemnaaGreatDoor.Tk
