/- Walk: a machine's first task. -/
import Derived.Test.YtlofbhoicbemnaaGreatDoorGBm
import Derived.Test.YtlofbhoicbemnaaGreatDoorGBn
set_option linter.unusedVariables false
set_option linter.unusedSimpArgs false
set_option maxRecDepth 100000
set_option maxHeartbeats 3200000
namespace Go.Proofs.YtlofbhoicbemnaaGreatDoor.Tk
open Go.ChangeShapes Go.WideShapes Go.ChangeAt Go.RowKit Go.Maps
def ptE:Elem Tryz.prog Nat where
 e:=209
 t:=172
 size:=1
 bytes:=8
 zero:=.pointer none
 enc:=fun n=>[.pointer (some ⟨n,0,none⟩)]
 ht:=Tryz.underlying172
 info:=by kernel_rfl
 hzs:=rfl
 hsz:=by decide
 hby:=by decide
 henc:=fun _=>rfl
 hone:=fun x u h=>by simp at h;subst h;rfl
def Be:Elem Tryz.prog (Int × Bool) where
 e:=213
 t:=173
 size:=2
 bytes:=16
 zero:=.agg #[.int .i64 0,.bool false]
 enc:=fun x=>[.int .i64 x.1,.bool x.2]
 ht:=Tryz.underlying173
 info:=by kernel_rfl
 hzs:=rfl
 hsz:=by decide
 hby:=by decide
 henc:=fun _=>rfl
 hone:=fun x u h=>by simp at h;rcases h with rfl | rfl <;> rfl
def CQ (w:World) (wb:Nat) (X:WoD) (D:Nat→Prop) (w':World):Prop:=∃ tb F XT kb tc hb hc v1 v2,dw w' wb { X with sr:=1,tk:=v1,hd:=v2 }∧v1=.slice (some ⟨kb,0,none⟩) 1 tc∧v2=.slice (some ⟨hb,0,none⟩) 1 hc∧Own ptE w' w.heap.size v1 [tb]∧Own Be w' w.heap.size v2 [(0,false)]∧TaskAt w' F tb qZ (TZ 0 0) XT∧XT.New∧XT.D=D∧(∀ q,F q→w.heap.size≤q∧q≠kb∧q≠hb)∧kb≠hb∧Fr (fun q=>q=wb) w w'
theorem DL (w:World) (wb:Nat) (X:WoD) (h:dw w wb X) (D:Nat→Prop) (hD:∀ k,D k→k<w.heap.size∧k≠wb) (hv:PV w D qZ X.c0 X.c1 X.c2) (htk:X.tk=.slice none 0 0) (hhd:X.hd=.slice none 0 0) (hsr:X.sr=0) (hph:X.ph=0) (hn4:X.n4=16) (hn5:X.n5=512) :
  Calls Tryz.prog 100 #[.pointer (some ⟨wb,0,none⟩),.int .i64 0,.slice none 0 0] w fun e w'=>e=.returned (.tuple #[])∧CQ w wb X D w':=by
 have hlt:=h.lt;obtain⟨⟨a0,n0,m0,e0⟩,⟨a1,m1,e1,hsh⟩,a2,m2,e2,hfn⟩:=id hv;have e1:X.c1=.slice a1 0 m1:=e1;have e2:X.c2=.slice a2 1 m2:=e2;clear hsh hfn;have hq4:w.cell? ⟨wb,4,none⟩=some (.int .i64 16):=by rw[← hn4];exact(h.cell 4).1
 have hq5:w.cell? ⟨wb,5,none⟩=some (.int .i64 512):=by rw[← hn5];exact(h.cell 5).1
 have hSS:∀ wx (Y:WoD),dw wx wb Y→Y.c0=X.c0→Y.c1=X.c1→Y.c2=X.c2→Y.n4=X.n4→Y.n5=X.n5→wx.cell? ⟨wb,0,none⟩=some (.slice a0 n0 m0)∧wx.cell? ⟨wb,1,none⟩=some (.slice a1 0 m1)∧wx.cell? ⟨wb,2,none⟩=some (.slice a2 1 m2)∧wx.cell? ⟨wb,4,none⟩=some (.int .i64 16)∧wx.cell? ⟨wb,5,none⟩=some (.int .i64 512):=fun wx Y hy f0 f1 f2 f4 f5 =>
  ⟨by rw[← e0,← f0];exact(hy.cell 0).1,by rw[← e1,← f1];exact(hy.cell 1).1,by rw[← e2,← f2];exact(hy.cell 2).1,by rw[← hn4,← f4];exact(hy.cell 4).1,by rw[← hn5,← f5];exact(hy.cell 5).1⟩
 have nx:=oC w.drew wb X h (by rw[hsr];decide);rw[hsr] at nx;rw[e0,e1,e2] at hv;have nw:=fun wx (hx:∀ k,D k→k<wx.heap.size) (hpv:PV wx D qZ (.slice a0 n0 m0) (.slice a1 0 m1) (.slice a2 1 m2))=>Gf wx D hx qZ _ _ _ hpv rA 0 (by decide) rfl (by decide) 0 (by omega) 16 512 16 (by omega) (by omega) (by omega) (by rw[wZ];omega) (fun w=>by rw[wZ];exact Ez w 16 _ (by omega) (by omega) (by omega))
 rw[wZ] at nw;have NW:=k_ nw;clear nw;have HSS:=k_ hSS;clear hSS;have HV:=k_ hv;clear hv;have HAT:=k_ h;clear h;have HLT:=k_ hlt;clear hlt;have HEQ:=k_ (And.intro htk (And.intro hhd hph));have HD:=k_ hD;clear hD;clear e0 e1 e2 hn4 hn5 hq4 hq5 htk hhd hph hsr;have NX:=k_ nx;clear nx
 go_enter Tryz.func100,Tryz.ntmps100
 go_upto_region 0 with fail
 have HS0:=k_ (HSS.out w.drew X HAT.out rfl rfl rfl rfl rfl);have HR1:=k_ (Below.refl w.heap.size w).drew;refine wp_region_noPanic ?_;refine wp_region_held_drew (S:=fun wx=>wx.cell? ⟨wb,0,none⟩=some (.slice a0 n0 m0)∧wx.cell? ⟨wb,1,none⟩=some (.slice a1 0 m1)∧wx.cell? ⟨wb,2,none⟩=some (.slice a2 1 m2)∧wx.cell? ⟨wb,4,none⟩=some (.int .i64 16)∧wx.cell? ⟨wb,5,none⟩=some (.int .i64 512)) (by kernel_rfl) HS0.out (fun _=>?_);refine tk_ (i:=0) (v:=?_) rfl (by kernel_rfl) (fun _ _ _ h=>h) ?tq0 HS0.out ?_
 case tq0=>(intro wq hq;obtain⟨q0,q1,q2,q4,q5⟩:=hq;go_simp;first | done | with_reducible rfl)
 refine tk_ (i:=1) (v:=?_) rfl (by kernel_rfl) (fun _ _ _ h=>h) ?tq1 HS0.out ?_
 case tq1=>(intro wq hq;obtain⟨q0,q1,q2,q4,q5⟩:=hq;go_simp;first | done | with_reducible rfl)
 refine tk_ (i:=2) (v:=?_) rfl (by kernel_rfl) (fun _ _ _ h=>h) ?tq2 HS0.out ?_
 case tq2=>(intro wq hq;obtain⟨q0,q1,q2,q4,q5⟩:=hq;go_simp;first | done | with_reducible rfl)
 refine tk_ (i:=3) (v:=?_) rfl (by kernel_rfl) (fun _ _ _ h=>h) ?tq3 HS0.out ?_
 case tq3=>(intro wq hq;obtain⟨q0,q1,q2,q4,q5⟩:=hq;go_simp;first | done | with_reducible rfl)
 refine tk_ (i:=4) (v:=?_) rfl (by kernel_rfl) (fun _ _ _ h=>h) ?tq4 HS0.out ?_
 case tq4=>(intro wq hq;obtain⟨q0,q1,q2,q4,q5⟩:=hq;go_simp;first | done | with_reducible rfl)
 refine tk_ (i:=5) (v:=?_) rfl (by kernel_rfl) (fun _ _ _ h=>h) ?tq5 HS0.out ?_
 case tq5=>(intro wq hq;obtain⟨q0,q1,q2,q4,q5⟩:=hq;go_simp;first | done | with_reducible rfl)
 refine tk_ (i:=6) (v:=?_) rfl (by kernel_rfl) (fun _ _ _ h=>h) ?tq6 HS0.out ?_
 case tq6=>(intro wq hq;obtain⟨q0,q1,q2,q4,q5⟩:=hq;go_simp;first | done | with_reducible rfl)
 refine tk_ (i:=8) (v:=?_) rfl (by kernel_rfl) (fun _ _ _ h=>h) ?tq8 HS0.out ?_
 case tq8=>(intro wq hq;obtain⟨q0,q1,q2,q4,q5⟩:=hq;go_simp;first | done | with_reducible rfl)
 refine tk_ (i:=9) (v:=?_) rfl (by kernel_rfl) (fun _ _ _ h=>h) ?tq9 HS0.out ?_
 case tq9=>(intro wq hq;obtain⟨q0,q1,q2,q4,q5⟩:=hq;go_simp;first | done | with_reducible rfl)
 refine tk_ (i:=10) (v:=?_) rfl (by kernel_rfl) (fun _ _ _ h=>h) ?tq10 HS0.out ?_
 case tq10=>(intro wq hq;obtain⟨q0,q1,q2,q4,q5⟩:=hq;go_simp;first | done | with_reducible rfl)
 refine tk_ (i:=11) (v:=?_) rfl (by kernel_rfl) (fun _ _ _ h=>h) ?tq11 HS0.out ?_
 case tq11=>(intro wq hq;obtain⟨q0,q1,q2,q4,q5⟩:=hq;go_simp;first | done | with_reducible rfl)
 refine tk_ (i:=12) (v:=?_) rfl (by kernel_rfl) (fun _ _ _ h=>h) ?tq12 HS0.out ?_
 case tq12=>(intro wq hq;obtain⟨q0,q1,q2,q4,q5⟩:=hq;go_simp;first | done | with_reducible rfl)
 refine tk_ (i:=13) (v:=?_) rfl (by kernel_rfl) (fun _ _ _ h=>h) ?tq13 HS0.out ?_
 case tq13=>(intro wq hq;obtain⟨q0,q1,q2,q4,q5⟩:=hq;go_simp;first | done | with_reducible rfl)
 refine tk_ (i:=14) (v:=?_) rfl (by kernel_rfl) (fun _ _ _ h=>h) ?tq14 HS0.out ?_
 case tq14=>(intro wq hq;obtain⟨q0,q1,q2,q4,q5⟩:=hq;go_simp;first | done | with_reducible rfl)
 refine tk_ (i:=15) (v:=?_) rfl (by kernel_rfl) (fun _ _ _ h=>h) ?tq15 HS0.out ?_
 case tq15=>(intro wq hq;obtain⟨q0,q1,q2,q4,q5⟩:=hq;go_simp;first | done | with_reducible rfl)
 refine tk_ (i:=16) (v:=?_) rfl (by kernel_rfl) (fun _ _ _ h=>h) ?tq16 HS0.out ?_
 case tq16=>(intro wq hq;obtain⟨q0,q1,q2,q4,q5⟩:=hq;go_simp;first | done | with_reducible rfl)
 refine tk_ (i:=17) (v:=?_) rfl (by kernel_rfl) (fun _ _ _ h=>h) ?tq17 HS0.out ?_
 case tq17=>(intro wq hq;obtain⟨q0,q1,q2,q4,q5⟩:=hq;go_simp;first | done | with_reducible rfl)
 refine rd_ (i:=7) (by kernel_rfl) rfl fun K hK=>?_
 go_simp
 go_at_call 122
 refine NX.out.mono ?_;rintro e r2 ⟨rfl,hx2,hf2⟩;have HF2:=k_ (show Fr (fun q=>q=wb) w r2 from((Fr.refl (fun q=>q=wb) w).drew).trans hf2 (fun _ _ h=>h));have HX2:=k_ hx2;have HS2:=k_ (HSS.out r2 _ hx2 rfl rfl rfl rfl rfl);clear hx2 hf2;refine hK.out _ _ HS2.out (fun _=>?_);clear hK K;refine rd_ (i:=18) (by kernel_rfl) rfl fun K hK=>?_
 have nw2:=NW.out r2 (fun k hk=>Nat.lt_of_lt_of_le (HD.out k hk).1 HF2.out.size) (HV.out.fr HF2.out (fun k hk=>(HD.out k hk).2));have NW2:=k_ nw2;clear nw2;go_simp
 go_at_call 121
 refine NW2.out.mono ?_;rintro e r3 ⟨tb,F,XT,rfl,hT,⟨hXn,hXD⟩,hF,hb3⟩;have hT:TaskAt r3 F tb qZ (TZ 0 0) XT:=hT;have HF3:=k_ (HF2.out.trans (Fr.of_below hb3 (fun q=>q=wb)) (fun _ _ h=>h));have HX3:=k_ (HX2.out.below hb3);have HS3:=k_ (HSS.out r3 _ HX3.out rfl rfl rfl rfl rfl);have HFW:=k_ (fun q hq=>Nat.le_trans HF2.out.size (hF q hq));have HXN:=k_ (And.intro hXn hXD);have HT:=k_ hT;clear hT hXn hXD hF hb3;refine hK.out _ _ HS3.out (fun _=>?_);clear hK K;refine tk_ (i:=19) (v:=?_) rfl (by kernel_rfl) (fun _ _ _ h=>h) ?tq19 HS3.out ?_
 case tq19=>(intro wq hq;obtain⟨q0,q1,q2,q4,q5⟩:=hq;go_simp;first | done | with_reducible rfl)
 refine tk_ (i:=20) (v:=?_) rfl (by kernel_rfl) (fun _ _ _ h=>h) ?tq20 HS3.out ?_
 case tq20=>(intro wq hq;obtain⟨q0,q1,q2,q4,q5⟩:=hq;go_simp;first | done | with_reducible rfl)
 refine tk_ (i:=21) (v:=?_) rfl (by kernel_rfl) (fun _ _ _ h=>h) ?tq21 HS3.out ?_
 case tq21=>(intro wq hq;obtain⟨q0,q1,q2,q4,q5⟩:=hq;go_simp;first | done | with_reducible rfl)
 refine tk_ (i:=22) (v:=?_) rfl (by kernel_rfl) (fun _ _ _ h=>h) ?tq22 HS3.out ?_
 case tq22=>(intro wq hq;obtain⟨q0,q1,q2,q4,q5⟩:=hq;go_simp;first | done | with_reducible rfl)
 refine tk_ (i:=23) (v:=?_) rfl (by kernel_rfl) (fun _ _ _ h=>h) ?tq23 HS3.out ?_
 case tq23=>(intro wq hq;obtain⟨q0,q1,q2,q4,q5⟩:=hq;go_simp;first | done | with_reducible rfl)
 refine wpAnyH_done (by kernel_rfl) ?_ _;refine NoPanic.normal ?_;have q15:r3.cell? ⟨wb,15,none⟩=some (.slice none 0 0):=by have:=(HX3.out.cell 15).1;rw[← HEQ.out.1];exact this
 have f15:=(HX3.out.cell 15).2;have HTL:=k_ HT.out.flt
 go_wp2_with (at_builtin;refine bE ptE rfl (.tmp 34) (.tmp 36) rfl w.heap.size [] [tb] _ rfl (Own.nil _ _ _) r3.heap.size 0 1 rfl (aA.new _ _ _ _) ?c1 ?c2 ?_)
 case c1=>show 0+1≤100000000;decide
 case c2=>have:=HF3.out.size;simp;omega
 intro v1 w4 ho1 hg1 hfr1;obtain⟨ka,kn,kc,rfl⟩:=ho1.slice;obtain⟨v1,hv1⟩:∃ v,v=Value.slice ka kn kc:=⟨_,rfl⟩;rw[← hv1] at ho1 hfr1 ⊢;have hba:Below r3.heap.size r3 (r3.alloc (.cells #[.pointer (some ⟨tb,0,none⟩)] 209)):=(Below.refl _ _).alloc (Nat.le_refl _) _;have hf4:=(Fr.refl (fun _=>False) _).grown hg1 (fun k hk _=>by cases hk);have hb4:Below r3.heap.size r3 w4:=hba.trans (hf4.below hba.size (fun k h=>h.elim));have hx4:=HX3.out.below hb4;have hn1:∀ q,v1.ownBlock=some q→r3.heap.size≤q:=fun q hq=>by
  rcases hfr1 q hq with h2 | h2
  ·cases h2
  ·exact Nat.le_trans hba.size h2
 have q15':w4.cell? ⟨wb,15,none⟩=some (.slice none 0 0):=ae hb4 q15;have f15':=(hx4.cell 15).2;obtain⟨w5,hw5⟩:∃ w5,w5=w4.setCell ⟨wb,15,none⟩ v1:=⟨_,rfl⟩;have hr5:dw w5 wb { X with sr:=1,tk:=v1 }:=by rw[hw5];exact ag hx4 15 v1
 have hf5:Fr (fun q=>q=wb) w4 w5:=by rw[hw5];exact(Fr.refl (fun q=>q=wb) w4).setCell (p:=⟨wb,15,none⟩) (fun _=>rfl) _
 have HF5:=k_ ((HF3.out.trans (Fr.of_below hb4 (fun q=>q=wb)) (fun _ _ h=>h)).trans hf5 (fun _ _ h=>h));have HLE5:=k_ HF5.out.size;have HT5:=k_ ((HT.out.below hb4).fr hf5 (fun q hq e=>by have:=HFW.out q hq;have:=HLT.out;have e:q=wb:=e;omega) (fun q hq e=>by rw[HXN.out.2] at hq;exact(HD.out q hq).2 e));have HO5:=k_ (ho1.fr hf5 (fun q hq e=>by have:=(ho1.lt hq).1;have:=HLT.out;have e:q=wb:=e;omega));have HR5:=k_ hr5;have HN5:=k_ hn1;have HLS:=k_ (Nat.le_trans hb4.size hf5.size);have HW5:=k_ hw5;clear ho1 hg1 hfr1 hba hf4 hb4 hx4 hr5 hf5 hn1 hw5 q15 f15;have HV1:=k_ hv1;clear hv1;have hv1:=HV1.out;subst hv1
 go_upto_region 2 with fail
 rw[← HW5.out];clear q15' f15';obtain⟨v1,hv1⟩:∃ v,v=Value.slice ka kn kc:=⟨_,rfl⟩;rw[← hv1] at HO5 HR5 HN5;clear hv1 HW5 HV1 HT HX3;have hS:w5.drew.cell? ⟨wb,12,none⟩=some (.int .i64 0):=by have:=(HR5.out.cell 12).1;rw[← HEQ.out.2.2];exact this
 have HS:=k_ hS;have HA0:=k_ (show dw w5.drew wb { X with sr:=1,tk:=v1 } from HR5.out);have HB0:=k_ (show Below w5.heap.size w5 w5.drew from(Below.refl _ _).drew);refine wp_region_noPanic ?_;refine wp_region_held_drew (S:=fun wx=>wx.cell? ⟨wb,12,none⟩=some (.int .i64 0)) (by kernel_rfl) HS.out (fun _=>?_);clear hS;generalize w5.drew=r6 at *;refine tk_ (i:=0) (v:=?_) rfl (by kernel_rfl) (fun _ _ _ h=>h) ?tq0 HS.out ?_
 case tq0=>(intro wq hq;have q12:wq.cell? ⟨wb,12,none⟩=some (.int .i64 0):=hq;go_simp;first | done | with_reducible rfl)
 refine tk_ (i:=1) (v:=?_) rfl (by kernel_rfl) (fun _ _ _ h=>h) ?tq1 HS.out ?_
 case tq1=>(intro wq hq;have q12:wq.cell? ⟨wb,12,none⟩=some (.int .i64 0):=hq;go_simp;first | done | with_reducible rfl)
 refine tk_ (i:=2) (v:=?_) rfl (by kernel_rfl) (fun _ _ _ h=>h) ?tq2 HS.out ?_
 case tq2=>(intro wq hq;have q12:wq.cell? ⟨wb,12,none⟩=some (.int .i64 0):=hq;go_simp;first | done | with_reducible rfl)
 refine tk_ (i:=3) (v:=?_) rfl (by kernel_rfl) (fun _ _ _ h=>h) ?tq3 HS.out ?_
 case tq3=>(intro wq hq;have q12:wq.cell? ⟨wb,12,none⟩=some (.int .i64 0):=hq;go_simp;first | done | with_reducible rfl)
 refine tk_ (i:=5) (v:=?_) rfl (by kernel_rfl) (fun _ _ _ h=>h) ?tq5 HS.out ?_
 case tq5=>(intro wq hq;have q12:wq.cell? ⟨wb,12,none⟩=some (.int .i64 0):=hq;go_simp;first | done | with_reducible rfl)
 refine tk_ (i:=6) (v:=?_) rfl (by kernel_rfl) (fun _ _ _ h=>h) ?tq6 HS.out ?_
 case tq6=>(intro wq hq;have q12:wq.cell? ⟨wb,12,none⟩=some (.int .i64 0):=hq;go_simp;first | done | with_reducible rfl)
 refine tk_ (i:=7) (v:=?_) rfl (by kernel_rfl) (fun _ _ _ h=>h) ?tq7 HS.out ?_
 case tq7=>(intro wq hq;have q12:wq.cell? ⟨wb,12,none⟩=some (.int .i64 0):=hq;go_simp;first | done | with_reducible rfl)
 refine tk_ (i:=8) (v:=?_) rfl (by kernel_rfl) (fun _ _ _ h=>h) ?tq8 HS.out ?_
 case tq8=>(intro wq hq;have q12:wq.cell? ⟨wb,12,none⟩=some (.int .i64 0):=hq;go_simp;first | done | with_reducible rfl)
 refine tk_ (i:=9) (v:=?_) rfl (by kernel_rfl) (fun _ _ _ h=>h) ?tq9 HS.out ?_
 case tq9=>(intro wq hq;have q12:wq.cell? ⟨wb,12,none⟩=some (.int .i64 0):=hq;go_simp;first | done | with_reducible rfl)
 refine tk_ (i:=10) (v:=?_) rfl (by kernel_rfl) (fun _ _ _ h=>h) ?tq10 HS.out ?_
 case tq10=>(intro wq hq;have q12:wq.cell? ⟨wb,12,none⟩=some (.int .i64 0):=hq;go_simp;first | done | with_reducible rfl)
 refine tk_ (i:=11) (v:=?_) rfl (by kernel_rfl) (fun _ _ _ h=>h) ?tq11 HS.out ?_
 case tq11=>(intro wq hq;have q12:wq.cell? ⟨wb,12,none⟩=some (.int .i64 0):=hq;go_simp;first | done | with_reducible rfl)
 refine wpAnyH_ready (rs:=[4,12]) (by kernel_rfl) (by simp) ?_;refine(AllReadyH.cons rfl (fun K hK=>?_) (AllReadyH.cons rfl (fun K hK=>?_) AllReadyH.nil))
 ·skip
  have c16:World.cell? r6 ⟨wb,16,none⟩=some (.slice none 0 0):=by have:=(HA0.out.cell 16).1;rw[← HEQ.out.2.1];exact this
  go_simp;refine hK.out _ _ HS.out (fun _=>?_);clear hK K c16;refine rd_ (i:=12) (by kernel_rfl) rfl fun K hK=>?_
  go_simp;obtain⟨q2,hq2⟩:∃ u,u=World.alloc r6 (.cells #[.int .i64 0,.bool false] 213):=⟨_,rfl⟩;have hcl:=aA.new r6 #[.int .i64 0,.bool false] 213 (0,0);have hba:Below (r6).heap.size r6 q2:=by rw[hq2];exact(Below.refl _ _).alloc (Nat.le_refl _) _
  rw[← hq2] at hcl ⊢;have HAq2:=k_ (HA0.out.below hba);have HSq2:=k_ (ae hba HS.out);have HBq2:=k_ (HB0.out.trans (hba.mono HB0.out.size));obtain⟨y,hy⟩:∃ y,y=(r6).heap.size:=⟨_,rfl⟩;rw[← hy] at hcl ⊢;have HCL:=k_ hcl;clear hq2 hcl hba hy;refine hK.out _ _ HSq2.out (fun _=>?_);clear hK K;refine rd_ (i:=13) (by kernel_rfl) rfl fun K hK=>?_
  refine aS Be rfl (.tmp 44) (.tmp 52) rfl w.heap.size [] [((0:Int),false)] _ rfl (Own.nil _ _ _) y 0 1 rfl HCL.out (by show 0+1≤100000000;decide) (Nat.le_trans HLE5.out HBq2.out.size) ?_;intro v2 w7 ho2 hg2 hfr2;obtain⟨ha,hn,hc,rfl⟩:=ho2.slice;obtain⟨v2,hv2⟩:∃ v,v=Value.slice ha hn hc:=⟨_,rfl⟩;rw[← hv2] at ho2 hfr2 ⊢;have hf7:=(Fr.refl (fun _=>False) _).grown hg2 (fun k hk _=>by cases hk);have hb7:Below w5.heap.size w5 w7:=HBq2.out.trans (hf7.below HBq2.out.size (fun k h=>h.elim));have HA7:=k_ (HAq2.out.fr hf7 (fun h=>h));have HS7:=k_ (hf7.cell HSq2.out (fun h=>h));have HO7:=k_ ho2;have HV2:=k_ hv2;have HB7:=k_ hb7;have hnew:∀ q,v2.ownBlock=some q→w5.heap.size≤q:=fun q hq=>by
   have h1:=(ho2.lt hq).1
   rcases hfr2 q hq with h2 | h2
   ·have h2:(Value.slice none 0 0).ownBlock=some q:=h2
    cases h2
   ·exact Nat.le_trans HBq2.out.size h2
  have HNEW:=k_ hnew;clear ho2 hg2 hfr2 hf7 hb7 hv2 hnew;refine hK.out _ _ HS7.out (fun _=>?_);clear hK K;refine tk_ (i:=14) (v:=?_) rfl (by kernel_rfl) (fun _ _ _ h=>h) ?tq14 HS7.out ?_
  case tq14=>(intro wq hq;have q12:wq.cell? ⟨wb,12,none⟩=some (.int .i64 0):=hq;go_simp;first | done | with_reducible rfl)
  refine tk_ (i:=15) (v:=?_) rfl (by kernel_rfl) (fun _ _ _ h=>h) ?tq15 HS7.out ?_
  case tq15=>(intro wq hq;have q12:wq.cell? ⟨wb,12,none⟩=some (.int .i64 0):=hq;go_simp;first | done | with_reducible rfl)
  refine rd_ (i:=16) (by kernel_rfl) rfl fun K hK=>?_
  have c16:=(HA7.out.cell 16).2;have c16v:w7.cell? ⟨wb,16,none⟩=some X.hd:=(HA7.out.cell 16).1;have hr8:dw (w7.setCell ⟨wb,16,none⟩ v2) wb { X with sr:=1,tk:=v1,hd:=v2 }:=ag HA7.out 16 v2;have hf8:Fr (fun q=>q=wb) w7 (w7.setCell ⟨wb,16,none⟩ v2):=(Fr.refl (fun q=>q=wb) w7).setCell (p:=⟨wb,16,none⟩) (fun _=>rfl) _;have HS8:=k_ (show (w7.setCell ⟨wb,16,none⟩ v2).cell? ⟨wb,12,none⟩=some (.int .i64 0) from by have:=(hr8.cell 12).1;rw[← HEQ.out.2.2];exact this);have HF8:=k_ ((HF5.out.trans (Fr.of_below HB7.out (fun q=>q=wb)) (fun _ _ h=>h)).trans hf8 (fun _ _ h=>h));have HT8:=k_ ((HT5.out.below HB7.out).fr hf8 (fun q hq e=>by have:=HFW.out q hq;have:=HLT.out;have e:q=wb:=e;omega) (fun q hq e=>by rw[HXN.out.2] at hq;exact(HD.out q hq).2 e));have HO18:=k_ ((HO5.out.below HB7.out).fr hf8 (fun q hq e=>by have:=(HO5.out.lt hq).1;have:=HLT.out;have e:q=wb:=e;omega));have HO28:=k_ (HO7.out.fr hf8 (fun q hq e=>by have:=(HO7.out.lt hq).1;have:=HLT.out;have e:q=wb:=e;omega));have HR8:=k_ hr8;clear hr8 hf8;have hv2:=HV2.out;subst hv2;go_simp;refine hK.out _ _ HS8.out (fun _=>?_);clear hK K c16 c16v;refine wpAnyH_done (by kernel_rfl) ?_ _;refine NoPanic.normal ?_;go_wp2_with fail
  go_end0
  refine⟨rfl,?_⟩;obtain⟨a1',c1',he1,hel1⟩:=aP HO18.out;obtain⟨kb,rfl,hkb,_⟩:=hel1 0 (by show 0<1;decide);obtain⟨a2',c2',he2,hel2⟩:=aP HO28.out;obtain⟨hb,rfl,hhb,_⟩:=hel2 0 (by show 0<1;decide);refine⟨tb,F,XT,kb,c1',hb,c2',_,_,HR8.out,he1,he2,HO18.out,HO28.out,HT8.out,HXN.out.1,HXN.out.2,fun q hq=>⟨HFW.out q hq,fun e=>?_,fun e=>?_⟩,fun e=>?_,HF8.out⟩
  ·have:=HN5.out _ hkb;have h2:=HTL.out q hq;omega
  ·have:=HNEW.out _ hhb;have h2:=HTL.out q hq;have:=HLS.out;omega
  ·have:=HNEW.out _ hhb;have:=(HO5.out.lt hkb).2;omega
 ·skip
  go_simp;obtain⟨q2,hq2⟩:∃ u,u=World.alloc r6 (.cells #[.int .i64 0,.bool false] 213):=⟨_,rfl⟩;have hcl:=aA.new r6 #[.int .i64 0,.bool false] 213 (0,0);have hba:Below (r6).heap.size r6 q2:=by rw[hq2];exact(Below.refl _ _).alloc (Nat.le_refl _) _
  rw[← hq2] at hcl ⊢;have HAq2:=k_ (HA0.out.below hba);have HSq2:=k_ (ae hba HS.out);have HBq2:=k_ (HB0.out.trans (hba.mono HB0.out.size));obtain⟨y,hy⟩:∃ y,y=(r6).heap.size:=⟨_,rfl⟩;rw[← hy] at hcl ⊢;have HCL:=k_ hcl;clear hq2 hcl hba hy;refine hK.out _ _ HSq2.out (fun _=>?_);clear hK K;refine rd_ (i:=4) (by kernel_rfl) rfl fun K hK=>?_
  have c16:World.cell? q2 ⟨wb,16,none⟩=some (.slice none 0 0):=by have:=(HAq2.out.cell 16).1;rw[← HEQ.out.2.1];exact this
  go_simp;refine hK.out _ _ HSq2.out (fun _=>?_);clear hK K c16;refine rd_ (i:=13) (by kernel_rfl) rfl fun K hK=>?_
  refine aS Be rfl (.tmp 44) (.tmp 52) rfl w.heap.size [] [((0:Int),false)] _ rfl (Own.nil _ _ _) y 0 1 rfl HCL.out (by show 0+1≤100000000;decide) (Nat.le_trans HLE5.out HBq2.out.size) ?_;intro v2 w7 ho2 hg2 hfr2;obtain⟨ha,hn,hc,rfl⟩:=ho2.slice;obtain⟨v2,hv2⟩:∃ v,v=Value.slice ha hn hc:=⟨_,rfl⟩;rw[← hv2] at ho2 hfr2 ⊢;have hf7:=(Fr.refl (fun _=>False) _).grown hg2 (fun k hk _=>by cases hk);have hb7:Below w5.heap.size w5 w7:=HBq2.out.trans (hf7.below HBq2.out.size (fun k h=>h.elim));have HA7:=k_ (HAq2.out.fr hf7 (fun h=>h));have HS7:=k_ (hf7.cell HSq2.out (fun h=>h));have HO7:=k_ ho2;have HV2:=k_ hv2;have HB7:=k_ hb7;have hnew:∀ q,v2.ownBlock=some q→w5.heap.size≤q:=fun q hq=>by
   have h1:=(ho2.lt hq).1
   rcases hfr2 q hq with h2 | h2
   ·have h2:(Value.slice none 0 0).ownBlock=some q:=h2
    cases h2
   ·exact Nat.le_trans HBq2.out.size h2
  have HNEW:=k_ hnew;clear ho2 hg2 hfr2 hf7 hb7 hv2 hnew;refine hK.out _ _ HS7.out (fun _=>?_);clear hK K;refine tk_ (i:=14) (v:=?_) rfl (by kernel_rfl) (fun _ _ _ h=>h) ?tq14 HS7.out ?_
  case tq14=>(intro wq hq;have q12:wq.cell? ⟨wb,12,none⟩=some (.int .i64 0):=hq;go_simp;first | done | with_reducible rfl)
  refine tk_ (i:=15) (v:=?_) rfl (by kernel_rfl) (fun _ _ _ h=>h) ?tq15 HS7.out ?_
  case tq15=>(intro wq hq;have q12:wq.cell? ⟨wb,12,none⟩=some (.int .i64 0):=hq;go_simp;first | done | with_reducible rfl)
  refine rd_ (i:=16) (by kernel_rfl) rfl fun K hK=>?_
  have c16:=(HA7.out.cell 16).2;have c16v:w7.cell? ⟨wb,16,none⟩=some X.hd:=(HA7.out.cell 16).1;have hr8:dw (w7.setCell ⟨wb,16,none⟩ v2) wb { X with sr:=1,tk:=v1,hd:=v2 }:=ag HA7.out 16 v2;have hf8:Fr (fun q=>q=wb) w7 (w7.setCell ⟨wb,16,none⟩ v2):=(Fr.refl (fun q=>q=wb) w7).setCell (p:=⟨wb,16,none⟩) (fun _=>rfl) _;have HS8:=k_ (show (w7.setCell ⟨wb,16,none⟩ v2).cell? ⟨wb,12,none⟩=some (.int .i64 0) from by have:=(hr8.cell 12).1;rw[← HEQ.out.2.2];exact this);have HF8:=k_ ((HF5.out.trans (Fr.of_below HB7.out (fun q=>q=wb)) (fun _ _ h=>h)).trans hf8 (fun _ _ h=>h));have HT8:=k_ ((HT5.out.below HB7.out).fr hf8 (fun q hq e=>by have:=HFW.out q hq;have:=HLT.out;have e:q=wb:=e;omega) (fun q hq e=>by rw[HXN.out.2] at hq;exact(HD.out q hq).2 e));have HO18:=k_ ((HO5.out.below HB7.out).fr hf8 (fun q hq e=>by have:=(HO5.out.lt hq).1;have:=HLT.out;have e:q=wb:=e;omega));have HO28:=k_ (HO7.out.fr hf8 (fun q hq e=>by have:=(HO7.out.lt hq).1;have:=HLT.out;have e:q=wb:=e;omega));have HR8:=k_ hr8;clear hr8 hf8;have hv2:=HV2.out;subst hv2;go_simp;refine hK.out _ _ HS8.out (fun _=>?_);clear hK K c16 c16v;refine wpAnyH_done (by kernel_rfl) ?_ _;refine NoPanic.normal ?_;go_wp2_with fail
  go_end0
  refine⟨rfl,?_⟩;obtain⟨a1',c1',he1,hel1⟩:=aP HO18.out;obtain⟨kb,rfl,hkb,_⟩:=hel1 0 (by show 0<1;decide);obtain⟨a2',c2',he2,hel2⟩:=aP HO28.out;obtain⟨hb,rfl,hhb,_⟩:=hel2 0 (by show 0<1;decide);refine⟨tb,F,XT,kb,c1',hb,c2',_,_,HR8.out,he1,he2,HO18.out,HO28.out,HT8.out,HXN.out.1,HXN.out.2,fun q hq=>⟨HFW.out q hq,fun e=>?_,fun e=>?_⟩,fun e=>?_,HF8.out⟩
  ·have:=HN5.out _ hkb;have h2:=HTL.out q hq;omega
  ·have:=HNEW.out _ hhb;have h2:=HTL.out q hq;have:=HLS.out;omega
  ·have:=HNEW.out _ hhb;have:=(HO5.out.lt hkb).2;omega
end Go.Proofs.YtlofbhoicbemnaaGreatDoor.Tk
