/- Walk: a step of flow: the kinds behind it. -/
import Derived.Test.YtlofbhoicbemnaaGreatDoorGBd
import Derived.Test.YtlofbhoicbemnaaGreatDoorGBe
set_option linter.unusedVariables false
set_option linter.unusedSimpArgs false
set_option maxRecDepth 100000
set_option maxHeartbeats 6400000
namespace Go.Proofs.YtlofbhoicbemnaaGreatDoor
open Go.ChangeShapes Go.WideShapes Go.ChangeAt Go.RowKit
theorem mY {w:World} {B:Nat} {v:Value} {l:List Int} (h:Own aG w B v l) (k:Nat) (hk:k<l.length) :
  ∃ g c,v=.slice (some ⟨g,0,none⟩) l.length c∧B≤g∧w.cell? ⟨g,k,none⟩=some (.int .i64 l[k])∧w.frozen? ⟨g,k,none⟩=false∧∀ x,Own aG (w.setCell ⟨g,k,none⟩ (.int .i64 x)) B v (l.set k x):=by
 obtain⟨a,c,hv,hsl⟩:=bI h;obtain⟨b,o,ha,hb,hc⟩:=hsl k hk;have hb:v.ownBlock=some b:=hb;obtain⟨h1,h2⟩:=h
 rcases h2 with⟨rfl,hz⟩ | ⟨g,cap,cur,hv2,hbg,hg,hnc,hcm,hcs,htake⟩
 ·cases hb
 ·rw[hv] at hv2
  injection hv2 with e1 e2 e3
  subst e1 e3
  injection ha with ha
  injection ha with ha1 ha2
  subst ha1 ha2;rw[Nat.zero_add] at hc;refine⟨g,c,hv,hbg,hc,(aa hg k).2,fun x=>⟨?_,.inr ⟨g,c,cur.setIfInBounds k (.int .i64 x),by rw[List.length_set];exact hv,hbg,?_,by rw[List.length_set];exact hnc,hcm,by simpa using hcs,?_⟩⟩⟩
  ·rw[aG.len,List.length_set]
  ·simp only[World.setCell,Array.getElem?_modify,if_pos rfl,hg,Option.map]
   rfl
  ·have e1:(l.set k x).flatMap aG.enc=(l.flatMap aG.enc).set k (.int .i64 x):=by
    have hm:∀ m:List Int,m.flatMap aG.enc=m.map (Value.int .i64):=fun m=>by
     induction m with
     | nil=>rfl
     | cons y m ih=>rw[List.flatMap_cons,ih];rfl
    rw[hm,hm,List.map_set]
   rw[e1,← htake,List.length_set]
   simp[List.take_set]
theorem pR {a w:World} (h:Below a.heap.size a w) {g j:Nat} (hg:a.heap.size≤g) (u:Value):Below a.heap.size a (w.setCell ⟨g,j,none⟩ u) :=
 h.trans (((Fr.refl (onB g) w).setCell (p:=⟨g,j,none⟩) (fun _=>rfl) u).below h.size (fun k hk=>by unfold onB at hk;omega))
theorem uG (w:World) (D:Nat→Prop) (p:Prg) (f:Fun) (K:List Int) (c0 c1 c2 d0 d3 d4 kv:Value) (i:Ins) (hv:StepV w D p f K c0 c1 c2 d0 d3 d4 kv) (ho:StepOk p f i K.length) (hn:K.length≤3000) (hob:∀ x ∈ f.objects,0≤x∧x<16) (hz:Zi i) :
  Calls Tryz.prog 161 #[.agg (bT c0 c1 c2 d0 d3 d4 kv f.result f.slots i)] w fun e w'=>∃ v,e=.returned (.tuple #[v,.bool (cu p f.result i K)])∧Own aG w' w.heap.size v (dL p f i K)∧Below w.heap.size w w':=by
 obtain⟨op,a,b,c⟩:=i;have rd:=fun W h=>Fx W D p f K c0 c1 c2 d0 d3 d4 kv ⟨op,a,b,c⟩ h hz
 have se:=fun W h=>Hz W D p f K c0 c1 c2 d0 d3 d4 kv ⟨op,a,b,c⟩ h hz
 have ca:=fun W h (hop:op=21)=>yj W D p f K c0 c1 c2 d0 d3 d4 kv ⟨op,a,b,c⟩ h (ho.call (.inl hop)).1
 have hsets:iI p ⟨op,a,b,c⟩=true→_:=ho.sets;have hrec:op=26→_:=ho.recov;have hout:dL p f ⟨op,a,b,c⟩ K=if op=26 then (if iI p ⟨op,a,b,c⟩ then K.set a.toNat (if cu p f.result ⟨op,a,b,c⟩ K then jv p f ⟨op,a,b,c⟩ K else 0) else K).set b.toNat 16 else (if iI p ⟨op,a,b,c⟩ then K.set a.toNat (if cu p f.result ⟨op,a,b,c⟩ K then jv p f ⟨op,a,b,c⟩ K else 0) else K):=rfl;have hwk:iI p ⟨op,a,b,c⟩=(dF op && (op != 21 || (dE p b).result != 0)):=rfl;have wr:=fun W=>FN W op a b c
 dsimp only at rd se ca hsets hrec ⊢
 have hC0:=(Below.refl w.heap.size w).alloc (Nat.le_refl _) (.cells (bT c0 c1 c2 d0 d3 d4 kv f.result f.slots ⟨op,a,b,c⟩) 248);have hbx:=kL w (bT c0 c1 c2 d0 d3 d4 kv f.result f.slots ⟨op,a,b,c⟩) 248 _ (Below.refl _ _);have hz0:(w.alloc (.cells (bT c0 c1 c2 d0 d3 d4 kv f.result f.slots ⟨op,a,b,c⟩) 248)).heap.size=w.heap.size+1:=by simp
 obtain⟨W,hW⟩:∃ W,W=w.alloc (.cells (bT c0 c1 c2 d0 d3 d4 kv f.result f.slots ⟨op,a,b,c⟩) 248):=⟨_,rfl⟩;rw[← hW] at hC0 hbx hz0;have q:∀ W',Below W.heap.size W W'→∀ j u,(bT c0 c1 c2 d0 d3 d4 kv f.result f.slots ⟨op,a,b,c⟩)[j]?=some u→W'.cell? ⟨w.heap.size,j,none⟩=some u:=fun W' h j u hj=>ae h (hbx.1 j u hj)
 clear hbx;have HW:=k_ hW;clear hW;have hvW:∀ W',Below W.heap.size W W'→StepV W' D p f K c0 c1 c2 d0 d3 d4 kv:=fun W' h=>hv.below (hC0.trans (h.mono hC0.size))
 obtain⟨o0,o1,o2,o3,o4,o5,o6⟩:=hv.one;have HQQ:=k_ q;clear q;have HC0:=k_ hC0;clear hC0;have HVW:=k_ hvW;clear hvW;have HZ0:=k_ hz0;clear hz0;obtain⟨ka,kc,hkv,hks⟩:=(HVW.out W (Below.refl _ _)).ks;have cl:=fun W' (h:Below W.heap.size W W')=>bX W' D ka K kc (hks.fr (fb_ h) (fun _ _ h=>h)) (by omega)
 subst hkv;have RD:=k_ fun W' (h:Below W.heap.size W W')=>rd W' (HVW.out W' h)
 have SE:=k_ fun W' (h:Below W.heap.size W W')=>se W' (HVW.out W' h)
 have CA:=k_ fun W' (h:Below W.heap.size W W') hop=>ca W' (HVW.out W' h) hop
 clear rd se ca hv ho hks;generalize dL p f ⟨op,a,b,c⟩ K=KO at *;generalize cu p f.result ⟨op,a,b,c⟩ K=R at *;generalize jv p f ⟨op,a,b,c⟩ K=S at *;generalize iI p ⟨op,a,b,c⟩=z at *;generalize dE p b=g at *;obtain⟨va,ws,hva⟩:∃ (va:Int) (ws:Bool),va=(if dF op=true then a else 0)∧ws=dF op:=⟨_,_,rfl,rfl⟩;rw[← hva.1,← hva.2] at wr;rw[← hva.2] at hwk;obtain⟨K1,hK1⟩:∃ K1,K1=if z=true then K.set a.toNat (if R=true then S else 0) else K:=⟨_,rfl⟩;rw[← hK1] at hout;have hl1:K1.length=K.length:=by rw[hK1];split <;> simp
 have HHB:=k_ hob;clear hob;generalize f.result=fr at *;generalize f.slots=fs at *;unfold wU at CA;have CL:=k_ cl;clear cl;have WR:=k_ wr;clear wr;have HSETS:=k_ hsets;clear hsets;have HREC:=k_ hrec;clear hrec;have HOUT:=k_ hout;clear hout;have HWK:=k_ hwk;clear hwk;have HVA:=k_ hva;clear hva;have HK1:=k_ hK1;clear hK1;have HL1:=k_ hl1;clear hl1;have HN:=k_ hn;clear hn;unfold bT at *
 go_enter Tryz.func161,Tryz.ntmps161
 go_upto_region 1 with fail
 rw[← HW.out];obtain⟨p0,p1,p2,p3,p4,p5,p6,p7⟩:=c_8 (HQQ.out _ (Below.refl _ _)) rfl rfl rfl rfl rfl rfl rfl rfl;have p8:W.cell? ⟨w.heap.size,8,none⟩=some (.int .i64 _):=HQQ.out _ (Below.refl _ _) 8 _ rfl;have p9:W.cell? ⟨w.heap.size,9,none⟩=some (.int .i64 _):=HQQ.out _ (Below.refl _ _) 9 _ rfl;have p10:W.cell? ⟨w.heap.size,10,none⟩=some (.int .i64 _):=HQQ.out _ (Below.refl _ _) 10 _ rfl;have p11:W.cell? ⟨w.heap.size,11,none⟩=some (.int .i64 _):=HQQ.out _ (Below.refl _ _) 11 _ rfl;have p12:W.cell? ⟨w.heap.size,12,none⟩=some _:=HQQ.out _ (Below.refl _ _) 12 _ rfl;have HR0:=k_ ((Below.refl W.heap.size W).drew)
 go_cut [4,5] (fun v m wx=>m=.bool R∧Own aG wx W.heap.size v K∧Below W.heap.size W wx)
 case first =>
  go_region_law (first
   | (go_simp
      go_at_call 227
      refine(RD.out _ HBC.out).mono ?_;rintro e w1 ⟨rfl,hb1⟩;have HOW:=k_ (HO2.out.below hb1);have HBR:=k_ (HBC.out.trans (hb1.mono HBC.out.size));clear hb1)
   | (go_simp
      go_at_call 108
      refine(CL.out _ HBR.out).mono ?_;rintro e w2 ⟨v,rfl,ho2,hb2⟩;have HBC:=k_ (HBR.out.trans (hb2.mono HBR.out.size));have HO2:=k_ (ho2.base (fun k hk=>Nat.le_trans HBR.out.size (ho2.lt hk).1));clear ho2 hb2)
   | (go_simp
      go_at_call 227
      refine(RD.out _ HR0.out).mono ?_;rintro e w1 ⟨rfl,hb1⟩;have HBR:=k_ (HR0.out.trans (hb1.mono HR0.out.size));have p12:=ae HBR.out p12;clear hb1)
   | (go_simp
      go_at_call 108
      refine(CL.out _ HR0.out).mono ?_;rintro e w2 ⟨v,rfl,ho2,hb2⟩;have HBC:=k_ (HR0.out.trans (hb2.mono HR0.out.size));have HO2:=k_ (ho2.base (fun k hk=>Nat.le_trans HR0.out.size (ho2.lt hk).1));clear ho2 hb2;clear p0 p1 p2 p3 p4 p5 p6 p7 p8 p9 p10 p11 p12;obtain⟨p0,p1,p2,p3,p4,p5,p6,p7⟩:=c_8 (HQQ.out _ HBC.out) rfl rfl rfl rfl rfl rfl rfl rfl;have p8:w2.cell? ⟨w.heap.size,8,none⟩=some (.int .i64 _):=HQQ.out _ HBC.out 8 _ rfl;have p9:w2.cell? ⟨w.heap.size,9,none⟩=some (.int .i64 _):=HQQ.out _ HBC.out 9 _ rfl;have p10:w2.cell? ⟨w.heap.size,10,none⟩=some (.int .i64 _):=HQQ.out _ HBC.out 10 _ rfl;have p11:w2.cell? ⟨w.heap.size,11,none⟩=some (.int .i64 _):=HQQ.out _ HBC.out 11 _ rfl;have p12:w2.cell? ⟨w.heap.size,12,none⟩=some _:=HQQ.out _ HBC.out 12 _ rfl
      skip))
  all_goals
   go_wp2_with fail
   go_meet
   first
   | exact⟨rfl,HO2.out,HBC.out⟩
   | exact⟨rfl,HOW.out,HBR.out⟩
 case rest =>
  obtain⟨rfl,ho,hb⟩:=hcut;have HO:=k_ ho;have HB:=k_ hb;clear ho hb RD CL HR0;clear p0 p1 p2 p3 p4 p5 p6 p7 p8 p9 p10 p11 p12;obtain⟨p0,p1,p2,p3,p4,p5,p6,p7⟩:=c_8 (HQQ.out _ HB.out) rfl rfl rfl rfl rfl rfl rfl rfl;have p8:wc.cell? ⟨w.heap.size,8,none⟩=some (.int .i64 _):=HQQ.out _ HB.out 8 _ rfl;have p9:wc.cell? ⟨w.heap.size,9,none⟩=some (.int .i64 _):=HQQ.out _ HB.out 9 _ rfl;have p10:wc.cell? ⟨w.heap.size,10,none⟩=some (.int .i64 _):=HQQ.out _ HB.out 10 _ rfl;have p11:wc.cell? ⟨w.heap.size,11,none⟩=some (.int .i64 _):=HQQ.out _ HB.out 11 _ rfl;have p12:wc.cell? ⟨w.heap.size,12,none⟩=some _:=HQQ.out _ HB.out 12 _ rfl;go_wp2_with fail;refine(WR.out _).mono ?_;rintro e w3 ⟨rfl,hb3⟩;have HO3:=k_ (HO.out.below hb3);have HB3:=k_ (HB.out.trans (hb3.mono HB.out.size));clear hb3 HO HB;clear p0 p1 p2 p3 p4 p5 p6 p7 p8 p9 p10 p11 p12;obtain⟨p0,p1,p2,p3,p4,p5,p6,p7⟩:=c_8 (HQQ.out _ HB3.out) rfl rfl rfl rfl rfl rfl rfl rfl;have p8:w3.cell? ⟨w.heap.size,8,none⟩=some (.int .i64 _):=HQQ.out _ HB3.out 8 _ rfl;have p9:w3.cell? ⟨w.heap.size,9,none⟩=some (.int .i64 _):=HQQ.out _ HB3.out 9 _ rfl;have p10:w3.cell? ⟨w.heap.size,10,none⟩=some (.int .i64 _):=HQQ.out _ HB3.out 10 _ rfl;have p11:w3.cell? ⟨w.heap.size,11,none⟩=some (.int .i64 _):=HQQ.out _ HB3.out 11 _ rfl;have p12:w3.cell? ⟨w.heap.size,12,none⟩=some _:=HQQ.out _ HB3.out 12 _ rfl
  go_upto_region 3 with fail
  go_cut [31] (fun o wx=>o=.bool z∧Below w3.heap.size w3 wx)
  case first =>
   cases ws
   ·have hz:=HWK.out
    go_wp2_with fail
    go_meet
    exact⟨by rw[hz];rfl,Below.refl _ _⟩
   ·by_cases h21:op=21
    ·subst h21
     have hz:=HWK.out;have HZ:=k_ hz;clear hz;go_wp2_with fail;refine(CA.out _ HB3.out (by first | rfl | trivial)).mono ?_;rintro e w4 ⟨x0,x3,x4,rfl,_,hb4⟩;have fa:=fun w=>Ae x0 g.result g.slots x3 x4 w
     have HB4:=k_ hb4;clear hb4;generalize g.result=gr at *;generalize g.slots=gs at *;go_wp2_with fail
     go_meet
     exact⟨by rw[HZ.out];rfl,HB4.out⟩
    ·have n21:(op != 21)=true:=by simpa using h21
     have hz:z=true:=by rw[HWK.out];simp[h21]
     clear h21;have HZ:=k_ hz;clear hz;go_wp2_with fail
     go_meet
     exact⟨by rw[HZ.out],Below.refl _ _⟩
  case rest =>
   obtain⟨rfl,hb⟩:=hcut;have HO4:=k_ (HO3.out.below hb);have HB4:=k_ (HB3.out.trans (hb.mono HB3.out.size));clear hb;clear p0 p1 p2 p3 p4 p5 p6 p7 p8 p9 p10 p11 p12;obtain⟨p0,p1,p2,p3,p4,p5,p6,p7⟩:=c_8 (HQQ.out _ HB4.out) rfl rfl rfl rfl rfl rfl rfl rfl;have p8:wc.cell? ⟨w.heap.size,8,none⟩=some (.int .i64 _):=HQQ.out _ HB4.out 8 _ rfl;have p9:wc.cell? ⟨w.heap.size,9,none⟩=some (.int .i64 _):=HQQ.out _ HB4.out 9 _ rfl;have p10:wc.cell? ⟨w.heap.size,10,none⟩=some (.int .i64 _):=HQQ.out _ HB4.out 10 _ rfl;have p11:wc.cell? ⟨w.heap.size,11,none⟩=some (.int .i64 _):=HQQ.out _ HB4.out 11 _ rfl;have p12:wc.cell? ⟨w.heap.size,12,none⟩=some _:=HQQ.out _ HB4.out 12 _ rfl
   go_upto_if 31 with fail
   go_cut [] (fun wx=>Own aG wx W.heap.size u4 K1∧Below W.heap.size W wx)
   case first =>
    cases z
    ·have e:=HK1.out
     rw[if_neg (by decide)] at e;have HOE:=k_ (show Own aG wc W.heap.size u4 K1 from e ▸ HO4.out);clear e;go_wp2_with fail
     go_meet
     exact⟨HOE.out,HB4.out⟩
    ·have e:=HK1.out
     rw[if_pos rfl] at e;have hs:=HSETS.out (by first | rfl | trivial);have hws:ws=true:=by
      have h:=HWK.out
      cases ws
      ·cases h
      ·rfl
     have hvaa:va=a:=by
      rw[HVA.out.1,← HVA.out.2,hws]
      rfl
     obtain⟨j,hja⟩:∃ j:Nat,a=j:=⟨a.toNat,by omega⟩;rw[hja] at hvaa;subst hvaa;have hj:j<K.length:=by omega
     rw[show a.toNat=j from by omega] at e;obtain⟨g1,c1',hv4,hg1,q1,q2,hset⟩:=mY HO4.out j hj;have hso:=hset 0;subst hv4;have hsb:=pR (j:=j) HB4.out hg1 (.int .i64 0);have hjl:(j:Int)<(K.length:Int):=by omega
     have hgl:W.heap.size≤g1:=hg1;generalize K[j]=x0 at *;clear hset hws;have HJ:=k_ hj;have HE:=k_ e;have HJA:=k_ hja;clear hja hj e hs;have HSO:=k_ hso;clear hso;have HSB:=k_ hsb;clear hsb;have HGL:=k_ hgl;clear hgl
     cases R
     ·skip
      go_wp2_with fail
      go_meet
      exact⟨by rw[HE.out,if_neg (by decide)];exact HSO.out,HSB.out⟩
     ·skip
      go_upto_region 6 with fail
      obtain⟨w5,hw5⟩:∃ w5,w5=wc.setCell ⟨g1,j,none⟩ (.int .i64 0):=⟨_,rfl⟩;rw[← hw5] at HSO HSB ⊢;clear hw5 q1 q2;clear p0 p1 p2 p3 p4 p5 p6 p7 p8 p9 p10 p11 p12;obtain⟨p0,p1,p2,p3,p4,p5,p6,p7⟩:=c_8 (HQQ.out _ HSB.out) rfl rfl rfl rfl rfl rfl rfl rfl;have p8:w5.cell? ⟨w.heap.size,8,none⟩=some (.int .i64 _):=HQQ.out _ HSB.out 8 _ rfl;have p9:w5.cell? ⟨w.heap.size,9,none⟩=some (.int .i64 _):=HQQ.out _ HSB.out 9 _ rfl;have p10:w5.cell? ⟨w.heap.size,10,none⟩=some (.int .i64 _):=HQQ.out _ HSB.out 10 _ rfl;have p11:w5.cell? ⟨w.heap.size,11,none⟩=some (.int .i64 _):=HQQ.out _ HSB.out 11 _ rfl;have p12:w5.cell? ⟨w.heap.size,12,none⟩=some _:=HQQ.out _ HSB.out 12 _ rfl;go_wp2_with fail;refine(SE.out _ HSB.out).mono ?_;rintro e w6 ⟨rfl,hb6⟩;have hb7:=HSB.out.trans (hb6.mono HSB.out.size);obtain⟨g2,c3,hv6,hg2,q1,q2,hset⟩:=mY (HSO.out.below hb6) j (by rw[List.length_set];exact HJ.out)
      injection hv6 with hv6 hx1 hx2
      clear hx1
      injection hv6 with hv6
      injection hv6 with hv6 hx3 hx4
      clear hx3 hx4;have hso2:=hset S;subst hv6 hx2;have hsb2:=pR (j:=j) hb7 hg2 (.int .i64 S);rw[List.set_set] at hso2;clear hset hb6 hb7;generalize (K.set j 0)[j]'(by rw[List.length_set];exact HJ.out)=x1 at *;clear p0 p1 p2 p3 p4 p5 p6 p7 p8 p9 p10 p11 p12;have HSO2:=k_ hso2;clear hso2;have HSB2:=k_ hsb2;clear hsb2;go_wp2_with fail
      go_meet
      exact⟨by rw[HE.out,if_pos (by first | rfl | trivial)];exact HSO2.out,HSB2.out⟩
   case rest =>
    obtain⟨ho,hb⟩:=hcut;have HO5:=k_ ho;have HB5:=k_ hb;clear ho hb;clear p0 p1 p2 p3 p4 p5 p6 p7 p8 p9 p10 p11 p12;obtain⟨p0,p1,p2,p3,p4,p5,p6,p7⟩:=c_8 (HQQ.out _ HB5.out) rfl rfl rfl rfl rfl rfl rfl rfl;have p8:wc.cell? ⟨w.heap.size,8,none⟩=some (.int .i64 _):=HQQ.out _ HB5.out 8 _ rfl;have p9:wc.cell? ⟨w.heap.size,9,none⟩=some (.int .i64 _):=HQQ.out _ HB5.out 9 _ rfl;have p10:wc.cell? ⟨w.heap.size,10,none⟩=some (.int .i64 _):=HQQ.out _ HB5.out 10 _ rfl;have p11:wc.cell? ⟨w.heap.size,11,none⟩=some (.int .i64 _):=HQQ.out _ HB5.out 11 _ rfl;have p12:wc.cell? ⟨w.heap.size,12,none⟩=some _:=HQQ.out _ HB5.out 12 _ rfl
    by_cases h26:op=26
    ·subst h26
     have e:=HOUT.out;rw[if_pos (by first | rfl | trivial)] at e;have hr:=HREC.out (by first | rfl | trivial);obtain⟨j,hjb⟩:∃ j:Nat,b=j:=⟨b.toNat,by omega⟩;have hj:j<K1.length:=by have:=HL1.out;omega
     rw[show b.toNat=j from by omega] at e;subst hjb;obtain⟨g1,c1',hv4,hg1,q1,q2,hset⟩:=mY HO5.out j hj;have hso:=hset 16;subst hv4;have hsb:=pR (j:=j) HB5.out hg1 (.int .i64 16);have hjl:(j:Int)<(K1.length:Int):=by omega
     generalize K1[j]=x0 at *;rw[← e] at hso;have hso:=hso.base (fun k hk=>Nat.le_trans HC0.out.size (hso.lt hk).1);have hsb:=HC0.out.trans (hsb.mono HC0.out.size);clear hset hr e;have HJ:=k_ hj;clear hj;have HSO:=k_ hso;clear hso;have HSB:=k_ hsb;clear hsb;go_wp2_with fail
     go_ret2
     exact⟨_,rfl,HSO.out,HSB.out⟩
    ·have n26:(op == 26)=false:=by simpa using h26
     have e:=HOUT.out;rw[if_neg h26] at e;have hso:=HO5.out.base (fun k hk=>Nat.le_trans HC0.out.size (HO5.out.lt hk).1);rw[← e] at hso;have hsb:=HC0.out.trans (HB5.out.mono HC0.out.size);clear e h26;have HSO:=k_ hso;clear hso;have HSB:=k_ hsb;clear hsb;go_wp2_with fail
     go_ret2
     exact⟨_,rfl,HSO.out,HSB.out⟩
end Go.Proofs.YtlofbhoicbemnaaGreatDoor
