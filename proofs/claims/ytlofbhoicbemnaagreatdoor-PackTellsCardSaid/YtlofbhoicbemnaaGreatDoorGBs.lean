/- Walk: the law of a file's bytes. -/
import Derived.Test.YtlofbhoicbemnaaGreatDoorGBr
set_option linter.unusedVariables false
set_option linter.unusedSimpArgs false
set_option maxRecDepth 100000
set_option maxHeartbeats 6400000
namespace Go.Proofs.YtlofbhoicbemnaaGreatDoor.Tk
open Go.ChangeShapes Go.WideShapes Go.ChangeAt Go.RowKit Go.Maps
theorem Fw (p:Prg) (h:vM p=true):okP p:=(rE p (by rw[kM,h];rfl)).1
theorem uI (p:Prg) (h:bulk p≤3000):(gP p).1.length≤50000:=by
 unfold gP;have h1:=vH p.funcs (qK p);rw[xO] at h1;unfold bulk at h
 omega
theorem DW (p:Prg) (c:Cfg) (l:List Ent) (hl:l.length≤200):iZ p c l=if c.ok∧vM p=true∧l.all bR=true then (dJ (ah (nW p)) c (ah (gK l)),0) else (⟨#[]⟩,1):=by
 unfold iZ
 by_cases hc:c.ok
 ·rw[if_neg (fun h=>h hc),kM]
  cases hp:vM p
  ·rw[if_pos (by rfl),if_neg (fun h=>by cases h.2.1)]
  ·rw[if_neg (by decide)]
   cases hs:l.all bR
   ·rw[Eh l hs,if_pos (by decide),if_neg (fun h=>by cases h.2.2)]
   ·rw[Ig l hs (by omega),if_neg (fun h=>h rfl),if_pos ⟨hc,rfl,rfl⟩,(rE p (by rw[kM,hp];rfl)).2,Dp]
 ·rw[if_pos hc,if_neg (fun h=>hc h.1)]
theorem CW (l:List Ent) (k:Nat) (hk:k<l.length):(l.take (k+1)).all bR=((l.take k).all bR && bR l[k]):=by
 rw[aK l k hk,List.all_append];simp
theorem AV (l:List Ent) (k:Nat) (hk:k<l.length):gK (l.take (k+1))=gK (l.take k) ++ [yu l[k]]:=by
 rw[aK l k hk,uU]
def KC (b:ByteArray) (w:World) (e:Ending) (w':World):Prop :=
 ∃ (x0:Option Addr) (n0 m0:Nat) (x1:Option Addr) (n1 m1:Nat) (x2:Option Addr) (n2 m2:Nat) (f0 f1 f2 f3 f4:Int) (x3:Option Addr) (n3 m3:Nat) (r:Int),e=.returned (.tuple #[.agg #[.slice x0 n0 m0,.slice x1 n1 m1,.slice x2 n2 m2],.agg #[.int .i64 f0,.int .i64 f1,.int .i64 f2,.int .i64 f3,.int .i64 f4],.slice x3 n3 m3,.int .i64 r])∧decide (r=0)=fOk b∧Below w.heap.size w w'
theorem rO (b:ByteArray) (w:World) (hb:b.size≤100000):Calls Tryz.prog 19 #[.string b] w (KC b w):=by
 refine(nR b w hb).mono ?_;rintro e w' ⟨hB,⟨h,rfl⟩ | ⟨h,c0,c1,c2,v,rfl,hv,ho⟩⟩
 ·exact⟨none,0,0,none,0,0,none,0,0,0,0,0,0,0,none,0,0,unE b,rfl,sZ b,hB⟩
 ·obtain⟨⟨a0,m0,rfl,_⟩,⟨a1,m1,rfl,_⟩,a2,m2,rfl,_⟩:=hv
  obtain⟨a3,n3,m3,rfl⟩:=ho.slice;exact⟨a0,_,m0,a1,_,m1,a2,_,m2,_,_,_,_,_,a3,n3,m3,0,rfl,by rw[← sZ,h],hB⟩
theorem uD (img:ByteArray) (C:Cfg) (t:ByteArray):(dJ img C t).size=img.size+t.size+24:=by
 unfold dJ;simp only[ByteArray.size_append,bW];omega
theorem wX (p:Prg) (img:ByteArray) (C:Cfg) (l:List Ent) (w:World) (h1:bK img=true) (h2:gT img=p) (h3:img.size≤50000) (hc:C.ok) (hl:l.length≤200) (hs:l.all bR=true) :
  Calls Tryz.prog 19 #[.string (dJ img C (ah (gK l)))] w fun e w'=>∃ c0 c1 c2 v,e=.returned (.tuple #[.agg #[c0,c1,c2],C.val,v,.int .i64 0])∧aD w' (fun k=>w.heap.size≤k∧k<w'.heap.size) p c0 c1 c2∧Own qp w' w.heap.size v l∧Below w.heap.size w w':=by
 obtain⟨e1,e2,e3,e4⟩:=zA img C (ah (gK l)) (by omega) hc;have hen:=Ei l hs (by omega);have hsz:(dJ img C (ah (gK l))).size≤100000:=by
  rw[uD,aM,jF];omega
 generalize dJ img C (ah (gK l))=X at *;obtain⟨u1,u2,u3⟩:=FJ X e1;have hz:unE X=0:=by
  have h:=sZ X;unfold fOk at h;rw[decide_eq_true e1,e2,h1,e3,decide_eq_true hc,e4,hen] at h;exact of_decide_eq_true h
 refine(nR X w hsz).mono ?_;rintro e w' ⟨hB,⟨h,rfl⟩ | ⟨h,c0,c1,c2,v,rfl,hv,ho⟩⟩
 ·exact absurd hz h
 ·rw[u1,e2] at hv
  rw[u2,e3];rw[u3,e4,← xD _ (by rw[hen]),hen] at ho;rw[h2] at hv;exact⟨c0,c1,c2,v,rfl,hv,ho,hB⟩
theorem AO (w:World) (al:∀ wr,Below w.heap.size w wr→Calls Tryz.prog 5 #[] wr fun e w'=>e=.returned (.bool true)∧Below wr.heap.size wr w') (p:Prg) (c0 c1 c2:Value) (hp:aD w (fun k=>k<w.heap.size) p c0 c1 c2) (c:Cfg) (a:Option Addr) (l:List Ent) (cp:Nat) (hsl:dz w (fun k=>k<w.heap.size) a l) (b:ByteArray) :
  Calls Tryz.prog 4 #[.agg #[c0,c1,c2],c.val,.slice a l.length cp,.string b] w fun e w'=>e=.returned (.bool true)∧Below w.heap.size w w':=by
 have hP:∀ wr,Below w.heap.size w wr→aD wr (fun k=>k<w.heap.size) p c0 c1 c2:=fun wr hb=>hp.fr (fb_ hb) (fun _ _ h=>h)
 have sp:=fun wr hb=>Dw wr _ p _ _ _ (hP wr hb)
 have hP2:=hP;obtain⟨⟨a0,m0,e0,_⟩,⟨a1,m1,e1,_⟩,a2,m2,e2,_⟩:=hp;obtain⟨n0,hn0⟩:∃ n,n=p.globals.length:=⟨_,rfl⟩;obtain⟨n1,hn1⟩:∃ n,n=p.shapes.length:=⟨_,rfl⟩;obtain⟨n2,hn2⟩:∃ n,n=p.funcs.length:=⟨_,rfl⟩;rw[← hn0] at e0;rw[← hn1] at e1;rw[← hn2] at e2;subst e0 e1 e2;obtain⟨g0,g1,g2,g3,g4⟩:=c;have hbx:=nz w #[.slice a0 n0 m0,.slice a1 n1 m1,.slice a2 n2 m2] #[.int .i64 g0,.int .i64 g1,.int .i64 g2,.int .i64 g3,.int .i64 g4] 48 50;have hbw0:Below w.heap.size w ((w.alloc (.cells #[.slice a0 n0 m0,.slice a1 n1 m1,.slice a2 n2 m2] 48)).alloc (.cells #[.int .i64 g0,.int .i64 g1,.int .i64 g2,.int .i64 g3,.int .i64 g4] 50)):=((Below.refl _ _).alloc (Nat.le_refl _) _).alloc (by simp) _;obtain⟨W0,hW0⟩:∃ W0,W0=(w.alloc (.cells #[.slice a0 n0 m0,.slice a1 n1 m1,.slice a2 n2 m2] 48)).alloc (.cells #[.int .i64 g0,.int .i64 g1,.int .i64 g2,.int .i64 g3,.int .i64 g4] 50):=⟨_,rfl⟩;rw[← hW0] at hbx hbw0;have hz0:w.heap.size+2≤W0.heap.size:=by rw[hW0];simp
 have hb0:Below (w.heap.size+2) W0 W0:=Below.refl _ _;have k0:=trivial;have k1:=trivial;have k2:=trivial;have l0:=trivial;have l1:=trivial;have l2:=trivial;have l3:=trivial;have l4:=trivial;clear hP hn0 hn1 hn2;have AL:=k_ al;clear al;have HBX:=k_ hbx;clear hbx;have HBW0:=k_ hbw0;clear hbw0;have HB0:=k_ hb0;clear hb0;have HZ0:=k_ hz0;clear hz0;have HW0:=k_ hW0;clear hW0;have SP:=k_ sp;clear sp;have HP2:=k_ hP2;clear hP2;have HSL:=k_ hsl;clear hsl;unfold Cfg.val
 dsimp only
 by_cases hsp:bulk p≤3000
 case neg =>
  have SP':=SP.out;rw[decide_eq_false hsp] at SP';have SP:=k_ SP';clear SP' hsp
  go_enter Tryz.func4,Tryz.ntmps4
  go_wp2_with fail;rw[← HW0.out];go_wp2_with fail;refine(SP.out _ HBW0.out).mono ?_;rintro e w1 ⟨rfl,hb⟩;clear k0 k1 k2 l0 l1 l2 l3 l4;have HB1:=k_ (HB0.out.trans (hb.mono HZ0.out));clear hb;obtain⟨hx1,hx2,hbw1,hz1⟩:=HBX.out _ HB1.out;have k0:=hx1 0 _ rfl;have k1:=hx1 1 _ rfl;have k2:=hx1 2 _ rfl;have l0:=hx2 0 _ rfl;have l1:=hx2 1 _ rfl;have l2:=hx2 2 _ rfl;have l3:=hx2 3 _ rfl;have l4:=hx2 4 _ rfl;clear hx1 hx2;have HBW1:=k_ hbw1;clear hbw1;have HZ1:=k_ hz1;go_wp2_with fail;refine(AL.out _ HBW1.out).mono ?_;rintro e w2 ⟨rfl,hb⟩;clear k0 k1 k2 l0 l1 l2 l3 l4;have HB2:=k_ (HB1.out.trans (hb.mono HZ1.out));clear hb;obtain⟨hx1,hx2,hbw2,hz2⟩:=HBX.out _ HB2.out;have k0:=hx1 0 _ rfl;have k1:=hx1 1 _ rfl;have k2:=hx1 2 _ rfl;have l0:=hx2 0 _ rfl;have l1:=hx2 1 _ rfl;have l2:=hx2 2 _ rfl;have l3:=hx2 3 _ rfl;have l4:=hx2 4 _ rfl;clear hx1 hx2;have HBW2:=k_ hbw2;clear hbw2;have HZ2:=k_ hz2;go_wp2_with fail
  go_ret
  exact⟨rfl,HBW2.out⟩
 have SP':=SP.out;rw[decide_eq_true hsp] at SP';have SP:=k_ SP';clear SP'
 by_cases h200:200<l.length
 ·clear hsp
  go_enter Tryz.func4,Tryz.ntmps4
  go_wp2_with fail;rw[← HW0.out];go_wp2_with fail;refine(SP.out _ HBW0.out).mono ?_;rintro e w1 ⟨rfl,hb⟩;clear k0 k1 k2 l0 l1 l2 l3 l4;have HB1:=k_ (HB0.out.trans (hb.mono HZ0.out));clear hb;obtain⟨hx1,hx2,hbw1,hz1⟩:=HBX.out _ HB1.out;have k0:=hx1 0 _ rfl;have k1:=hx1 1 _ rfl;have k2:=hx1 2 _ rfl;have l0:=hx2 0 _ rfl;have l1:=hx2 1 _ rfl;have l2:=hx2 2 _ rfl;have l3:=hx2 3 _ rfl;have l4:=hx2 4 _ rfl;clear hx1 hx2;have HBW1:=k_ hbw1;clear hbw1;have HZ1:=k_ hz1;go_wp2_with fail;refine(AL.out _ HBW1.out).mono ?_;rintro e w2 ⟨rfl,hb⟩;clear k0 k1 k2 l0 l1 l2 l3 l4;have HB2:=k_ (HB1.out.trans (hb.mono HZ1.out));clear hb;obtain⟨hx1,hx2,hbw2,hz2⟩:=HBX.out _ HB2.out;have k0:=hx1 0 _ rfl;have k1:=hx1 1 _ rfl;have k2:=hx1 2 _ rfl;have l0:=hx2 0 _ rfl;have l1:=hx2 1 _ rfl;have l2:=hx2 2 _ rfl;have l3:=hx2 3 _ rfl;have l4:=hx2 4 _ rfl;clear hx1 hx2;have HBW2:=k_ hbw2;clear hbw2;have HZ2:=k_ hz2;go_wp2_with fail
  go_ret
  exact⟨rfl,HBW2.out⟩
 by_cases h1500:1500<b.size
 ·have h1500':(1500:Int)<b.size:=by omega
  clear hsp
  go_enter Tryz.func4,Tryz.ntmps4
  go_wp2_with fail;rw[← HW0.out];go_wp2_with fail;refine(SP.out _ HBW0.out).mono ?_;rintro e w1 ⟨rfl,hb⟩;clear k0 k1 k2 l0 l1 l2 l3 l4;have HB1:=k_ (HB0.out.trans (hb.mono HZ0.out));clear hb;obtain⟨hx1,hx2,hbw1,hz1⟩:=HBX.out _ HB1.out;have k0:=hx1 0 _ rfl;have k1:=hx1 1 _ rfl;have k2:=hx1 2 _ rfl;have l0:=hx2 0 _ rfl;have l1:=hx2 1 _ rfl;have l2:=hx2 2 _ rfl;have l3:=hx2 3 _ rfl;have l4:=hx2 4 _ rfl;clear hx1 hx2;have HBW1:=k_ hbw1;clear hbw1;have HZ1:=k_ hz1;go_wp2_with fail;refine(AL.out _ HBW1.out).mono ?_;rintro e w2 ⟨rfl,hb⟩;clear k0 k1 k2 l0 l1 l2 l3 l4;have HB2:=k_ (HB1.out.trans (hb.mono HZ1.out));clear hb;obtain⟨hx1,hx2,hbw2,hz2⟩:=HBX.out _ HB2.out;have k0:=hx1 0 _ rfl;have k1:=hx1 1 _ rfl;have k2:=hx1 2 _ rfl;have l0:=hx2 0 _ rfl;have l1:=hx2 1 _ rfl;have l2:=hx2 2 _ rfl;have l3:=hx2 3 _ rfl;have l4:=hx2 4 _ rfl;clear hx1 hx2;have HBW2:=k_ hbw2;clear hbw2;have HZ2:=k_ hz2;go_wp2_with fail
  go_ret
  exact⟨rfl,HBW2.out⟩
 have h1500':¬ (1500:Int)<b.size:=by omega
 have h200':¬ (200:Int)<l.length:=by omega
 have HN:=k_ (show l.length≤200 from by omega);have HBZ:=k_ (show b.size≤1500 from by omega);have HSP:=k_ hsp;clear h200 h1500 hsp;have pk:=fun wr (hb:Below w.heap.size w wr)=>tF wr _ _ p ⟨g0,g1,g2,g3,g4⟩ l _ _ _ a cp (HP2.out wr hb) (fun k hk=>Nat.lt_of_lt_of_le hk hb.size) HSP.out (by have:=uI p HSP.out;omega) (by have:=HN.out;omega) (HSL.out.below' hb)
 have rl:=fun wr (hb:Below w.heap.size w wr)=>Cs wr _ p _ _ _ (HP2.out wr hb) HSP.out
 obtain⟨C,hC⟩:∃ C:Cfg,C=⟨g0,g1,g2,g3,g4⟩:=⟨_,rfl⟩;obtain⟨qc,hqc⟩:∃ q,q=decide C.ok:=⟨_,rfl⟩;obtain⟨rp,hrp⟩:∃ q,q=vM p:=⟨_,rfl⟩;obtain⟨rs,hrs⟩:∃ q,q=l.all bR:=⟨_,rfl⟩;obtain⟨T,hT⟩:∃ T,T=ah (gK l):=⟨_,rfl⟩;obtain⟨img,himg⟩:∃ x,x=if rp=true then ah (nW p) else ⟨#[]⟩:=⟨_,rfl⟩;unfold pG at rl;rw[← hrp,← himg] at rl;have hrl:rp=true→img=ah (nW p):=fun h=>by rw[himg,if_pos h]
 have hpk:=DW p C l HN.out;rw[← hrp,← hrs,← hT] at hpk;rw[← hC] at pk;obtain⟨S,hS⟩:∃ S,S=(iZ p C l).1:=⟨_,rfl⟩;obtain⟨E,hE⟩:∃ E,E=(iZ p C l).2:=⟨_,rfl⟩;rw[← hS,← hE] at pk;have hno:¬ (qc=true∧rp=true∧rs=true)→S=⟨#[]⟩∧E=1:=fun h=>by
  rw[if_neg (fun h2=>h ⟨by rw[hqc];exact decide_eq_true h2.1,h2.2⟩)] at hpk;rw[hS,hE,hpk];exact⟨rfl,rfl⟩
 have hyes:qc=true→rp=true→rs=true→S=dJ img C T∧E=0:=fun h1 h2 h3=>by
  rw[if_pos ⟨by rw[hqc] at h1;exact of_decide_eq_true h1,h2,h3⟩] at hpk;rw[hS,hE,hpk,hrl h2];exact⟨rfl,rfl⟩
 have hok:rp=true→bK img=true∧gT img=p∧img.size≤50000:=fun h=>by
  rw[hrl h];have h2:=Fw p (by rw[← hrp];exact h);refine⟨(Bt p h2).1,(Bt p h2).2,?_⟩;rw[aM,← (rE p (by rw[kM,← hrp,h];rfl)).2];exact uI p HSP.out
 have HC:=k_ hC;have HQC:=k_ hqc;have HRS:=k_ hrs;have HT:=k_ hT;have RL:=k_ rl;have PK:=k_ pk;have HNO:=k_ hno;have HYES:=k_ hyes;have HOK:=k_ hok;clear hC hqc hrp hrs hT himg rl hrl hpk pk hS hE hno hyes hok
 go_enter Tryz.func4,Tryz.ntmps4
 go_wp2_with fail;rw[← HW0.out];go_wp2_with fail;refine(SP.out _ HBW0.out).mono ?_;rintro e w1 ⟨rfl,hb⟩;clear k0 k1 k2 l0 l1 l2 l3 l4;have HB1:=k_ (HB0.out.trans (hb.mono HZ0.out));clear hb;obtain⟨hx1,hx2,hbw1,hz1⟩:=HBX.out _ HB1.out;have k0:=hx1 0 _ rfl;have k1:=hx1 1 _ rfl;have k2:=hx1 2 _ rfl;have l0:=hx2 0 _ rfl;have l1:=hx2 1 _ rfl;have l2:=hx2 2 _ rfl;have l3:=hx2 3 _ rfl;have l4:=hx2 4 _ rfl;clear hx1 hx2;have HBW1:=k_ hbw1;clear hbw1;have HZ1:=k_ hz1;go_wp2_with fail;refine(AL.out _ HBW1.out).mono ?_;rintro e w2 ⟨rfl,hb⟩;clear k0 k1 k2 l0 l1 l2 l3 l4;have HB2:=k_ (HB1.out.trans (hb.mono HZ1.out));clear hb;obtain⟨hx1,hx2,hbw2,hz2⟩:=HBX.out _ HB2.out;have k0:=hx1 0 _ rfl;have k1:=hx1 1 _ rfl;have k2:=hx1 2 _ rfl;have l0:=hx2 0 _ rfl;have l1:=hx2 1 _ rfl;have l2:=hx2 2 _ rfl;have l3:=hx2 3 _ rfl;have l4:=hx2 4 _ rfl;clear hx1 hx2;have HBW2:=k_ hbw2;clear hbw2;have HZ2:=k_ hz2;go_wp2_with fail;have pk:=PK.out _ HBW2.out;rw[HC.out] at pk;refine pk.mono ?_;clear pk;rintro e w3 ⟨rfl,hb⟩;clear k0 k1 k2 l0 l1 l2 l3 l4;have HB3:=k_ (HB2.out.trans (hb.mono HZ2.out));clear hb;obtain⟨hx1,hx2,hbw3,hz3⟩:=HBX.out _ HB3.out;have k0:=hx1 0 _ rfl;have k1:=hx1 1 _ rfl;have k2:=hx1 2 _ rfl;have l0:=hx2 0 _ rfl;have l1:=hx2 1 _ rfl;have l2:=hx2 2 _ rfl;have l3:=hx2 3 _ rfl;have l4:=hx2 4 _ rfl;clear hx1 hx2;have HBW3:=k_ hbw3;clear hbw3;have HZ3:=k_ hz3;go_wp2_with fail;refine(RL.out _ HBW3.out).mono ?_;rintro e w4 ⟨rfl,hb⟩;clear k0 k1 k2 l0 l1 l2 l3 l4;have HB4:=k_ (HB3.out.trans (hb.mono HZ3.out));clear hb;obtain⟨hx1,hx2,hbw4,hz4⟩:=HBX.out _ HB4.out;have k0:=hx1 0 _ rfl;have k1:=hx1 1 _ rfl;have k2:=hx1 2 _ rfl;have l0:=hx2 0 _ rfl;have l1:=hx2 1 _ rfl;have l2:=hx2 2 _ rfl;have l3:=hx2 3 _ rfl;have l4:=hx2 4 _ rfl;clear hx1 hx2;have HBW4:=k_ hbw4;clear hbw4;have HZ4:=k_ hz4
 go_upto_block 0 with fail
 go_cut [13] (fun o wx=>o=.bool rs∧wx=w4)
 case first =>
  go_wp2_with fail
  go_loopw [13,14] (fun o i wr=>∃ (k:Nat) (q:Bool),k≤l.length∧i=.int .i64 k∧o=.bool q∧q=(l.take k).all bR∧wr=w4) (fun _ i _=>l.length - (intOf i).toNat)
  case atStart=>exact⟨0,true,Nat.zero_le _,rfl,rfl,rfl,rfl⟩
  case round =>
   obtain⟨k,q,hk,rfl,rfl,hq,hwr⟩:=hrel;subst hwr
   by_cases hlt:k<l.length
   ·have HQ:=k_ hq
    have HTK:=k_ (CW l k hlt);clear hq
    cases q
    ·go_wp2_with fail
     go_roundw
     case rel=>exact⟨k+1,false,by omega,by go_num,rfl,by rw[HTK.out,← HQ.out];rfl,by first | rfl | trivial⟩
     case measure=>simp[intOf];omega
    ·obtain⟨bb,oo,rfl,_,hx0,hx1⟩:=(HSL.out.below' HBW4.out) k hlt
     obtain⟨x,hxe⟩:∃ x,x=l[k]:=⟨_,rfl⟩;rw[← hxe] at hx0 hx1;have HXE:=k_ hxe;obtain⟨who,n⟩:=x;have hx0:wr.cell? ⟨bb,oo+k * 2,none⟩=some (.int .i64 who):=hx0;have hx1:wr.cell? ⟨bb,oo+k * 2+1,none⟩=some (.int .i64 n):=hx1;clear hxe
     by_cases c1:0≤who
     case neg =>
      have HNO:=k_ (show bR ⟨who,n⟩=false from by unfold bR;simp;omega);go_wp2_with fail
      go_roundw
      case rel=>exact⟨k+1,false,by omega,by go_num,rfl,by rw[HTK.out,← HXE.out,HNO.out,Bool.and_false],by first | rfl | trivial⟩
      case measure=>simp[intOf];omega
     by_cases c2:who≤5
     case neg =>
      have HNO:=k_ (show bR ⟨who,n⟩=false from by unfold bR;simp;omega);go_wp2_with fail
      go_roundw
      case rel=>exact⟨k+1,false,by omega,by go_num,rfl,by rw[HTK.out,← HXE.out,HNO.out,Bool.and_false],by first | rfl | trivial⟩
      case measure=>simp[intOf];omega
     by_cases c3:0≤n
     case neg =>
      have HNO:=k_ (show bR ⟨who,n⟩=false from by unfold bR;simp;omega);go_wp2_with fail
      go_roundw
      case rel=>exact⟨k+1,false,by omega,by go_num,rfl,by rw[HTK.out,← HXE.out,HNO.out,Bool.and_false],by first | rfl | trivial⟩
      case measure=>simp[intOf];omega
     by_cases c4:n≤31
     case neg =>
      have HNO:=k_ (show bR ⟨who,n⟩=false from by unfold bR;simp;omega);go_wp2_with fail
      go_roundw
      case rel=>exact⟨k+1,false,by omega,by go_num,rfl,by rw[HTK.out,← HXE.out,HNO.out,Bool.and_false],by first | rfl | trivial⟩
      case measure=>simp[intOf];omega
     have HY:=k_ (show bR ⟨who,n⟩=true from by unfold bR;simp;omega);go_wp2_with fail
     go_roundw
     case rel=>exact⟨k+1,true,by omega,by go_num,rfl,by rw[HTK.out,← HQ.out,← HXE.out,HY.out];rfl,by first | rfl | trivial⟩
     case measure=>simp[intOf];omega
   ·have hk':k=l.length:=by omega
    subst hk';rw[List.take_length] at hq;have HQ:=k_ hq;clear hq;go_wp2_with fail
    go_meet
    case rel=>exact⟨by rw[HRS.out,HQ.out],by first | rfl | trivial⟩
 case rest =>
  obtain⟨rfl,hwc⟩:=hcut;subst hwc;go_wp2_with fail;refine(jZ _ ⟨g0,g1,g2,g3,g4⟩).mono ?_;rw[← HC.out,← HQC.out];rintro e w5 ⟨rfl,hb⟩;clear k0 k1 k2 l0 l1 l2 l3 l4;have HB5:=k_ (HB4.out.trans (hb.mono HZ4.out));clear hb;obtain⟨hx1,hx2,hbw5,hz5⟩:=HBX.out _ HB5.out;have k0:=hx1 0 _ rfl;have k1:=hx1 1 _ rfl;have k2:=hx1 2 _ rfl;have l0:=hx2 0 _ rfl;have l1:=hx2 1 _ rfl;have l2:=hx2 2 _ rfl;have l3:=hx2 3 _ rfl;have l4:=hx2 4 _ rfl;clear hx1 hx2;have HBW5:=k_ hbw5;clear hbw5;have HZ5:=k_ hz5;have he:(⟨#[]⟩:ByteArray).toList.isEmpty=true:=by rw[ByteArray.toList_eq];rfl
  cases qc
  case false =>
   obtain⟨rfl,rfl⟩:=HNO.out (fun h=>by cases h.1);go_wp2_with fail
   go_ret
   exact⟨rfl,HBW5.out⟩
  cases rp
  case false =>
   obtain⟨rfl,rfl⟩:=HNO.out (fun h=>by cases h.2.1);go_wp2_with fail
   go_ret
   exact⟨rfl,HBW5.out⟩
  cases rs
  case false =>
   obtain⟨rfl,rfl⟩:=HNO.out (fun h=>by cases h.2.2);go_wp2_with fail
   go_ret
   exact⟨rfl,HBW5.out⟩
  clear he;obtain⟨hS,rfl⟩:=HYES.out rfl rfl rfl;obtain⟨hi1,hi2,hi3⟩:=HOK.out rfl;have hco:C.ok:=of_decide_eq_true HQC.out.symm;have HS:=k_ hS;have HI:=k_ (And.intro hi1 (And.intro hi2 hi3));have HCO:=k_ hco;clear hS hi1 hi2 hi3 hco HYES HNO HOK
  go_upto_block 2 with fail
  go_cut [15] (fun s wx=>s=.string T∧Below w5.heap.size w5 wx)
  case first =>
   go_wp2_with fail
   go_loopw [15,16] (fun s i wr=>∃ k:Nat,k≤l.length∧i=.int .i64 k∧s=.string (ah (gK (l.take k)))∧Below w5.heap.size w5 wr) (fun _ i _=>l.length - (intOf i).toNat)
   case atStart=>exact⟨0,Nat.zero_le _,rfl,rfl,Below.refl _ _⟩
   case round =>
    obtain⟨k,hk,rfl,rfl,hB⟩:=hrel;have HB:=k_ hB;clear hB
    by_cases hlt:k<l.length
    ·obtain⟨bb,oo,rfl,_,hx0,hx1⟩:=(HSL.out.below' (HBW5.out.trans (HB.out.mono HBW5.out.size))) k hlt
     have HTS:=k_ (AV l k hlt);obtain⟨x,hxe⟩:∃ x,x=l[k]:=⟨_,rfl⟩;rw[← hxe] at hx0 hx1;have hye:bR x=true:=by rw[hxe];exact List.all_eq_true.1 HRS.out.symm _ (List.getElem_mem hlt)
     have HXE:=k_ hxe;obtain⟨who,n⟩:=x;have hx0:wr.cell? ⟨bb,oo+k * 2,none⟩=some (.int .i64 who):=hx0;have hx1:wr.cell? ⟨bb,oo+k * 2+1,none⟩=some (.int .i64 n):=hx1;unfold bR at hye;simp only[Bool.and_eq_true,decide_eq_true_eq] at hye;obtain⟨⟨⟨d0,d1⟩,d2⟩,d3⟩:=hye;have d0:0≤who:=d0;have d1:who≤5:=d1;have d2:0≤n:=d2;have d3:n≤31:=d3;obtain⟨L,hL⟩:∃ L,L=gK (l.take k):=⟨_,rfl⟩;rw[← hL];have HL:=k_ hL;have hLl:L.length≤200:=by rw[hL,jF,List.length_take];have:=HN.out;omega
     obtain⟨x,hx⟩:∃ x,x=yu ⟨who,n⟩:=⟨_,rfl⟩;have hu:IntKind.u8.wrap (IntKind.i64.wrap (IntKind.i64.wrap (32 * who)+n))=x:=by rw[hx,show yu ⟨who,n⟩=32 * who+n from rfl];simp[IntKind.wrap,IntKind.signed,IntKind.bits];omega
     have HU:=k_ hu;have HX:=k_ hx;have HCAT:=k_ (show ∀ w,(Op.stringOp .add (ah L) (ah [x])).run Tryz.prog w=.ok (.string (ah L ++ ah [x])) w from fun w=>run_string_add_sum w _ _ (by rw[aM,aM];simp;omega));have HAPP:=k_ (show ah L ++ ah [x]=ah (L ++ [x]) from JB _ _);clear hu hx hxe hL hLl d0 d1 d2 d3 k0 k1 k2 l0 l1 l2 l3 l4
     go_upto_region 16 with fail
     refine wp_region_noPanic ?_;refine wp_region_held_drew (S:=fun w'=>Below w5.heap.size w5 w'∧w'.cell? ⟨bb,oo+k * 2,none⟩=some (.int .i64 who)∧w'.cell? ⟨bb,oo+k * 2+1,none⟩=some (.int .i64 n)) (by kernel_rfl) ⟨HB.out.drew,hx0,hx1⟩ (fun _=>?_);have HS1:=k_ (show Below w5.heap.size w5 wr.drew∧wr.drew.cell? ⟨bb,oo+k * 2,none⟩=some (.int .i64 who)∧wr.drew.cell? ⟨bb,oo+k * 2+1,none⟩=some (.int .i64 n) from⟨HB.out.drew,hx0,hx1⟩);clear hx0 hx1;generalize wr.drew=r1 at *;refine tk_ (i:=0) (v:=?_) rfl (by kernel_rfl) (fun _ _ _ h=>h) ?tq0 HS1.out ?_
     case tq0=>(intro wq hq;obtain⟨_,q0,q1⟩:=hq;go_simp;first | done | with_reducible rfl)
     refine tk_ (i:=1) (v:=?_) rfl (by kernel_rfl) (fun _ _ _ h=>h) ?tq1 HS1.out ?_
     case tq1=>(intro wq hq;obtain⟨_,q0,q1⟩:=hq;go_simp;first | done | with_reducible rfl)
     refine tk_ (i:=2) (v:=?_) rfl (by kernel_rfl) (fun _ _ _ h=>h) ?tq2 HS1.out ?_
     case tq2=>(intro wq hq;obtain⟨_,q0,q1⟩:=hq;go_simp;first | done | with_reducible rfl)
     refine tk_ (i:=3) (v:=?_) rfl (by kernel_rfl) (fun _ _ _ h=>h) ?tq3 HS1.out ?_
     case tq3=>(intro wq hq;obtain⟨_,q0,q1⟩:=hq;go_simp;first | done | with_reducible rfl)
     refine tk_ (i:=4) (v:=?_) rfl (by kernel_rfl) (fun _ _ _ h=>h) ?tq4 HS1.out ?_
     case tq4=>(intro wq hq;obtain⟨_,q0,q1⟩:=hq;go_simp;first | done | with_reducible rfl)
     refine tk_ (i:=5) (v:=?_) rfl (by kernel_rfl) (fun _ _ _ h=>h) ?tq5 HS1.out ?_
     case tq5=>(intro wq hq;obtain⟨_,q0,q1⟩:=hq;go_simp;first | done | with_reducible rfl)
     refine tk_ (i:=6) (v:=?_) rfl (by kernel_rfl) (fun _ _ _ h=>h) ?tq6 HS1.out ?_
     case tq6=>(intro wq hq;obtain⟨_,q0,q1⟩:=hq;go_simp;first | done | with_reducible rfl)
     refine tk_ (i:=7) (v:=?_) rfl (by kernel_rfl) (fun _ _ _ h=>h) ?tq7 HS1.out ?_
     case tq7=>(intro wq hq;obtain⟨_,q0,q1⟩:=hq;go_simp;first | done | with_reducible rfl)
     refine tk_ (i:=8) (v:=?_) rfl (by kernel_rfl) (fun _ _ _ h=>h) ?tq8 HS1.out ?_
     case tq8=>(intro wq hq;obtain⟨_,q0,q1⟩:=hq;go_simp;first | done | with_reducible rfl)
     refine tk_ (i:=9) (v:=?_) rfl (by kernel_rfl) (fun _ _ _ h=>h) ?tq9 HS1.out ?_
     case tq9=>(intro wq hq;obtain⟨_,q0,q1⟩:=hq;go_simp;first | done | with_reducible rfl)
     refine tk_ (i:=10) (v:=?_) rfl (by kernel_rfl) (fun _ _ _ h=>h) ?tq10 HS1.out ?_
     case tq10=>(intro wq hq;obtain⟨_,q0,q1⟩:=hq;go_simp;first | done | with_reducible rfl)
     refine tk_ (i:=11) (v:=?_) rfl (by kernel_rfl) (fun _ _ _ h=>h) ?tq11 HS1.out ?_
     case tq11=>(intro wq hq;obtain⟨_,q0,q1⟩:=hq;go_simp;first | done | with_reducible rfl)
     refine tk_ (i:=12) (v:=?_) rfl (by kernel_rfl) (fun _ _ _ h=>h) ?tq12 HS1.out ?_
     case tq12=>(intro wq hq;obtain⟨_,q0,q1⟩:=hq;go_simp;first | done | with_reducible rfl)
     refine tk_ (i:=13) (v:=?_) rfl (by kernel_rfl) (fun _ _ _ h=>h) ?tq13 HS1.out ?_
     case tq13=>(intro wq hq;obtain⟨_,q0,q1⟩:=hq;go_simp;first | done | with_reducible rfl)
     refine rd_ (i:=14) (by kernel_rfl) rfl fun K hK=>?_
     go_simp;rw[HU.out];obtain⟨r2,hr2⟩:∃ u,u=r1.alloc (.cells #[.int .u8 x] 5):=⟨_,rfl⟩;have hcv:(convert 30 9 (.slice (some ⟨r1.heap.size,0,none⟩) 1 1)).run Tryz.prog r2=.ok (.string (ah [x])) r2:=by rw[hr2];exact Ci r1 x
     have hba:Below r1.heap.size r1 r2:=by rw[hr2];exact(Below.refl _ _).alloc (Nat.le_refl _) _
     rw[← hr2];have HS2:=k_ (show Below w5.heap.size w5 r2∧r2.cell? ⟨bb,oo+k * 2,none⟩=some (.int .i64 who)∧r2.cell? ⟨bb,oo+k * 2+1,none⟩=some (.int .i64 n) from⟨HS1.out.1.trans (hba.mono HS1.out.1.size),ae hba HS1.out.2.1,ae hba HS1.out.2.2⟩);obtain⟨z,hz⟩:∃ z,z=r1.heap.size:=⟨_,rfl⟩;rw[← hz] at hcv ⊢;refine hK.out _ _ HS2.out (fun _=>?_);clear hK K hr2 hba hz HS1;refine rd_ (i:=15) (by kernel_rfl) rfl fun K hK=>?_
     go_simp;refine hK.out _ _ HS2.out (fun _=>?_);clear hK K hcv;refine rd_ (i:=16) (by kernel_rfl) rfl fun K hK=>?_
     have hcat:=HCAT.out;go_simp;refine hK.out _ _ HS2.out (fun _=>?_);clear hK K hcat;rw[HAPP.out];refine rd_ (i:=17) (by kernel_rfl) rfl fun K hK=>?_
     go_simp;refine hK.out _ _ HS2.out (fun _=>?_);clear hK K;refine wpAnyH_done (by kernel_rfl) ?_ _;refine NoPanic.normal ?_;have HBE:=k_ HS2.out.1;go_wp2_with fail
     go_roundw
     case rel=>exact⟨k+1,by omega,by go_num,by rw[HTS.out,← HL.out,← HXE.out,HX.out],HBE.out⟩
     case measure=>simp[intOf];omega
    ·have hk':k=l.length:=by omega
     subst hk';rw[List.take_length,← HT.out];go_wp2_with fail
     go_meet
     case rel=>exact⟨rfl,HB.out⟩
  case rest =>
   obtain⟨rfl,hbc⟩:=hcut;clear k0 k1 k2 l0 l1 l2 l3 l4;have HB6:=k_ (HB5.out.trans (hbc.mono HZ5.out));clear hbc;obtain⟨hx1,hx2,hbw6,hz6⟩:=HBX.out _ HB6.out;have k0:=hx1 0 _ rfl;have k1:=hx1 1 _ rfl;have k2:=hx1 2 _ rfl;have l0:=hx2 0 _ rfl;have l1:=hx2 1 _ rfl;have l2:=hx2 2 _ rfl;have l3:=hx2 3 _ rfl;have l4:=hx2 4 _ rfl;clear hx1 hx2;have HBW6:=k_ hbw6;clear hbw6;have HZ6:=k_ hz6;have byt:∀ (v:Int) (W:World),Calls Tryz.prog 18 #[.int .i64 v] W fun e w'=>e=.returned (.string (iX v))∧Below W.heap.size W w':=fun v W=>(rQ v W).mono (by rintro e w' ⟨he,hw⟩;exact⟨he,by rw[hw];exact(Below.refl _ _).alloc (Nat.le_refl _) _⟩)
   have HL0:=k_ l0;have HL1:=k_ l1;have HL2:=k_ l2;have HL3:=k_ l3;have HL4:=k_ l4;obtain⟨y0,hy0⟩:∃ y,y=iX g0:=⟨_,rfl⟩;obtain⟨y1,hy1⟩:∃ y,y=iX g1:=⟨_,rfl⟩;obtain⟨y2,hy2⟩:∃ y,y=iX g2:=⟨_,rfl⟩;obtain⟨y3,hy3⟩:∃ y,y=iX g3:=⟨_,rfl⟩;obtain⟨y4,hy4⟩:∃ y,y=iX g4:=⟨_,rfl⟩;have z0:y0.size=4:=by rw[hy0];exact bW _
   have z1:y1.size=4:=by rw[hy1];exact bW _
   have z2:y2.size=4:=by rw[hy2];exact bW _
   have z3:y3.size=4:=by rw[hy3];exact bW _
   have z4:y4.size=4:=by rw[hy4];exact bW _
   have B0:=k_ (byt g0);have B1:=k_ (byt g1);have B2:=k_ (byt g2);have B3:=k_ (byt g3);have B4:=k_ (byt g4);have BI:=k_ (byt img.size);rw[← hy0] at B0;rw[← hy1] at B1;rw[← hy2] at B2;rw[← hy3] at B3;rw[← hy4] at B4;have C1:=k_ (show ∀ w,(Op.stringOp .add y0 y1).run Tryz.prog w=.ok (.string (y0 ++ y1)) w from fun w=>run_string_add_sum w _ _ (by omega));have C2:=k_ (show ∀ w,(Op.stringOp .add (y0 ++ y1) y2).run Tryz.prog w=.ok (.string (y0 ++ y1 ++ y2)) w from fun w=>run_string_add_sum w _ _ (by simp only[ByteArray.size_append];omega));have C3:=k_ (show ∀ w,(Op.stringOp .add (y0 ++ y1 ++ y2) y3).run Tryz.prog w=.ok (.string (y0 ++ y1 ++ y2 ++ y3)) w from fun w=>run_string_add_sum w _ _ (by simp only[ByteArray.size_append];omega));have C4:=k_ (show ∀ w,(Op.stringOp .add (y0 ++ y1 ++ y2 ++ y3) y4).run Tryz.prog w=.ok (.string (y0 ++ y1 ++ y2 ++ y3 ++ y4)) w from fun w=>run_string_add_sum w _ _ (by simp only[ByteArray.size_append];omega));obtain⟨TL,hTL⟩:∃ t,t=y0 ++ y1 ++ y2 ++ y3 ++ y4:=⟨_,rfl⟩;have htz:TL.size=20:=by rw[hTL];simp only[ByteArray.size_append];omega
   obtain⟨NB,hNB⟩:∃ t,t=iX img.size:=⟨_,rfl⟩;have hnz:NB.size=4:=by rw[hNB];exact bW _
   rw[← hNB] at BI;have hSS:S=NB ++ img ++ TL ++ T:=by
    rw[HS.out,hNB,hTL,hy0,hy1,hy2,hy3,hy4,HC.out];unfold dJ;simp only[ByteArray.append_assoc]
    rfl
   have HTL:=k_ hTL;have HTZ:=k_ (And.intro htz hnz);have HSS:=k_ hSS;clear byt hy0 hy1 hy2 hy3 hy4 z0 z1 z2 z3 z4 hTL htz hNB hnz hSS k0 k1 k2 l0 l1 l2 l3 l4
   go_upto_region 17 with fail
   refine wp_region_noPanic ?_;refine wp_region_held_drew (S:=fun w'=>Below wc.heap.size wc w') (by kernel_rfl) (Below.refl _ _).drew (fun _=>?_);have Hr0:=k_ (Below.refl wc.heap.size wc).drew;generalize wc.drew=r0 at *;refine tk_ (i:=0) (v:=?_) rfl (by kernel_rfl) (fun _ _ _ h=>h) ?tq0 Hr0.out ?_
   case tq0=>(intro wq hq;have q0:=ae hq HL0.out;have q1:=ae hq HL1.out;have q2:=ae hq HL2.out;have q3:=ae hq HL3.out;have q4:=ae hq HL4.out;go_simp;first | done | with_reducible rfl)
   refine tk_ (i:=1) (v:=?_) rfl (by kernel_rfl) (fun _ _ _ h=>h) ?tq1 Hr0.out ?_
   case tq1=>(intro wq hq;have q0:=ae hq HL0.out;have q1:=ae hq HL1.out;have q2:=ae hq HL2.out;have q3:=ae hq HL3.out;have q4:=ae hq HL4.out;go_simp;first | done | with_reducible rfl)
   refine tk_ (i:=3) (v:=?_) rfl (by kernel_rfl) (fun _ _ _ h=>h) ?tq3 Hr0.out ?_
   case tq3=>(intro wq hq;have q0:=ae hq HL0.out;have q1:=ae hq HL1.out;have q2:=ae hq HL2.out;have q3:=ae hq HL3.out;have q4:=ae hq HL4.out;go_simp;first | done | with_reducible rfl)
   refine tk_ (i:=4) (v:=?_) rfl (by kernel_rfl) (fun _ _ _ h=>h) ?tq4 Hr0.out ?_
   case tq4=>(intro wq hq;have q0:=ae hq HL0.out;have q1:=ae hq HL1.out;have q2:=ae hq HL2.out;have q3:=ae hq HL3.out;have q4:=ae hq HL4.out;go_simp;first | done | with_reducible rfl)
   refine tk_ (i:=7) (v:=?_) rfl (by kernel_rfl) (fun _ _ _ h=>h) ?tq7 Hr0.out ?_
   case tq7=>(intro wq hq;have q0:=ae hq HL0.out;have q1:=ae hq HL1.out;have q2:=ae hq HL2.out;have q3:=ae hq HL3.out;have q4:=ae hq HL4.out;go_simp;first | done | with_reducible rfl)
   refine tk_ (i:=8) (v:=?_) rfl (by kernel_rfl) (fun _ _ _ h=>h) ?tq8 Hr0.out ?_
   case tq8=>(intro wq hq;have q0:=ae hq HL0.out;have q1:=ae hq HL1.out;have q2:=ae hq HL2.out;have q3:=ae hq HL3.out;have q4:=ae hq HL4.out;go_simp;first | done | with_reducible rfl)
   refine tk_ (i:=11) (v:=?_) rfl (by kernel_rfl) (fun _ _ _ h=>h) ?tq11 Hr0.out ?_
   case tq11=>(intro wq hq;have q0:=ae hq HL0.out;have q1:=ae hq HL1.out;have q2:=ae hq HL2.out;have q3:=ae hq HL3.out;have q4:=ae hq HL4.out;go_simp;first | done | with_reducible rfl)
   refine tk_ (i:=12) (v:=?_) rfl (by kernel_rfl) (fun _ _ _ h=>h) ?tq12 Hr0.out ?_
   case tq12=>(intro wq hq;have q0:=ae hq HL0.out;have q1:=ae hq HL1.out;have q2:=ae hq HL2.out;have q3:=ae hq HL3.out;have q4:=ae hq HL4.out;go_simp;first | done | with_reducible rfl)
   refine tk_ (i:=15) (v:=?_) rfl (by kernel_rfl) (fun _ _ _ h=>h) ?tq15 Hr0.out ?_
   case tq15=>(intro wq hq;have q0:=ae hq HL0.out;have q1:=ae hq HL1.out;have q2:=ae hq HL2.out;have q3:=ae hq HL3.out;have q4:=ae hq HL4.out;go_simp;first | done | with_reducible rfl)
   refine tk_ (i:=16) (v:=?_) rfl (by kernel_rfl) (fun _ _ _ h=>h) ?tq16 Hr0.out ?_
   case tq16=>(intro wq hq;have q0:=ae hq HL0.out;have q1:=ae hq HL1.out;have q2:=ae hq HL2.out;have q3:=ae hq HL3.out;have q4:=ae hq HL4.out;go_simp;first | done | with_reducible rfl)
   refine rd_ (i:=2) (by kernel_rfl) rfl fun K hK=>?_
   go_simp
   go_at_call 18
   refine(B0.out r0).mono ?_;rintro e r1 ⟨rfl,hb⟩;have Hr1:=k_ (Hr0.out.trans (hb.mono Hr0.out.size));clear hb;refine hK.out _ _ Hr1.out (fun _=>?_);clear hK K;refine rd_ (i:=5) (by kernel_rfl) rfl fun K hK=>?_
   go_simp
   go_at_call 18
   refine(B1.out r1).mono ?_;rintro e r2 ⟨rfl,hb⟩;have Hr2:=k_ (Hr1.out.trans (hb.mono Hr1.out.size));clear hb;refine hK.out _ _ Hr2.out (fun _=>?_);clear hK K;refine tk_ (i:=6) (v:=?_) rfl (by kernel_rfl) (fun _ _ _ h=>h) ?tq6 Hr2.out ?_
   case tq6=>(intro wq hq;have hcat:=C1.out;go_simp;first | done | with_reducible rfl)
   refine rd_ (i:=9) (by kernel_rfl) rfl fun K hK=>?_
   go_simp
   go_at_call 18
   refine(B2.out r2).mono ?_;rintro e r3 ⟨rfl,hb⟩;have Hr3:=k_ (Hr2.out.trans (hb.mono Hr2.out.size));clear hb;refine hK.out _ _ Hr3.out (fun _=>?_);clear hK K;refine tk_ (i:=10) (v:=?_) rfl (by kernel_rfl) (fun _ _ _ h=>h) ?tq10 Hr3.out ?_
   case tq10=>(intro wq hq;have hcat:=C2.out;go_simp;first | done | with_reducible rfl)
   refine rd_ (i:=13) (by kernel_rfl) rfl fun K hK=>?_
   go_simp
   go_at_call 18
   refine(B3.out r3).mono ?_;rintro e r4 ⟨rfl,hb⟩;have Hr4:=k_ (Hr3.out.trans (hb.mono Hr3.out.size));clear hb;refine hK.out _ _ Hr4.out (fun _=>?_);clear hK K;refine tk_ (i:=14) (v:=?_) rfl (by kernel_rfl) (fun _ _ _ h=>h) ?tq14 Hr4.out ?_
   case tq14=>(intro wq hq;have hcat:=C3.out;go_simp;first | done | with_reducible rfl)
   refine rd_ (i:=17) (by kernel_rfl) rfl fun K hK=>?_
   go_simp
   go_at_call 18
   refine(B4.out r4).mono ?_;rintro e r5 ⟨rfl,hb⟩;have Hr5:=k_ (Hr4.out.trans (hb.mono Hr4.out.size));clear hb;refine hK.out _ _ Hr5.out (fun _=>?_);clear hK K;refine tk_ (i:=18) (v:=?_) rfl (by kernel_rfl) (fun _ _ _ h=>h) ?tq18 Hr5.out ?_
   case tq18=>(intro wq hq;have hcat:=C4.out;go_simp;first | done | with_reducible rfl)
   refine rd_ (i:=19) (by kernel_rfl) rfl fun K hK=>?_
   go_simp;refine hK.out _ _ Hr5.out (fun _=>?_);clear hK K;refine wpAnyH_done (by kernel_rfl) ?_ _;refine NoPanic.normal ?_;rw[← HTL.out];have HB7:=k_ (HB6.out.trans (Hr5.out.mono HZ6.out));clear Hr0 Hr1 Hr2 Hr3 Hr4 Hr5 B0 B1 B2 B3 B4 C1 C2 C3 C4 HTL HL0 HL1 HL2 HL3 HL4 HB0 HB1 HB2 HB3 HB4 HB5 HB6 HBW0 HBW1 HBW2 HBW3 HBW4 HBW5 HBW6 HZ0 HZ1 HZ2 HZ3 HZ4 HZ5 HZ6;obtain⟨hx1,hx2,hbw7,hz7⟩:=HBX.out _ HB7.out;have k0:=hx1 0 _ rfl;have k1:=hx1 1 _ rfl;have k2:=hx1 2 _ rfl;have l0:=hx2 0 _ rfl;have l1:=hx2 1 _ rfl;have l2:=hx2 2 _ rfl;have l3:=hx2 3 _ rfl;have l4:=hx2 4 _ rfl;clear hx1 hx2;have HBW7:=k_ hbw7;clear hbw7;have HZ7:=k_ hz7;have hs:=HSS.out;subst hs;have hc1:¬ 9223372036854775807<NB.size+img.size:=by have:=HTZ.out;have:=HI.out.2.2;omega
   have hc2:¬ 9223372036854775807<(NB ++ img).size+TL.size:=by have:=HTZ.out;have:=HI.out.2.2;simp only[ByteArray.size_append];omega
   have hc3:¬ 9223372036854775807<(NB ++ img ++ TL).size+T.size:=by have:=HTZ.out;have:=HI.out.2.2;have:=HN.out;rw[HT.out,aM,jF];simp only[ByteArray.size_append];omega
   clear HSS;go_wp2_with fail;refine(BI.out _).mono ?_;rintro e w8 ⟨rfl,hb⟩;clear k0 k1 k2 l0 l1 l2 l3 l4;have HB8:=k_ (HB7.out.trans (hb.mono HZ7.out));clear hb;obtain⟨hx1,hx2,hbw8,hz8⟩:=HBX.out _ HB8.out;have k0:=hx1 0 _ rfl;have k1:=hx1 1 _ rfl;have k2:=hx1 2 _ rfl;have l0:=hx2 0 _ rfl;have l1:=hx2 1 _ rfl;have l2:=hx2 2 _ rfl;have l3:=hx2 3 _ rfl;have l4:=hx2 4 _ rfl;clear hx1 hx2;have HBW8:=k_ hbw8;clear hbw8;have HZ8:=k_ hz8;go_wp2_with fail;clear hc1 hc2 hc3;rw[HS.out,HT.out];have un:=wX p img C l w8 HI.out.1 HI.out.2.1 HI.out.2.2 HCO.out HN.out HRS.out.symm;refine un.mono ?_;clear un;rintro e w9 ⟨d0,d1,d2,v,rfl,hv,ho,hb⟩;rw[← HT.out,← HS.out];clear k0 k1 k2 l0 l1 l2 l3 l4;have HB9:=k_ (HB8.out.trans (hb.mono HZ8.out));have hz89:=hb.size;clear hb;have hv2:=hv;obtain⟨⟨b0,q0,e0,_⟩,⟨b1,q1,e1,_⟩,b2,q2,e2,_⟩:=hv;obtain⟨b3,q3,e3,hsl3⟩:=DR ho;subst e3;obtain⟨i0,hi0⟩:∃ n,n=p.globals.length:=⟨_,rfl⟩;obtain⟨i1,hi1⟩:∃ n,n=p.shapes.length:=⟨_,rfl⟩;obtain⟨i2,hi2⟩:∃ n,n=p.funcs.length:=⟨_,rfl⟩;rw[← hi0] at e0;rw[← hi1] at e1;rw[← hi2] at e2;subst e0 e1 e2;have HV9:=k_ hv2;have HM9:=k_ hsl3;rw[HC.out];unfold Cfg.val
   dsimp only
   clear hv2 hsl3 ho hi0 hi1 hi2;obtain⟨hx1,hx2,hbw9,hz9⟩:=HBX.out _ HB9.out;have k0:=hx1 0 _ rfl;have k1:=hx1 1 _ rfl;have k2:=hx1 2 _ rfl;have l0:=hx2 0 _ rfl;have l1:=hx2 1 _ rfl;have l2:=hx2 2 _ rfl;have l3:=hx2 3 _ rfl;have l4:=hx2 4 _ rfl;clear hx1 hx2;have HBW9:=k_ hbw9;clear hbw9;have HZ9:=k_ hz9
   go_upto_region 21 with fail
   clear k0 k1 k2 l0 l1 l2 l3 l4;have hbq:=nz w9 #[.slice b0 i0 q0,.slice b1 i1 q1,.slice b2 i2 q2] #[.int .i64 g0,.int .i64 g1,.int .i64 g2,.int .i64 g3,.int .i64 g4] 48 50;have hb10:Below w9.heap.size w9 ((w9.alloc (.cells #[.slice b0 i0 q0,.slice b1 i1 q1,.slice b2 i2 q2] 48)).alloc (.cells #[.int .i64 g0,.int .i64 g1,.int .i64 g2,.int .i64 g3,.int .i64 g4] 50)):=((Below.refl _ _).alloc (Nat.le_refl _) _).alloc (by simp) _;obtain⟨w10,hw10⟩:∃ u,u=(w9.alloc (.cells #[.slice b0 i0 q0,.slice b1 i1 q1,.slice b2 i2 q2] 48)).alloc (.cells #[.int .i64 g0,.int .i64 g1,.int .i64 g2,.int .i64 g3,.int .i64 g4] 50):=⟨_,rfl⟩;have hs10:w10.heap.size=w9.heap.size+2:=by rw[hw10];simp
   rw[← hw10] at hbq hb10 ⊢;have HB10:=k_ (HB9.out.trans (hb10.mono HZ9.out));have HV10:=k_ (HV9.out.fr (fb_ hb10) (fun _ _ h=>h));have HM10:=k_ (HM9.out.below' hb10);obtain⟨y,hy⟩:∃ y,y=w9.heap.size:=⟨_,rfl⟩;rw[← hy] at hbq hs10 ⊢;have HBQ:=k_ (fun wr (hb:Below w10.heap.size w10 wr)=>hbq wr (by rw[← hs10];exact hb));clear hbq hb10 hw10 hy hs10 HV9 HM9;have UX:=k_ (show ∀ n,n≤img.size+23→∀ W,Calls Tryz.prog 19 #[.string ((NB ++ img ++ TL ++ T).extract 0 n)] W fun e w'=>∃ (x0:Option Addr) (n0 m0:Nat) (x1:Option Addr) (n1 m1:Nat) (x2:Option Addr) (n2 m2:Nat) (f0 f1 f2 f3 f4:Int) (x3:Option Addr) (n3 m3:Nat) (r:Int),e=.returned (.tuple #[.agg #[.slice x0 n0 m0,.slice x1 n1 m1,.slice x2 n2 m2],.agg #[.int .i64 f0,.int .i64 f1,.int .i64 f2,.int .i64 f3,.int .i64 f4],.slice x3 n3 m3,.int .i64 r])∧r≠0∧Below W.heap.size W w' from fun n hn W=>by
    have hf:fOk ((NB ++ img ++ TL ++ T).extract 0 n)=false:=by
     unfold fOk;rw[HS.out,decide_eq_false (FX img C T (by have:=HI.out.2.2;omega) n hn)]
     rfl
    refine(rO _ W (by rw[ByteArray.size_extract];have:=HI.out.2.2;omega)).mono ?_;rintro e w' ⟨x0,n0,m0,x1,n1,m1,x2,n2,m2,f0,f1,f2,f3,f4,x3,n3,m3,r,he,hr,hb⟩;rw[hf] at hr;exact⟨x0,n0,m0,x1,n1,m1,x2,n2,m2,f0,f1,f2,f3,f4,x3,n3,m3,r,he,of_decide_eq_false hr,hb⟩)
   have hsz:((NB ++ img ++ TL ++ T).size:Int)=img.size+T.size+24:=by rw[HS.out,uD];omega
   obtain⟨S,hS⟩:∃ S,S=NB ++ img ++ TL ++ T:=⟨_,rfl⟩;rw[← hS] at hsz UX ⊢;clear hS
   go_cut [25] (fun g wx=>∃ r:Int,g=.int .i64 r∧r≠0∧Below w10.heap.size w10 wx)
   case first =>
    by_cases hm:b.size≤img.size+23
    ·have ux:=UX.out b.size hm
     have UY:=k_ ux;have hm1:(b.size:Int)≤S.size:=by omega
     have hm2:(b.size:Int)≤(img.size:Int)+23:=by omega
     have hm3:¬ (img.size:Int)+23<(b.size:Int):=by omega
     have hw1:IntKind.i64.wrap ((img.size:Int)+23)=(img.size:Int)+23:=IntWalk.i64_in _ (by have:=HI.out.2.2;omega);clear ux hm;go_wp2_with fail;refine(UY.out w10).mono ?_;rintro e w11 ⟨xa0,na0,ma0,xa1,na1,ma1,xa2,na2,ma2,fa0,fa1,fa2,fa3,fa4,xa3,na3,ma3,r,rfl,hr,hb⟩;have HR:=k_ hr;have HBR:=k_ hb;clear hr hb;go_wp2_with fail
     go_meet
     case rel=>exact⟨r,rfl,HR.out,(HBR.out.alloc HBR.out.size _).alloc (by have:=HBR.out.size;simp;omega) _⟩
    ·have ux:=UX.out (img.size+23) (Nat.le_refl _)
     have UY:=k_ ux;have hm1:(img.size:Int)+23≤S.size:=by omega
     have hm2:¬ (b.size:Int)≤(img.size:Int)+23:=by omega
     clear ux hm;go_wp2_with fail;refine(UY.out w10).mono ?_;rintro e w11 ⟨xa0,na0,ma0,xa1,na1,ma1,xa2,na2,ma2,fa0,fa1,fa2,fa3,fa4,xa3,na3,ma3,r,rfl,hr,hb⟩;have HR:=k_ hr;have HBR:=k_ hb;clear hr hb;go_wp2_with fail
     go_meet
     case rel=>exact⟨r,rfl,HR.out,(HBR.out.alloc HBR.out.size _).alloc (by have:=HBR.out.size;simp;omega) _⟩
   case rest =>
    obtain⟨r,rfl,hr,hb⟩:=hcut;have HR:=k_ hr;have HC11:=k_ hb;obtain⟨_,_,_,hz10⟩:=HBX.out _ HB10.out;have HB11:=k_ (HB10.out.trans (hb.mono hz10));clear hr hb hsz UX hz10;go_wp2_with fail;refine(rO b _ (by have:=HBZ.out;omega)).mono ?_;rintro e w12 ⟨xa0,na0,ma0,xa1,na1,ma1,xa2,na2,ma2,fa0,fa1,fa2,fa3,fa4,xa3,na3,ma3,r3,rfl,hr3,hb⟩;have HR3:=k_ hr3;have HB12:=k_ (HB11.out.trans (hb.mono (HBX.out _ HB11.out).2.2.2));have HC12:=k_ (HC11.out.trans (hb.mono HC11.out.size));clear hr3 hb
    go_upto_region 23 with fail
    have hz12:w.heap.size+2≤w12.heap.size:=(HBX.out _ HB12.out).2.2.2;have hc12:=HC12.out.size;have hb13:=HB12.out.alloc hz12 (.cells #[.slice xa0 na0 ma0,.slice xa1 na1 ma1,.slice xa2 na2 ma2] 48);have hb13:=hb13.alloc (by simp;omega) (.cells #[.int .i64 fa0,.int .i64 fa1,.int .i64 fa2,.int .i64 fa3,.int .i64 fa4] 50);have hd13:=HC12.out.alloc hc12 (.cells #[.slice xa0 na0 ma0,.slice xa1 na1 ma1,.slice xa2 na2 ma2] 48);have hd13:=hd13.alloc hd13.size (.cells #[.int .i64 fa0,.int .i64 fa1,.int .i64 fa2,.int .i64 fa3,.int .i64 fa4] 50);generalize (w12.alloc (.cells #[.slice xa0 na0 ma0,.slice xa1 na1 ma1,.slice xa2 na2 ma2] 48)).alloc (.cells #[.int .i64 fa0,.int .i64 fa1,.int .i64 fa2,.int .i64 fa3,.int .i64 fa4] 50)=w13 at *;clear hz12 hc12;have HB13:=k_ hb13;have HC13:=k_ hd13;clear hb13 hd13;obtain⟨hx1,hx2,hbw13,hz13⟩:=HBX.out _ HB13.out;have k0:=hx1 0 _ rfl;have k1:=hx1 1 _ rfl;have k2:=hx1 2 _ rfl;have l0:=hx2 0 _ rfl;have l1:=hx2 1 _ rfl;have l2:=hx2 2 _ rfl;have l3:=hx2 3 _ rfl;have l4:=hx2 4 _ rfl;clear hx1 hx2;have HBW13:=k_ hbw13;clear hbw13;have HZ13:=k_ hz13;obtain⟨hv,hu,_,_⟩:=HBQ.out _ HC13.out;have v0:=hv 0 _ rfl;have v1:=hv 1 _ rfl;have v2:=hv 2 _ rfl;have u0:=hu 0 _ rfl;have u1:=hu 1 _ rfl;have u2:=hu 2 _ rfl;have u3:=hu 3 _ rfl;have u4:=hu 4 _ rfl;clear hv hu;have okp:oO p:=by unfold oO;have:=HSP.out;omega
    have same:=Ca w13 _ _ p p _ _ _ _ _ _ (HV10.out.fr (fb_ HC13.out) (fun _ _ h=>h)) (HP2.out _ HBW13.out) okp okp;rw[show decide (p=p)=true from by simp] at same;have SAME:=k_ same;have hr:=HR.out;clear same okp
    by_cases h3:r3=0
    ·have F3:=k_ (show fOk b=true from by rw[← HR3.out,h3];rfl)
     subst h3;clear HR3;go_wp2_with fail;refine SAME.out.mono ?_;rintro e w14 ⟨rfl,hb⟩;clear k0 k1 k2 l0 l1 l2 l3 l4 v0 v1 v2 u0 u1 u2 u3 u4;have HB14:=k_ (HB13.out.trans (hb.mono HZ13.out));have HC14:=k_ (HC13.out.trans (hb.mono HC13.out.size));clear hb;obtain⟨hx1,hx2,hbw14,hz14⟩:=HBX.out _ HB14.out;have k0:=hx1 0 _ rfl;have k1:=hx1 1 _ rfl;have k2:=hx1 2 _ rfl;have l0:=hx2 0 _ rfl;have l1:=hx2 1 _ rfl;have l2:=hx2 2 _ rfl;have l3:=hx2 3 _ rfl;have l4:=hx2 4 _ rfl;clear hx1 hx2;have HBW14:=k_ hbw14;clear hbw14;have HZ14:=k_ hz14;obtain⟨hv,hu,_,_⟩:=HBQ.out _ HC14.out;have u0:=hu 0 _ rfl;have u1:=hu 1 _ rfl;have u2:=hu 2 _ rfl;have u3:=hu 3 _ rfl;have u4:=hu 4 _ rfl;clear hv hu;have ceq:=tu g0 g1 g2 g3 g4;have se:=oH w14 _ _ b3 a l q3 cp (HM10.out.below' HC14.out) (HSL.out.below' HBW14.out) (by have:=HN.out;omega);have SE:=k_ se;clear se;go_wp2_with fail;refine SE.out.mono ?_;rintro e w15 ⟨rfl,nd,hw15⟩;have HB15:=k_ (show Below (w.heap.size+2) W0 w15 from by rw[hw15];exact below_drewN HB14.out nd);clear hw15 k0 k1 k2 l0 l1 l2 l3 l4 u0 u1 u2 u3 u4 ceq;go_wp2_with fail;refine(qH w15 b (by have:=HBZ.out;omega)).mono ?_;rintro e w16 ⟨rfl,hb⟩;obtain⟨_,_,hbw,hz⟩:=HBX.out _ HB15.out;have HBF:=k_ (hbw.trans (hb.mono hbw.size));clear hb hbw hz;rw[F3.out];go_wp2_with fail
     go_ret
     refine⟨?_,HBF.out⟩;have hr:=HR.out
     first | (show Ending.returned (.bool (r != 0))=_;simp[hr]) | (show Ending.returned (.bool (r != 0 && !r3 == 0))=_;simp[hr,h3])
    ·have F3:=k_ (show fOk b=false from by rw[← HR3.out];exact decide_eq_false h3)
     clear HR3;go_wp2_with fail;refine SAME.out.mono ?_;rintro e w14 ⟨rfl,hb⟩;clear k0 k1 k2 l0 l1 l2 l3 l4 v0 v1 v2 u0 u1 u2 u3 u4;have HB14:=k_ (HB13.out.trans (hb.mono HZ13.out));have HC14:=k_ (HC13.out.trans (hb.mono HC13.out.size));clear hb;obtain⟨hx1,hx2,hbw14,hz14⟩:=HBX.out _ HB14.out;have k0:=hx1 0 _ rfl;have k1:=hx1 1 _ rfl;have k2:=hx1 2 _ rfl;have l0:=hx2 0 _ rfl;have l1:=hx2 1 _ rfl;have l2:=hx2 2 _ rfl;have l3:=hx2 3 _ rfl;have l4:=hx2 4 _ rfl;clear hx1 hx2;have HBW14:=k_ hbw14;clear hbw14;have HZ14:=k_ hz14;obtain⟨hv,hu,_,_⟩:=HBQ.out _ HC14.out;have u0:=hu 0 _ rfl;have u1:=hu 1 _ rfl;have u2:=hu 2 _ rfl;have u3:=hu 3 _ rfl;have u4:=hu 4 _ rfl;clear hv hu;have ceq:=tu g0 g1 g2 g3 g4;have se:=oH w14 _ _ b3 a l q3 cp (HM10.out.below' HC14.out) (HSL.out.below' HBW14.out) (by have:=HN.out;omega);have SE:=k_ se;clear se;go_wp2_with fail;refine SE.out.mono ?_;rintro e w15 ⟨rfl,nd,hw15⟩;have HB15:=k_ (show Below (w.heap.size+2) W0 w15 from by rw[hw15];exact below_drewN HB14.out nd);clear hw15 k0 k1 k2 l0 l1 l2 l3 l4 u0 u1 u2 u3 u4 ceq;go_wp2_with fail;refine(qH w15 b (by have:=HBZ.out;omega)).mono ?_;rintro e w16 ⟨rfl,hb⟩;obtain⟨_,_,hbw,hz⟩:=HBX.out _ HB15.out;have HBF:=k_ (hbw.trans (hb.mono hbw.size));clear hb hbw hz;rw[F3.out];go_wp2_with fail
     go_ret
     refine⟨?_,HBF.out⟩;have hr:=HR.out
     first | (show Ending.returned (.bool (r != 0))=_;simp[hr]) | (show Ending.returned (.bool (r != 0 && !r3 == 0))=_;simp[hr,h3])
end Go.Proofs.YtlofbhoicbemnaaGreatDoor.Tk
