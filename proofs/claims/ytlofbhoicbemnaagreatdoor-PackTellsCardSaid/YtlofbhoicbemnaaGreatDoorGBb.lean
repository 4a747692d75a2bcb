/- Walks: of a program of three kinds of instructions alone: what check and instr answer. Walk: check.look's slots. -/
import Derived.Test.YtlofbhoicbemnaaGreatDoorGAq
set_option linter.unusedVariables false
set_option linter.unusedSimpArgs false
set_option maxRecDepth 100000
set_option maxHeartbeats 3200000
namespace Go.Proofs.YtlofbhoicbemnaaGreatDoor
open Go.ChangeShapes Go.WideShapes Go.ChangeAt Go.RowKit
theorem Em (w:World) (D:Nat→Prop) (hD:∀ k,D k→k<w.heap.size) (p:Prg) (f:Fun) (c0 c1 c2 d0:Value) (g0 g2:Option Addr) (g1 g3:Nat) (r s:Int) (i:Ins) (fn pc:Int) (hv:aD w D p c0 c1 c2) (hz:Zi i) :
  Calls Tryz.prog 293 #[.agg (bQ c0 c1 c2 d0 (.slice g0 f.objects.length g1) (.slice g2 f.code.length g3) r s i fn pc)] w fun e w'=>e=.returned (.bool (gB p f i))∧Below w.heap.size w w':=by
 obtain⟨op,a,b,c⟩:=i;have ho:=hz.op;obtain⟨d3,hd3⟩:∃ d3:Value,d3=.slice g0 f.objects.length g1:=⟨_,rfl⟩;obtain⟨d4,hd4⟩:∃ d4:Value,d4=.slice g2 f.code.length g3:=⟨_,rfl⟩;rw[← hd3,← hd4];have hC0:=(Below.refl w.heap.size w).alloc (Nat.le_refl _) (.cells (bQ c0 c1 c2 d0 d3 d4 r s ⟨op,a,b,c⟩ fn pc) 360);have hbx:=kL w (bQ c0 c1 c2 d0 d3 d4 r s ⟨op,a,b,c⟩ fn pc) 360 _ (Below.refl _ _);have hz0:(w.alloc (.cells (bQ c0 c1 c2 d0 d3 d4 r s ⟨op,a,b,c⟩ fn pc) 360)).heap.size=w.heap.size+1:=by simp
 obtain⟨W,hW⟩:∃ W,W=w.alloc (.cells (bQ c0 c1 c2 d0 d3 d4 r s ⟨op,a,b,c⟩ fn pc) 360):=⟨_,rfl⟩;rw[← hW] at hC0 hbx hz0;have q:∀ W',Below W.heap.size W W'→∀ j u,(bQ c0 c1 c2 d0 d3 d4 r s ⟨op,a,b,c⟩ fn pc)[j]?=some u→W'.cell? ⟨w.heap.size,j,none⟩=some u:=fun W' h j u hj=>ae h (hbx.1 j u hj)
 clear hbx;have HW:=k_ hW;clear hW;have hvW:∀ W',Below W.heap.size W W'→aD W' D p c0 c1 c2:=fun W' h=>hv.fr (Fr.of_below (hC0.trans (h.mono hC0.size)) (fun _=>False)) (fun _ _ h=>h)
 have hDW:∀ k,D k→k<W.heap.size:=fun k hk=>by have:=hD k hk;omega
 have HQQ:=k_ q;clear q;have HC0:=k_ hC0;clear hC0;have HVW:=k_ hvW;clear hvW;have HDW:=k_ hDW;clear hDW;have HZ0:=k_ hz0;clear hz0;obtain⟨⟨a0,m0,rfl,_⟩,⟨a1,m1,rfl,_⟩,a2,m2,rfl,_⟩:=hv;subst hd3 hd4;clear hD hz;unfold bQ at *
 go_enter Tryz.func293,Tryz.ntmps293
 go_upto_region 1 with fail
 rw[← HW.out];obtain⟨p0,p1,p2,p3,p4,p5,p6,p7,p8,p9,p10,p11,p12,p13⟩:=c_14 (HQQ.out _ (Below.refl _ _))
 rcases ho with rfl | rfl | rfl
 all_goals
  go_wp2_with fail
  go_ret
  exact⟨by simp[gB],HC0.out⟩
theorem Iw (w:World) (D:Nat→Prop) (hD:∀ k,D k→k<w.heap.size) (p:Prg) (c0 c1 c2 d0 d3 d4:Value) (r s:Int) (i:Ins) (fn pc:Int) (hv:aD w D p c0 c1 c2) (hz:Zi i) :
  Calls Tryz.prog 295 #[.agg (bQ c0 c1 c2 d0 d3 d4 r s i fn pc)] w fun e w'=>e=.returned (.bool (su p i))∧Below w.heap.size w w':=by
 obtain⟨op,a,b,c⟩:=i;have ho:=hz.op;have ca:=fun W h1 h2=>nL W D h1 p c0 c1 c2 d0 d3 d4 r s ⟨op,a,b,c⟩ fn pc h2
 unfold fq at ca;have hC0:=(Below.refl w.heap.size w).alloc (Nat.le_refl _) (.cells (bQ c0 c1 c2 d0 d3 d4 r s ⟨op,a,b,c⟩ fn pc) 360);have hbx:=kL w (bQ c0 c1 c2 d0 d3 d4 r s ⟨op,a,b,c⟩ fn pc) 360 _ (Below.refl _ _);have hz0:(w.alloc (.cells (bQ c0 c1 c2 d0 d3 d4 r s ⟨op,a,b,c⟩ fn pc) 360)).heap.size=w.heap.size+1:=by simp
 obtain⟨W,hW⟩:∃ W,W=w.alloc (.cells (bQ c0 c1 c2 d0 d3 d4 r s ⟨op,a,b,c⟩ fn pc) 360):=⟨_,rfl⟩;rw[← hW] at hC0 hbx hz0;have q:∀ W',Below W.heap.size W W'→∀ j u,(bQ c0 c1 c2 d0 d3 d4 r s ⟨op,a,b,c⟩ fn pc)[j]?=some u→W'.cell? ⟨w.heap.size,j,none⟩=some u:=fun W' h j u hj=>ae h (hbx.1 j u hj)
 clear hbx;have HW:=k_ hW;clear hW;have hvW:∀ W',Below W.heap.size W W'→aD W' D p c0 c1 c2:=fun W' h=>hv.fr (Fr.of_below (hC0.trans (h.mono hC0.size)) (fun _=>False)) (fun _ _ h=>h)
 have hDW:∀ k,D k→k<W.heap.size:=fun k hk=>by have:=hD k hk;omega
 have HQQ:=k_ q;clear q;have HC0:=k_ hC0;clear hC0;have HVW:=k_ hvW;clear hvW;have HDW:=k_ hDW;clear hDW;have HZ0:=k_ hz0;clear hz0;have hv2:=hv;obtain⟨⟨a0,m0,rfl,_⟩,⟨a1,m1,rfl,_⟩,a2,m2,rfl,_⟩:=hv2;have hkv:su p ⟨op,a,b,c⟩=true:=by rcases ho with rfl | rfl | rfl <;> simp[su]
 rw[hkv];clear hkv;generalize (bD p ⟨op,a,b,c⟩)=G at *;generalize (bF p ⟨op,a,b,c⟩).isSome=is at *;generalize hgr:G.result=gr at *;generalize hgs:G.slots=gs at *;generalize hgn:G.args=ga at *;clear hgr hgs hz;have HGN:=k_ hgn;clear hgn;have CA:=k_ (ca W HDW.out (HVW.out W (Below.refl _ _)));clear ca hv hD;unfold bQ at *
 go_enter Tryz.func295,Tryz.ntmps295
 go_upto_region 1 with fail
 rw[← HW.out];obtain⟨p0,p1,p2,p3,p4,p5,p6,p7,p8,p9,p10,p11,p12,p13⟩:=c_14 (HQQ.out _ (Below.refl _ _));go_wp2_with fail;refine CA.out.mono ?_;rintro e w1 ⟨x0,x3,x4,rfl,hfv,hb1⟩;obtain⟨hq1,hq2,⟨g0,g1,rfl,hsl⟩,⟨g2,g3,rfl,_⟩,g4,g5,rfl,_⟩:=hfv;clear hq1 hq2;rw[HGN.out] at *;clear p0 p1 p2 p3 p4 p5 p6 p7 p8 p9 p10 p11 p12 p13;obtain⟨y,hy⟩:∃ y,y=w1.heap.size:=⟨_,rfl⟩;have hly:=ai w1 (.cells #[.slice g0 ga.length g1,.int .i64 gr,.int .i64 gs,.slice g2 G.objects.length g3,.slice g4 G.code.length g5] 66);have hb3:=(Below.refl w1.heap.size w1).alloc (Nat.le_refl _) (.cells #[.slice g0 ga.length g1,.int .i64 gr,.int .i64 gs,.slice g2 G.objects.length g3,.slice g4 G.code.length g5] 66);obtain⟨W3,hW3⟩:∃ W3,W3=w1.alloc (.cells #[.slice g0 ga.length g1,.int .i64 gr,.int .i64 gs,.slice g2 G.objects.length g3,.slice g4 G.code.length g5] 66):=⟨_,rfl⟩;rw[← hW3] at hb3;rw[← hW3,← hy] at hly;obtain⟨⟨y0,y1,y2,y3,y4⟩,_⟩:=aB hly;have hbw:=hb1.trans (hb3.mono hb1.size);obtain⟨p0,p1,p2,p3,p4,p5,p6,p7,p8,p9,p10,p11,p12,p13⟩:=c_14 (HQQ.out _ hbw);have HB2:=k_ (HC0.out.trans (hbw.mono HC0.out.size));have HW3:=k_ hW3;have HY:=k_ hy;clear hW3 hy hly hb1 hbw;clear hsl hb3
 go_upto_region 2 with fail
 rw[← HW3.out,← HY.out]
 rcases ho with rfl | rfl | rfl
 all_goals
  go_wp2_with fail
  go_ret
  exact⟨rfl,HB2.out⟩
theorem Ck (x:Ins) (k:Int):(jJ x k).length≤100:=by
 have h1:=ww x.c (yI k);have h2:=ET k;have h3:∀ l:List Int,(gQ l).length≤l.length:=fun l=>by simpa using uz l l.length
 have h4:∀ u v:Int,(gQ [u,v]).length≤2:=fun u v=>h3 [u,v]
 unfold jJ
 repeat' split
 all_goals first | (simp;done) | (have:=h4 x.b x.c;omega) | (have:=h4 x.a x.c;omega) | (have:=h4 x.a x.b;omega) | omega
def qJ (s c:Int) (n:Nat):Bool:=decide (0≤c) && decide ((n:Int)≤s) && decide (c≤s - n)
def Bp (p:Prg) (r:Int) (i:Ins):List Int :=
 jJ i (bD p i).args.length ++ (if dF i.op && !jG p r i then [i.a] else []) ++ (if i.op == 26 then [i.b] else []) ++ (if i.op == 22 && !jG p r i then [i.a] else [])
def vL (p:Prg) (r s:Int) (i:Ins):Bool:=!((bF p i).isSome && !qJ s i.c (bD p i).args.length) && (Bp p r i).all (au · s)
theorem Ef (p:Prg) (f:Fun) (i:Ins):vL p f.result f.slots i=nS p f i:=by
 unfold vL nS Bp tN;rw[xC];have h:((bD p i).args.length:Int)=Bv (bF p i):=by
  unfold bD Bv
  cases bF p i <;> rfl
 rw[h]
 congr 1
 unfold bD qJ Bi
 cases bF p i <;> simp
theorem Dc (w:World) (D:Nat→Prop) (hD:∀ k,D k→k<w.heap.size) (p:Prg) (c0 c1 c2 d0 d3 d4:Value) (r s:Int) (i:Ins) (fn pc:Int) (hv:aD w D p c0 c1 c2) (hd0:d0.oneCell'=true) (hd3:d3.oneCell'=true) (hd4:d4.oneCell'=true) (hs:s<9223372036854775808) (hln:(bD p i).args.length≤3000) (hz:Zi i) :
  Calls Tryz.prog 294 #[.agg (bQ c0 c1 c2 d0 d3 d4 r s i fn pc)] w fun e w'=>e=.returned (.bool (vL p r s i))∧Below w.heap.size w w':=by
 have hus:Bp p r i=jJ i (bD p i).args.length ++ (if dF i.op && !jG p r i then [i.a] else []) ++ (if i.op == 26 then [i.b] else []) ++ (if i.op == 22 && !jG p r i then [i.a] else []):=rfl;unfold vL;obtain⟨op,a,b,c⟩:=i;have ca:=fun W h1 h2=>nL W D h1 p c0 c1 c2 d0 d3 d4 r s ⟨op,a,b,c⟩ fn pc h2
 have qu:=fun W h1 h2=>uN W D h1 p c0 c1 c2 d0 d3 d4 r s ⟨op,a,b,c⟩ fn pc h2 hd0 hd3 hd4
 unfold fq at ca;have hC0:=(Below.refl w.heap.size w).alloc (Nat.le_refl _) (.cells (bQ c0 c1 c2 d0 d3 d4 r s ⟨op,a,b,c⟩ fn pc) 360);have hbx:=kL w (bQ c0 c1 c2 d0 d3 d4 r s ⟨op,a,b,c⟩ fn pc) 360 _ (Below.refl _ _);have hz0:(w.alloc (.cells (bQ c0 c1 c2 d0 d3 d4 r s ⟨op,a,b,c⟩ fn pc) 360)).heap.size=w.heap.size+1:=by simp
 obtain⟨W,hW⟩:∃ W,W=w.alloc (.cells (bQ c0 c1 c2 d0 d3 d4 r s ⟨op,a,b,c⟩ fn pc) 360):=⟨_,rfl⟩;rw[← hW] at hC0 hbx hz0;have q:∀ W',Below W.heap.size W W'→∀ j u,(bQ c0 c1 c2 d0 d3 d4 r s ⟨op,a,b,c⟩ fn pc)[j]?=some u→W'.cell? ⟨w.heap.size,j,none⟩=some u:=fun W' h j u hj=>ae h (hbx.1 j u hj)
 clear hbx;have HW:=k_ hW;clear hW;have hvW:∀ W',Below W.heap.size W W'→aD W' D p c0 c1 c2:=fun W' h=>hv.fr (Fr.of_below (hC0.trans (h.mono hC0.size)) (fun _=>False)) (fun _ _ h=>h)
 have hDW:∀ k,D k→k<W.heap.size:=fun k hk=>by have:=hD k hk;omega
 have HQQ:=k_ q;clear q;have HC0:=k_ hC0;clear hC0;have HVW:=k_ hvW;clear hvW;have HDW:=k_ hDW;clear hDW;have HZ0:=k_ hz0;clear hz0;have rd:=fun W=>G7 W ⟨op,a,b,c⟩ ((bD p ⟨op,a,b,c⟩).args.length:Int) hz
 clear hz;have hrl:=Ck ⟨op,a,b,c⟩ ((bD p ⟨op,a,b,c⟩).args.length:Int);have wr:=fun W=>FN W op a b c
 unfold ji at rd
 dsimp only at hus ⊢
 generalize Bp p r ⟨op,a,b,c⟩=used at *;generalize jJ ⟨op,a,b,c⟩ ((bD p ⟨op,a,b,c⟩).args.length:Int)=L at *;have rd:∀ W,Calls Tryz.prog 349 #[.agg #[.int .i64 op,.int .i64 a,.int .i64 b,.int .i64 c],.int .i64 ((bD p ⟨op,a,b,c⟩).args.length:Int)] W _:=rd;generalize (bD p ⟨op,a,b,c⟩)=G at *;generalize (bF p ⟨op,a,b,c⟩).isSome=is at *;generalize jG p r ⟨op,a,b,c⟩=qb at *;generalize hgr:G.result=gr at *;generalize hgs:G.slots=gs at *;generalize hgn:G.args.length=n at *;clear hgr hgs;have CA:=k_ (ca W HDW.out (HVW.out W (Below.refl _ _)));have QU:=k_ fun W' (h:Below W.heap.size W W')=>qu W' (fun k hk=>Nat.lt_of_lt_of_le (HDW.out k hk) h.size) (HVW.out W' h)
 obtain⟨va,bw,hwr⟩:∃ (va:Int) (bw:Bool),va=(if dF op=true then a else 0)∧bw=dF op:=⟨_,_,rfl,rfl⟩;rw[← hwr.1,← hwr.2] at wr;clear ca qu hv hD;have RD:=k_ rd;clear rd;have WR:=k_ wr;clear wr;have HUS:=k_ hus;clear hus;have HRL:=k_ hrl;clear hrl;have HWR:=k_ hwr;clear hwr;have HGN:=k_ hgn;clear hgn;unfold bQ at *
 go_enter Tryz.func294,Tryz.ntmps294
 go_upto_region 1 with fail
 rw[← HW.out];obtain⟨p0,p1,p2,p3,p4,p5,p6,p7,p8,p9,p10,p11,p12,p13⟩:=c_14 (HQQ.out _ (Below.refl _ _));go_wp2_with fail;refine CA.out.mono ?_;rintro e w1 ⟨x0,x3,x4,rfl,hfv,hb1⟩;obtain⟨hq1,hq2,⟨g0,g1,rfl,_⟩,⟨g2,g3,rfl,_⟩,g4,g5,rfl,_⟩:=hfv;clear hq1 hq2;rw[HGN.out];clear p0 p1 p2 p3 p4 p5 p6 p7 p8 p9 p10 p11 p12 p13;obtain⟨y,hy⟩:∃ y,y=w1.heap.size:=⟨_,rfl⟩;have hly:=ai w1 (.cells #[.slice g0 n g1,.int .i64 gr,.int .i64 gs,.slice g2 G.objects.length g3,.slice g4 G.code.length g5] 66);have hb2:=hb1.trans (((Below.refl w1.heap.size w1).alloc (Nat.le_refl _) (.cells #[.slice g0 n g1,.int .i64 gr,.int .i64 gs,.slice g2 G.objects.length g3,.slice g4 G.code.length g5] 66)).mono hb1.size);obtain⟨w2,hw2⟩:∃ w2,w2=w1.alloc (.cells #[.slice g0 n g1,.int .i64 gr,.int .i64 gs,.slice g2 G.objects.length g3,.slice g4 G.code.length g5] 66):=⟨_,rfl⟩;rw[← hw2] at hb2;rw[← hw2,← hy] at hly;obtain⟨⟨y0,y1,y2,y3,y4⟩,_⟩:=aB hly;have HW2:=k_ hw2;have HY:=k_ hy;clear hw2 hy hly hb1;have HB2:=k_ hb2;clear hb2
 go_upto_region 2 with fail
 rw[← HW2.out,← HY.out];obtain⟨p0,p1,p2,p3,p4,p5,p6,p7,p8,p9,p10,p11,p12,p13⟩:=c_14 (HQQ.out _ HB2.out)
 go_upto_region 3 with fail
 go_cut [43] (fun o wx=>o=.bool (is && !qJ s c n)∧wx=w2)
 case first =>
  cases is
  ·go_wp2_with fail
   go_meet
   exact⟨by simp,rfl⟩
  ·by_cases h1:c<0
   ·go_wp2_with fail
    go_meet
    exact⟨by simp[qJ];omega,rfl⟩
   ·by_cases h2:s<n
    ·go_wp2_with fail
     go_meet
     exact⟨by simp[qJ];omega,rfl⟩
    ·have i1:IntKind.i64.wrap (s - (n:Int))=s - (n:Int):=IntWalk.i64_in _ (by omega)
     by_cases h3:s - (n:Int)<c
     ·go_wp2_with fail
      go_meet
      exact⟨by simp[qJ];omega,rfl⟩
     ·go_wp2_with fail
      go_meet
      exact⟨by simp[qJ];omega,rfl⟩
 case rest =>
  obtain⟨rfl,rfl⟩:=hcut;clear y0 y1 y2 y3 y4
  cases hro:(is && !qJ s c n)
  case true =>
   have HRO:=k_ hro;clear hro;have hB2:=HC0.out.trans (HB2.out.mono HC0.out.size);have HB2:=k_ hB2;clear hB2;go_wp2_with fail
   go_ret
   exact⟨by rw[HRO.out];rfl,HB2.out⟩
  have HRO:=k_ hro;clear hro;go_wp2_with fail;refine(RD.out _).mono ?_;rintro e w3 ⟨v1,rfl,ho1,hb3⟩;have hb3':=HB2.out.trans (hb3.mono HB2.out.size);clear p0 p1 p2 p3 p4 p5 p6 p7 p8 p9 p10 p11 p12 p13;obtain⟨p0,p1,p2,p3,p4,p5,p6,p7,p8,p9,p10,p11,p12,p13⟩:=c_14 (HQQ.out _ hb3');have HB3':=k_ hb3';clear hb3';have HO1:=k_ ho1;clear ho1;clear hb3;go_wp2_with fail;refine(WR.out _).mono ?_;rintro e w4 ⟨rfl,hb4⟩;have hb4':=HB3'.out.trans (hb4.mono HB3'.out.size);have ho4:=(HO1.out.below hb4).base (B':=W.heap.size) (fun k hk=>by have:=(HO1.out.lt hk).1;have:=HB2.out.size;omega);clear p0 p1 p2 p3 p4 p5 p6 p7 p8 p9 p10 p11 p12 p13;obtain⟨p0,p1,p2,p3,p4,p5,p6,p7,p8,p9,p10,p11,p12,p13⟩:=c_14 (HQQ.out _ hb4');have QU4:=k_ (QU.out w4 hb4');have HB4':=k_ hb4';clear hb4';have HO4:=k_ ho4;clear ho4;clear hb4;obtain⟨z1,hz1⟩:∃ z,z=(bw && !qb):=⟨_,rfl⟩;obtain⟨z2,hz2⟩:∃ z,z=(op == 26):=⟨_,rfl⟩;obtain⟨z3,hz3⟩:∃ z,z=(op == 22 && !qb):=⟨_,rfl⟩;have HZ1:=k_ hz1;clear hz1;have HZ2:=k_ hz2;clear hz2;have HZ3:=k_ hz3;clear hz3
  go_upto_region 7 with fail
  go_cut [59] (fun o wx=>o=.bool z1∧Below w4.heap.size w4 wx)
  case first =>
   cases bw
   ·go_wp2_with fail
    go_meet
    exact⟨by rw[HZ1.out];rfl,Below.refl _ _⟩
   ·go_wp2_with fail
    refine QU4.out.mono ?_;rintro e w5 ⟨rfl,hb5⟩;go_wp2_with fail
    go_meet
    exact⟨by rw[HZ1.out];cases qb <;> rfl,hb5⟩
  case rest =>
   obtain⟨rfl,hb5⟩:=hcut;have hb5':=HB4'.out.trans (hb5.mono HB4'.out.size);have ho5:=HO4.out.below hb5;clear p0 p1 p2 p3 p4 p5 p6 p7 p8 p9 p10 p11 p12 p13;clear hb5;have HB5':=k_ hb5';clear hb5';have HO5:=k_ ho5;clear ho5;have HLL:=k_ (show (L ++ if z1=true then [va] else []).length≤200∧((L ++ if z1=true then [va] else []) ++ if z2=true then [b] else []).length≤200 from by have:=HRL.out;constructor <;> (cases z1 <;> cases z2 <;> simp <;> omega));have HLL:=k_ (show (L ++ if z1=true then [va] else []).length≤200∧((L ++ if z1=true then [va] else []) ++ if z2=true then [b] else []).length≤200 from by have:=HRL.out;constructor <;> (cases z1 <;> cases z2 <;> simp <;> omega));obtain⟨L1,hL1⟩:∃ l,l=L ++ if z1=true then [va] else []:=⟨_,rfl⟩;obtain⟨L2,hL2⟩:∃ l,l=L1 ++ if z2=true then [b] else []:=⟨_,rfl⟩;obtain⟨L3,hL3⟩:∃ l,l=L2 ++ if z3=true then [a] else []:=⟨_,rfl⟩;have hl0:=HRL.out;have hl1:L1.length≤101:=by rw[hL1];cases z1 <;> simp <;> omega
   have hl2:L2.length≤102:=by rw[hL2];cases z2 <;> simp <;> omega
   have husd:used=L3:=by
    rw[HUS.out,hL3,hL2,hL1,HZ1.out,HZ2.out,HZ3.out,HWR.out.1,HWR.out.2]
    cases dF op <;> rfl
   have HL1:=k_ hL1;clear hL1;have HL2:=k_ hL2;clear hL2;have HL3:=k_ hL3;clear hL3;have HUSD:=k_ husd;clear husd;obtain⟨L1,hL1⟩:∃ l,l=L ++ if z1=true then [va] else []:=⟨_,rfl⟩;obtain⟨L2,hL2⟩:∃ l,l=L1 ++ if z2=true then [b] else []:=⟨_,rfl⟩;obtain⟨L3,hL3⟩:∃ l,l=L2 ++ if z3=true then [a] else []:=⟨_,rfl⟩;have hl0:=HRL.out;have hl1:L1.length≤101:=by rw[hL1];cases z1 <;> simp <;> omega
   have hl2:L2.length≤102:=by rw[hL2];cases z2 <;> simp <;> omega
   have husd:used=L3:=by
    rw[HUS.out,hL3,hL2,hL1,HZ1.out,HZ2.out,HZ3.out,HWR.out.1,HWR.out.2]
    cases dF op <;> rfl
   have HL1:=k_ hL1;clear hL1;have HL2:=k_ hL2;clear hL2;have HL3:=k_ hL3;clear hL3;have HUSD:=k_ husd;clear husd;obtain⟨L1,hL1⟩:∃ l,l=L ++ if z1=true then [va] else []:=⟨_,rfl⟩;obtain⟨L2,hL2⟩:∃ l,l=L1 ++ if z2=true then [b] else []:=⟨_,rfl⟩;obtain⟨L3,hL3⟩:∃ l,l=L2 ++ if z3=true then [a] else []:=⟨_,rfl⟩;have hl0:=HRL.out;have hl1:L1.length≤101:=by rw[hL1];cases z1 <;> simp <;> omega
   have hl2:L2.length≤102:=by rw[hL2];cases z2 <;> simp <;> omega
   have husd:used=L3:=by
    rw[HUS.out,hL3,hL2,hL1,HZ1.out,HZ2.out,HZ3.out,HWR.out.1,HWR.out.2]
    cases dF op <;> rfl
   have HL1:=k_ hL1;clear hL1;have HL2:=k_ hL2;clear hL2;have HL3:=k_ hL3;clear hL3;have HUSD:=k_ husd;clear husd;obtain⟨L1,hL1⟩:∃ l,l=L ++ if z1=true then [va] else []:=⟨_,rfl⟩;obtain⟨L2,hL2⟩:∃ l,l=L1 ++ if z2=true then [b] else []:=⟨_,rfl⟩;obtain⟨L3,hL3⟩:∃ l,l=L2 ++ if z3=true then [a] else []:=⟨_,rfl⟩;have hl0:=HRL.out;have hl1:L1.length≤101:=by rw[hL1];cases z1 <;> simp <;> omega
   have hl2:L2.length≤102:=by rw[hL2];cases z2 <;> simp <;> omega
   have husd:used=L3:=by
    rw[HUS.out,hL3,hL2,hL1,HZ1.out,HZ2.out,HZ3.out,HWR.out.1,HWR.out.2]
    cases dF op <;> rfl
   have HL1:=k_ hL1;clear hL1;have HL2:=k_ hL2;clear hL2;have HL3:=k_ hL3;clear hL3;have HUSD:=k_ husd;clear husd
   go_upto_if 59 with fail
   go_cut [6] (fun v wx=>Own aG wx W.heap.size v L1∧Below W.heap.size W wx)
   case first =>
    cases z1
    ·have e:=HL1.out
     simp only[Bool.false_eq_true,if_false,List.append_nil] at e;have HOE:=k_ (show Own aG wc W.heap.size _ L1 from e ▸ HO5.out);clear e;go_wp2_with fail
     go_meet
     exact⟨HOE.out,HB5'.out⟩
    ·have e:=HL1.out
     simp only[if_true] at e;have HE:=k_ e;clear e
     go_wp2_with (at_builtin;refine bJ aG rfl (.tmp 60) (.tmp 62) rfl W.heap.size L [va] _ rfl (HO5.out.alloc _) wc.heap.size 0 1 rfl (aA.new _ _ _ _) ?c1 ?c2 ?_)
     case c1=>first | omega | (simp;omega)
     case c2=>have:=HB5'.out.size;simp;omega
     intro v3 w3 hown3 hg3;have hbg:=below_grown (HB5'.out.alloc HB5'.out.size (.cells #[.int .i64 va] 3)) (HO5.out.alloc _) hg3 (by have:=HB5'.out.size;simp;omega) (Nat.le_refl _);rw[← HE.out] at hown3;clear hg3;have HOWN3:=k_ hown3;clear hown3;have HBG:=k_ hbg;clear hbg;go_wp2_with fail
     go_meet
     exact⟨HOWN3.out,HBG.out⟩
   case rest =>
    obtain⟨ho,hb⟩:=hcut;have HOC:=k_ ho;have HBC:=k_ hb;clear ho hb;obtain⟨p0,p1,p2,p3,p4,p5,p6,p7,p8,p9,p10,p11,p12,p13⟩:=c_14 (HQQ.out _ HBC.out)
    go_upto_region 9 with fail
    go_cut [67] (fun o wx=>o=.bool z2∧wx=wc)
    case first =>
     go_wp2_with fail
     go_meet
     exact⟨by rw[HZ2.out],rfl⟩
    case rest =>
     obtain⟨rfl,rfl⟩:=hcut
     go_upto_if 67 with fail
     go_cut [6] (fun v wx=>Own aG wx W.heap.size v L2∧Below W.heap.size W wx)
     case first =>
      cases z2
      ·have e:=HL2.out
       simp only[Bool.false_eq_true,if_false,List.append_nil] at e;have HOE:=k_ (show Own aG wc W.heap.size _ L2 from e ▸ HOC.out);clear e;go_wp2_with fail
       go_meet
       exact⟨HOE.out,HBC.out⟩
      ·have e:=HL2.out
       simp only[if_true] at e;have HE:=k_ e;clear e
       go_wp2_with (at_builtin;refine bJ aG rfl (.tmp 68) (.tmp 72) rfl W.heap.size L1 [b] _ rfl (HOC.out.alloc _) wc.heap.size 0 1 rfl (aA.new _ _ _ _) ?c1 ?c2 ?_)
       case c1=>first | omega | (simp;omega)
       case c2=>have:=HBC.out.size;simp;omega
       intro v3 w3 hown3 hg3;have hbg:=below_grown (HBC.out.alloc HBC.out.size (.cells #[.int .i64 b] 3)) (HOC.out.alloc _) hg3 (by have:=HBC.out.size;simp;omega) (Nat.le_refl _);rw[← HE.out] at hown3;clear hg3;have HOWN3:=k_ hown3;clear hown3;have HBG:=k_ hbg;clear hbg;go_wp2_with fail
       go_meet
       exact⟨HOWN3.out,HBG.out⟩
     case rest =>
      obtain⟨ho,hb⟩:=hcut;have HOC:=k_ ho;have HBC:=k_ hb;clear ho hb;clear p0 p1 p2 p3 p4 p5 p6 p7 p8 p9 p10 p11 p12 p13;obtain⟨p0,p1,p2,p3,p4,p5,p6,p7,p8,p9,p10,p11,p12,p13⟩:=c_14 (HQQ.out _ HBC.out);have QU5:=k_ (QU.out wc HBC.out)
      go_upto_region 11 with fail
      go_cut [82] (fun o wx=>o=.bool z3∧Below wc.heap.size wc wx)
      case first =>
       by_cases h22:op=22
       ·have e22:(op == 22)=true:=by simpa using h22
        clear h22;go_wp2_with fail;refine QU5.out.mono ?_;rintro e w5 ⟨rfl,hb5⟩;go_wp2_with fail
        go_meet
        exact⟨by rw[HZ3.out,e22];cases qb <;> rfl,hb5⟩
       ·have e22:(op == 22)=false:=by simpa using h22
        clear h22;go_wp2_with fail
        go_meet
        exact⟨by rw[HZ3.out,e22];rfl,Below.refl _ _⟩
      case rest =>
       obtain⟨rfl,hb5⟩:=hcut;have HOC:=k_ (HOC.out.below hb5);have HBC:=k_ (HBC.out.trans (hb5.mono HBC.out.size));clear hb5;clear p0 p1 p2 p3 p4 p5 p6 p7 p8 p9 p10 p11 p12 p13;obtain⟨p0,p1,p2,p3,p4,p5,p6,p7,p8,p9,p10,p11,p12,p13⟩:=c_14 (HQQ.out _ HBC.out)
       go_upto_if 82 with fail
       go_cut [6] (fun v wx=>Own aG wx W.heap.size v L3∧Below W.heap.size W wx)
       case first =>
        cases z3
        ·have e:=HL3.out
         simp only[Bool.false_eq_true,if_false,List.append_nil] at e;have HOE:=k_ (show Own aG wc W.heap.size _ L3 from e ▸ HOC.out);clear e;go_wp2_with fail
         go_meet
         exact⟨HOE.out,HBC.out⟩
        ·have e:=HL3.out
         simp only[if_true] at e;have HE:=k_ e;clear e
         go_wp2_with (at_builtin;refine bJ aG rfl (.tmp 83) (.tmp 87) rfl W.heap.size L2 [a] _ rfl (HOC.out.alloc _) wc.heap.size 0 1 rfl (aA.new _ _ _ _) ?c1 ?c2 ?_)
         case c1=>first | omega | (simp;omega)
         case c2=>have:=HBC.out.size;simp;omega
         intro v3 w3 hown3 hg3;have hbg:=below_grown (HBC.out.alloc HBC.out.size (.cells #[.int .i64 a] 3)) (HOC.out.alloc _) hg3 (by have:=HBC.out.size;simp;omega) (Nat.le_refl _);rw[← HE.out] at hown3;clear hg3;have HOWN3:=k_ hown3;clear hown3;have HBG:=k_ hbg;clear hbg;go_wp2_with fail
         go_meet
         exact⟨HOWN3.out,HBG.out⟩
       case rest =>
        obtain⟨ho,hb⟩:=hcut;have HOC:=k_ ho;have HBC:=k_ hb;clear ho hb;clear p0 p1 p2 p3 p4 p5 p6 p7 p8 p9 p10 p11 p12 p13;have HOC:=k_ (show Own aG wc W.heap.size _ used from HUSD.out ▸ HOC.out);obtain⟨sa,sc,rfl,hsl⟩:=bI HOC.out;have hul:used.length≤103:=by rw[HUSD.out,HL3.out];cases z3 <;> simp <;> omega
        have p5:wc.cell? ⟨w.heap.size,5,none⟩=some (.int .i64 s):=HQQ.out _ HBC.out 5 _ rfl;have wi:=fun x=>dG wc x s
        have hbf:=HC0.out.trans (HBC.out.mono HC0.out.size);have WI:=k_ wi;clear wi;have HSL:=k_ hsl;clear hsl;have HBF:=k_ hbf;clear hbf;go_wp2_with fail
        go_loopw [91] (fun i wr=>∃ k:Nat,k≤used.length∧i=.int .i64 k∧wr=wc∧(used.take k).all (au · s)=true) (fun i _=>used.length - (intOf i).toNat)
        case atStart=>exact⟨0,Nat.zero_le _,by first | rfl | trivial,by first | rfl | trivial,by first | rfl | trivial | simp⟩
        case round =>
         obtain⟨k,hk,rfl,rfl,hall⟩:=hrel
         by_cases hlt:k<used.length
         ·obtain⟨b',o',rfl,_,hx⟩:=HSL.out k hlt
          have hsn:=aK used k hlt;have hmem:=List.getElem_mem hlt;generalize used[k]=x at *;have WX:=k_ (WI.out x)
          cases hwx:au x s
          ·have hno:used.all (au · s)=false:=by
            rw[List.all_eq_false];exact⟨x,hmem,by simp[hwx]⟩
           rw[hwx] at WX;clear hmem hsn hall hwx;have HNO:=k_ hno;clear hno;go_wp2_with fail;refine WX.out.mono ?_;rintro e w9 ⟨rfl,rfl⟩;go_wp2_with fail
           go_ret
           exact⟨by rw[HNO.out,HRO.out];rfl,HBF.out⟩
          ·have hyes:(used.take (k+1)).all (au · s)=true:=by
            rw[hsn,List.all_append,hall];simp[hwx]
           rw[hwx] at WX;clear hmem hsn hall hwx;have HYES:=k_ hyes;clear hyes;go_wp2_with fail;refine WX.out.mono ?_;rintro e w9 ⟨rfl,rfl⟩;go_wp2_with fail
           go_roundw
           case rel=>exact⟨k+1,by omega,by go_num,by first | rfl | trivial,HYES.out⟩
           case measure=>simp[intOf];omega
         ·have hk':k=used.length:=by omega
          subst hk';rw[List.take_length] at hall;have HALL:=k_ hall;clear hall;go_wp2_with fail
          go_ret
          exact⟨by rw[HALL.out,HRO.out];rfl,HBF.out⟩
end Go.Proofs.YtlofbhoicbemnaaGreatDoor
