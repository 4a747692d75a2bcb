/- Walk: the reference's Lay: a program's bytes. Walk: check.code: the instructions by their places. -/
import Derived.Test.YtlofbhoicbemnaaGreatDoorGAl
set_option linter.unusedVariables false
set_option linter.unusedSimpArgs false
set_option maxRecDepth 100000
set_option maxHeartbeats 6400000
namespace Go.Proofs.YtlofbhoicbemnaaGreatDoor
open Go.ChangeShapes Go.WideShapes Go.ChangeAt Go.RowKit
def jK (l:List Int):List Int:=if dA l then jB l else []
theorem CS (l:List Int):iW l=.tuple #[.string (ah (jK l)),.bool (dA l)]:=by
 unfold iW jK
 cases dA l <;> rfl
def qI (l:List Ins):List Int:=if laid l then dR l else []
theorem DD (l:List Ins):mE l=.tuple #[.string (ah (qI l)),.bool (laid l)]:=by
 unfold mE qI
 cases laid l <;> rfl
def pG (p:Prg):Value:=.tuple #[.string (if vM p then ah (nW p) else ⟨#[]⟩),.bool (vM p)]
theorem Gx (w:World) (x:Int):(convert 30 9 (.slice (some ⟨w.heap.size,0,none⟩) 1 1)).run Tryz.prog (w.alloc (.cells #[.int .u8 x] 5))=.ok (.string (ah [x])) (w.alloc (.cells #[.int .u8 x] 5)):=by
 refine ou (P:=Tryz.prog) _ _ _ 5 _ 1 [x] Tryz.underlying30 Tryz.underlying5 Tryz.underlying9 ?_;intro j v hv
 match j,hv with
 | 0,hv=>show World.cell? _ ⟨w.heap.size,0,none⟩=_;rw[aI];exact hv
theorem Gq (w:World) (x y:Int):(convert 30 9 (.slice (some ⟨w.heap.size,0,none⟩) 2 2)).run Tryz.prog (w.alloc (.cells #[.int .u8 x,.int .u8 y] 5))=.ok (.string (ah [x,y])) (w.alloc (.cells #[.int .u8 x,.int .u8 y] 5)):=by
 refine ou (P:=Tryz.prog) _ _ _ 5 _ 2 [x,y] Tryz.underlying30 Tryz.underlying5 Tryz.underlying9 ?_;intro j v hv
 match j,hv with
 | 0,hv=>show World.cell? _ ⟨w.heap.size,0,none⟩=_;rw[aI];exact hv
 | 1,hv=>show World.cell? _ ⟨w.heap.size,1,none⟩=_;rw[aI];exact hv
theorem iP (l:List Int):(jK l).length≤256:=by
 unfold jK
 split
 ·rename_i h
  have:=(DC l h).2;unfold jB;simp;omega
 ·exact Nat.zero_le _
theorem zM {a b:List Int} (h:a.length+b.length≤1000000000):¬ 9223372036854775807<(ah a).size+(ah b).size:=by
 rw[aM,aM];omega
theorem uJ (l:List Ins):(qI l).length≤7 * l.length:=by
 unfold qI
 split
 ·rw[fZ];exact Nat.le_refl _
 ·exact Nat.zero_le _
def fnB (f:Fun):List Int:=jK f.args ++ [f.result % 256,f.slots % 256] ++ jK f.objects ++ [(f.code.length:Int) % 256] ++ qI f.code
theorem Il (f:Fun):(fnB f).length≤515+7 * f.code.length:=by
 have h1:=iP f.args;have h2:=iP f.objects;have h3:=uJ f.code;unfold fnB
 simp
 omega
theorem Jc (f:Fun) (h:jC f=true):fnB f=nT f:=by
 unfold jC at h;simp only[Bool.and_eq_true,decide_eq_true_eq] at h;obtain⟨⟨⟨⟨⟨⟨⟨h1,h2⟩,h3⟩,h4⟩,h5⟩,h6⟩,h7⟩,h8⟩:=h;unfold fnB nT jK qI;rw[if_pos h1,if_pos h2,if_pos h3,show f.result % 256=f.result by omega,show f.slots % 256=f.slots by omega,show (f.code.length:Int) % 256=f.code.length by omega]
theorem vJ (n:Nat) (h:n≤255):(n:Int) % 256=n:=by omega
theorem Cs (w:World) (D:Nat→Prop) (pr:Prg) (c0 c1 c2:Value) (hv:aD w D pr c0 c1 c2) (hbulk:bulk pr≤3000) :
  Calls Tryz.prog 16 #[.agg #[c0,c1,c2]] w fun e w'=>e=.returned (pG pr)∧Below w.heap.size w w':=by
 obtain⟨⟨a0,n0,rfl,hs0⟩,⟨a1,n1,rfl,hs1⟩,a2,n2,rfl,hs2⟩:=hv;unfold bulk at hbulk;have hbx:=kL w #[.slice a0 pr.globals.length n0,.slice a1 pr.shapes.length n1,.slice a2 pr.funcs.length n2] 48;obtain⟨W0,hW0⟩:∃ W0,W0=w.alloc (.cells #[.slice a0 pr.globals.length n0,.slice a1 pr.shapes.length n1,.slice a2 pr.funcs.length n2] 48):=⟨_,rfl⟩;rw[← hW0] at hbx;have hz0:w.heap.size+1≤W0.heap.size:=by rw[hW0];simp
 have hfr:=fun wr hb=>Fr.of_below (hbx wr hb).2.1 (fun _=>False)
 have s0:=fun wr hb=>hs0.fr (hfr wr hb) (fun _ _ h=>h)
 have s1:=fun wr hb=>hs1.fr (hfr wr hb) (fun _ _ h=>h)
 have s2:=fun wr hb=>hs2.fr (hfr wr hb) (fun _ _ h=>h)
 have l0:=fun wr hb=>oq wr D a0 pr.globals n0 (s0 wr hb) (by omega)
 have l1:=fun k (hk:k<pr.shapes.length) wr (hb:Below (w.heap.size+1) W0 wr)=>(show ∃ b o,a1=some ⟨b,o,none⟩∧∃ a' c',wr.cell? ⟨b,o+k,none⟩=some (.slice a' pr.shapes[k].length c')∧Calls Tryz.prog 49 #[.slice a' pr.shapes[k].length c'] wr fun e w'=>e=.returned (iW pr.shapes[k])∧Below wr.heap.size wr w' from by
  obtain⟨b,o,h1,h2,a',c',h3,h4⟩:=s1 wr hb k hk;have:=iL dH pr.shapes k hk;unfold dH at *;exact⟨b,o,h1,a',c',h3,oq wr D a' _ c' h4 (by omega)⟩)
 have l2:=fun k (hk:k<pr.funcs.length) wr (hb:Below (w.heap.size+1) W0 wr)=>(show ∃ b o,a2=some ⟨b,o,none⟩∧∃ x0 m0 x3 m3 x4 m4,wr.cell? ⟨b,o+k * 5,none⟩=some (.slice x0 pr.funcs[k].args.length m0)∧wr.cell? ⟨b,o+k * 5+1,none⟩=some (.int .i64 pr.funcs[k].result)∧wr.cell? ⟨b,o+k * 5+2,none⟩=some (.int .i64 pr.funcs[k].slots)∧wr.cell? ⟨b,o+k * 5+3,none⟩=some (.slice x3 pr.funcs[k].objects.length m3)∧wr.cell? ⟨b,o+k * 5+4,none⟩=some (.slice x4 pr.funcs[k].code.length m4) ∧
   (∀ W,Below wr.heap.size wr W→Calls Tryz.prog 49 #[.slice x0 pr.funcs[k].args.length m0] W fun e w'=>e=.returned (iW pr.funcs[k].args)∧Below W.heap.size W w') ∧
   (∀ W,Below wr.heap.size wr W→Calls Tryz.prog 49 #[.slice x3 pr.funcs[k].objects.length m3] W fun e w'=>e=.returned (iW pr.funcs[k].objects)∧Below W.heap.size W w') ∧
   (∀ W,Below wr.heap.size wr W→Calls Tryz.prog 50 #[.slice x4 pr.funcs[k].code.length m4] W fun e w'=>e=.returned (mE pr.funcs[k].code)∧Below W.heap.size W w') from by
  obtain⟨b,o,h1,h2,c0,c1,c2,c3,c4,q0,q1,q2,q3,q4,e1,e2,⟨x0,m0,e3,i3⟩,⟨x3,m3,e4,i4⟩,x4,m4,e5,i5⟩:=s2 wr hb k hk;subst e1 e2 e3 e4 e5;have:=iL cz pr.funcs k hk;unfold cz at *;refine⟨b,o,h1,x0,m0,x3,m3,x4,m4,q0,q1,q2,q3,q4,fun W hW=>?_,fun W hW=>?_,fun W hW=>?_⟩
  ·exact oq W D x0 _ m0 (i3.fr (fb_ hW) (fun _ _ h=>h)) (by omega)
  ·exact oq W D x3 _ m3 (i4.fr (fb_ hW) (fun _ _ h=>h)) (by omega)
  ·exact vY _ x4 m4 W (by omega) (i5.fr (fb_ hW) (fun _ _ h=>h)).plain)
 simp only[CS,DD] at l0 l1 l2;obtain⟨g0,hg0⟩:∃ g0,dA pr.globals=g0:=⟨_,rfl⟩;rw[hg0] at l0;have cv1:=Gx;have cv2:=Gq;have hb0:Below (w.heap.size+1) W0 W0:=Below.refl _ _;have HBX:=k_ hbx;clear hbx;have HW0:=k_ hW0;clear hW0;have L0:=k_ l0;clear l0;have L1:=k_ l1;clear l1;have L2:=k_ l2;clear l2;have HB0:=k_ hb0;clear hb0;clear hfr s0 s1 s2 hs0 hs1 hs2;have HZ0:=k_ hz0
 go_enter Tryz.func16,Tryz.ntmps16
 go_wp2_with fail;rw[← HW0.out];refine(L0.out _ HB0.out).mono ?_;rintro e w1 ⟨rfl,hb⟩;have hb:=HB0.out.trans (hb.mono HZ0.out);obtain⟨hx,hbw1,hz1⟩:=HBX.out _ hb;have k0:=hx 0 _ rfl;have k1:=hx 1 _ rfl;have k2:=hx 2 _ rfl;have HB1:=k_ hb;clear hb hx;have HBW1:=k_ hbw1;clear hbw1;have HZ1:=k_ hz1
 go_upto_region 2 with fail
 go_cut [5] from 17 to 35 (fun o wx=>o=.bool (okS pr 0)∧wx=w1)
 case first =>
  have h0:okS pr 0=(dA pr.globals && decide (pr.shapes.length≤255) && decide (pr.funcs.length≤255)):=by unfold okS;simp
  rw[hg0] at h0
  cases g0 <;> by_cases g1:pr.shapes.length≤255 <;> by_cases g2:pr.funcs.length≤255
  all_goals
   have g1':=g1;have g2':=g2;simp only[g1,g2,decide_true,decide_false,Bool.and_true,Bool.and_false,Bool.false_and,Bool.true_and,decide_eq_false_iff_not] at h0;go_wp2_with fail
   go_meet
   case rel =>
    refine⟨?_,rfl⟩
    first | (rw[h0];done) | (rw[h0];simp;done) | (rw[h0];simp;omega)
 case rest =>
  obtain⟨rfl,hw⟩:=hcut;subst hw;have hc0:=zM (a:=jK pr.globals) (b:=[(pr.shapes.length:Int) % 256]) (by have:=iP pr.globals;simp;omega)
  go_upto_block 0 with fail
  clear hc0
  go_cut [4,5] (fun s o wx=>∃ (l:List Int) (ok:Bool),s=.string (ah l)∧o=.bool ok∧ok=okS pr pr.shapes.length∧(ok=true→l=xe pr pr.shapes.length)∧l.length≤1000000∧Below (w.heap.size+1) W0 wx)
  case first =>
   go_wp2_with fail
   go_loopw [4,5,6] (fun s o i wr=>∃ (k:Nat) (l:List Int) (ok:Bool),k≤pr.shapes.length∧i=.int .i64 k∧s=.string (ah l)∧o=.bool ok∧ok=okS pr k∧(ok=true→l=xe pr k)∧l.length≤300+256 * k∧Below (w.heap.size+1) W0 wr) (fun _ _ i _=>pr.shapes.length - (intOf i).toNat)
   case atStart =>
    refine⟨0,jK pr.globals ++ [(pr.shapes.length:Int) % 256],okS pr 0,Nat.zero_le _,rfl,by rw[jy],rfl,rfl,fun h=>?_,by have:=iP pr.globals;simp;omega,HB1.out.alloc hz1 _⟩;have h2:=h;unfold okS at h2;simp only[Bool.and_eq_true,decide_eq_true_eq] at h2;unfold xe jK;rw[if_pos h2.1.1.1,vJ _ h2.1.1.2]
    simp
   case round =>
    obtain⟨k,l,ok,hk,rfl,rfl,rfl,hok,hl,hll,hb⟩:=hrel;obtain⟨hx,hbw2,hz2⟩:=HBX.out _ hb;have k0:=hx 0 _ rfl;have k1:=hx 1 _ rfl;have k2:=hx 2 _ rfl;clear hx
    by_cases hlt:k<pr.shapes.length
    ·cases ok
     ·have hd:=Ey pr k _ hk hok.symm
      clear hl hok;have HD:=k_ hd;clear hd;have HB:=k_ hb;clear hb;have HBW2:=k_ hbw2;clear hbw2;go_wp2_with fail
      go_meet
      case rel=>exact⟨l,false,rfl,rfl,HD.out.symm,(fun h=>by cases h),by omega,HB.out⟩
     ·obtain⟨b,o,rfl,a',c',hq,hcall⟩:=L1.out k hlt _ hb
      replace hl:=hl rfl;have hsn:=EI pr k hlt;have hss:=Dv pr k hlt;have hlb:dA pr.shapes[k]=true→jK pr.shapes[k]=jB pr.shapes[k]:=fun h=>by unfold jK;rw[if_pos h]
      generalize dA pr.shapes[k]=g at *;have hc1:=zM (a:=l) (b:=jK pr.shapes[k]) (by have:=iP pr.shapes[k];omega);have hl2:=iP pr.shapes[k];have HCALL:=k_ hcall;clear hcall;have HB:=k_ hb;clear hb;have HBW2:=k_ hbw2;clear hbw2;have HOK:=k_ hok;clear hok;have HL:=k_ hl;clear hl;have HSN:=k_ hsn;clear hsn;have HSS:=k_ hss;clear hss;have HLB:=k_ hlb;clear hlb;have HL2:=k_ hl2;clear hl2;go_wp2_with fail;refine HCALL.out.mono ?_;rintro e w4 ⟨rfl,hb4⟩;have hb4:=HB.out.trans (hb4.mono hz2);have HB4:=k_ hb4;clear hb4;clear hq k0 k1 k2;go_wp2_with fail
      go_roundw
      case rel =>
       refine⟨k+1,l ++ jK pr.shapes[k],g,by omega,by go_num,by rw[jy],rfl,?_,fun h=>?_,?_,HB4.out⟩
       ·rw[HSN.out,← HOK.out];rfl
       ·rw[HSS.out,HLB.out h,HL.out]
       ·have:=HL2.out;simp;omega
      case measure=>simp[intOf];omega
    ·have hk':k=pr.shapes.length:=by omega
     subst hk';have HOK:=k_ hok;clear hok;have HL:=k_ hl;clear hl;have HB:=k_ hb;clear hb;have HBW2:=k_ hbw2;clear hbw2;go_wp2_with fail
     go_meet
     case rel=>exact⟨l,ok,rfl,rfl,HOK.out,HL.out,by omega,HB.out⟩
  case rest =>
   obtain⟨l,ok,rfl,rfl,hok,hl,hll,hb⟩:=hcut;obtain⟨hx,hbw2,hz2⟩:=HBX.out _ hb;have k0:=hx 0 _ rfl;have k1:=hx 1 _ rfl;have k2:=hx 2 _ rfl;clear hx;have HOK:=k_ hok;clear hok;have HL:=k_ hl;clear hl;have HB:=k_ hb;clear hb;have HBW2:=k_ hbw2;clear hbw2;have hc2:=zM (a:=l) (b:=[(pr.funcs.length:Int) % 256]) (by simp;omega)
   go_upto_block 2 with fail
   clear hc2
   go_cut [4,5] (fun s o wx=>∃ (l:List Int) (ok:Bool),s=.string (ah l)∧o=.bool ok∧ok=pY pr pr.funcs.length∧(ok=true→l=yF pr pr.funcs.length)∧Below (w.heap.size+1) W0 wx)
   case first =>
    go_wp2_with fail
    go_loopw [4,5,9] (fun s o i wr=>∃ (k:Nat) (l:List Int) (ok:Bool),k≤pr.funcs.length∧i=.int .i64 k∧s=.string (ah l)∧o=.bool ok∧ok=pY pr k∧(ok=true→l=yF pr k)∧l.length≤2000000+30000 * k∧Below (w.heap.size+1) W0 wr) (fun _ _ i _=>pr.funcs.length - (intOf i).toNat)
    case atStart =>
     refine⟨0,l ++ [(pr.funcs.length:Int) % 256],ok,Nat.zero_le _,rfl,by rw[jy],rfl,by rw[HOK.out,Ce],fun h=>?_,by simp;omega,HB.out.alloc hz2 _⟩;have h2:=HOK.out.symm.trans h;unfold okS at h2;simp only[Bool.and_eq_true,decide_eq_true_eq] at h2;rw[HL.out h,vJ _ h2.1.2];unfold yF
     simp
    case round =>
     obtain⟨k,l',ok',hk,rfl,rfl,rfl,hok',hl',hll',hb'⟩:=hrel;obtain⟨hx,hbw3,hz3⟩:=HBX.out _ hb';have k0:=hx 0 _ rfl;have k1:=hx 1 _ rfl;have k2:=hx 2 _ rfl;clear hx
     by_cases hlt:k<pr.funcs.length
     ·cases ok'
      ·have hd:=CX pr k _ hk hok'.symm
       clear hl' hok';have HD:=k_ hd;clear hd;have HB':=k_ hb';clear hb';have HBW3:=k_ hbw3;clear hbw3;go_wp2_with fail
       go_meet
       case rel=>exact⟨l',false,rfl,rfl,HD.out.symm,(fun h=>by cases h),HB'.out⟩
      ·obtain⟨b,o,rfl,x0,m0,x3,m3,x4,m4,q0,q1,q2,q3,q4,ca,co,cc⟩:=L2.out k hlt _ hb'
       replace hl':=hl' rfl;have hsn:=BD pr k hlt;have hss:=BB pr k hlt;have hfl:=iL cz pr.funcs k hlt;generalize pr.funcs[k]=f at *;have hfb:cz f=f.args.length+f.objects.length+f.code.length:=rfl;have hbf:=hfl;obtain⟨g1,hg1⟩:∃ g,dA f.args=g:=⟨_,rfl⟩;obtain⟨g2,hg2⟩:∃ g,dA f.objects=g:=⟨_,rfl⟩;obtain⟨g3,hg3⟩:∃ g,laid f.code=g:=⟨_,rfl⟩;have h0:jC f=(g1 && g2 && g3 && decide (0≤f.result) && decide (f.result≤255) && decide (0≤f.slots) && decide (f.slots≤255) && decide (f.code.length≤255)):=by unfold jC;rw[hg1,hg2,hg3]
       simp only[hg1,hg2,hg3] at ca co cc;have hby:=kL wr #[.slice x0 f.args.length m0,.int .i64 f.result,.int .i64 f.slots,.slice x3 f.objects.length m3,.slice x4 f.code.length m4] 66;obtain⟨WA,hWA⟩:∃ WA,WA=wr.alloc (.cells #[.slice x0 f.args.length m0,.int .i64 f.result,.int .i64 f.slots,.slice x3 f.objects.length m3,.slice x4 f.code.length m4] 66):=⟨_,rfl⟩;rw[← hWA] at hby;have fz0:wr.heap.size+1≤WA.heap.size:=by rw[hWA];simp
       have fb0:Below (wr.heap.size+1) WA WA:=Below.refl _ _;obtain⟨hx,fbw0,_⟩:=hby _ fb0;have j0:=hx 0 _ rfl;have j1:=hx 1 _ rfl;have j2:=hx 2 _ rfl;have j3:=hx 3 _ rfl;have j4:=hx 4 _ rfl;clear hx;clear hg1 hg2 hg3;have CA:=k_ ca;clear ca;have CO:=k_ co;clear co;have CC:=k_ cc;clear cc;have HB':=k_ hb';clear hb';have HBW3:=k_ hbw3;clear hbw3;have HOK':=k_ hok';clear hok';have HL':=k_ hl';clear hl';have HSN:=k_ hsn;clear hsn;have HSS:=k_ hss;clear hss;have HBY:=k_ hby;clear hby;have FB0:=k_ fb0;clear fb0;have FBW0:=k_ fbw0;clear fbw0;have HWA:=k_ hWA;clear hWA;have H0:=k_ h0;clear h0;have FZ0:=k_ fz0
       go_upto_region 14 with fail
       rw[← HWA.out];go_wp2_with fail;clear q0 q1 q2 q3 q4 k0 k1 k2;refine(CA.out _ FBW0.out).mono ?_;rintro e w1 ⟨rfl,hb⟩;have hb:=FB0.out.trans (hb.mono FZ0.out);obtain⟨hx,fbw1,fz1⟩:=HBY.out _ hb;clear j0 j1 j2 j3 j4;have j0:=hx 0 _ rfl;have j1:=hx 1 _ rfl;have j2:=hx 2 _ rfl;have j3:=hx 3 _ rfl;have j4:=hx 4 _ rfl;have FB1:=k_ hb;clear hb hx;have FBW1:=k_ fbw1;clear fbw1;have FZ1:=k_ fz1;go_wp2_with fail;refine(CO.out _ FBW1.out).mono ?_;rintro e w2 ⟨rfl,hb⟩;have hb:=FB1.out.trans (hb.mono FZ1.out);obtain⟨hx,fbw2,fz2⟩:=HBY.out _ hb;clear j0 j1 j2 j3 j4;have j0:=hx 0 _ rfl;have j1:=hx 1 _ rfl;have j2:=hx 2 _ rfl;have j3:=hx 3 _ rfl;have j4:=hx 4 _ rfl;have FB2:=k_ hb;clear hb hx;have FBW2:=k_ fbw2;clear fbw2;have FZ2:=k_ fz2;go_wp2_with fail;refine(CC.out _ FBW2.out).mono ?_;rintro e w3 ⟨rfl,hb⟩;have hb:=FB2.out.trans (hb.mono FZ2.out);obtain⟨hx,fbw3,fz3⟩:=HBY.out _ hb;clear j0 j1 j2 j3 j4;have j0:=hx 0 _ rfl;have j1:=hx 1 _ rfl;have j2:=hx 2 _ rfl;have j3:=hx 3 _ rfl;have j4:=hx 4 _ rfl;have FB3:=k_ hb;clear hb hx;have FBW3:=k_ fbw3;clear fbw3;have FZ3:=k_ fz3
       go_upto_region 17 with fail
       go_cut [5] from 91 to 141 (fun o wx=>o=.bool (jC f)∧wx=w3)
       case first =>
        cases g1 <;> cases g2 <;> cases g3
        all_goals
         go_wp2_with fail
        all_goals
         go_meet
         case rel =>
          refine⟨?_,rfl⟩;rw[H0.out]
          first | (simp;done) | (simp[*];done) | (simp[*];omega) | (simp;omega)
       case rest =>
        obtain⟨rfl,hw⟩:=hcut;subst hw;have hcl:(qI f.code).length≤21000:=by have:=uJ f.code;omega
        have hca:=iP f.args;have hco:=iP f.objects;have hlk:l'.length≤100000000:=by omega
        have hc1:¬ 9223372036854775807<(ah l').size+(ah (jK f.args)).size:=by simp only[aM];omega
        have hc2:¬ 9223372036854775807<(ah l' ++ ah (jK f.args)).size+(ah [f.result % 256,f.slots % 256]).size:=by simp only[ByteArray.size_append,aM];simp;omega
        have hc3:¬ 9223372036854775807<(ah l' ++ ah (jK f.args) ++ ah [f.result % 256,f.slots % 256]).size+(ah (jK f.objects)).size:=by simp only[ByteArray.size_append,aM];simp;omega
        have hc4:¬ 9223372036854775807<(ah l' ++ ah (jK f.args) ++ ah [f.result % 256,f.slots % 256] ++ ah (jK f.objects)).size+(ah [(f.code.length:Int) % 256]).size:=by simp only[ByteArray.size_append,aM];simp;omega
        have hc5:¬ 9223372036854775807<(ah l' ++ ah (jK f.args) ++ ah [f.result % 256,f.slots % 256] ++ ah (jK f.objects) ++ ah [(f.code.length:Int) % 256]).size+(ah (qI f.code)).size:=by simp only[ByteArray.size_append,aM];simp;omega
        clear hca hco hcl;have nn:=World.new_ne _ _ j4;have nn2:=nn.symm
        dsimp only at nn nn2
        have nl:wr.heap.size<wc.heap.size:=World.block_lt j4;have cv1b:=cv1 (wc.alloc (.cells #[.int .u8 (f.result % 256),.int .u8 (f.slots % 256)] 5)) ((f.code.length:Int) % 256);rw[show (wc.alloc (.cells #[.int .u8 (f.result % 256),.int .u8 (f.slots % 256)] 5)).heap.size=wc.heap.size+1 from by simp] at cv1b;have j4a:=fun (o:Obj)=>(aY wc o (p:=⟨wr.heap.size,4,none⟩) nl).trans j4
        go_wp2_with fail
        go_roundw
        case rel =>
         have hbe:=HB'.out.trans (FBW3.out.mono hz3);have hbz:w.heap.size+1≤wc.heap.size:=by omega
         refine⟨k+1,l' ++ fnB f,jC f,by omega,by go_num,by simp only[jy,fnB,List.append_assoc],rfl,?_,fun h=>?_,?_,(hbe.alloc hbz _).alloc (by simp;omega) _⟩
         ·rw[HSN.out,← HOK'.out];rfl
         ·rw[HSS.out,Jc f h,HL'.out]
         ·have h1:=Il f
          simp
          omega
        case measure=>simp[intOf];omega
     ·have hk':k=pr.funcs.length:=by omega
      subst hk';have HOK':=k_ hok';clear hok';have HL':=k_ hl';clear hl';have HB':=k_ hb';clear hb';have HBW3:=k_ hbw3;clear hbw3;go_wp2_with fail
      go_meet
      case rel=>exact⟨l',ok',rfl,rfl,HOK'.out,HL'.out,HB'.out⟩
   case rest =>
    obtain⟨l',ok',rfl,rfl,hok',hl',hb'⟩:=hcut;have hbw3:=(HBX.out _ hb').2.1;have hres:pG pr=.tuple #[.string (if ok' then ah (nW pr) else ⟨#[]⟩),.bool ok']:=by
     unfold pG vM;rw[← hok']
    rw[Fz] at hl'
    cases ok'
    ·clear hl' hok'
     have HBW3:=k_ hbw3;clear hbw3;have HRES:=k_ hres;clear hres;go_wp2_with fail
     go_ret2
     exact⟨by rw[HRES.out];rfl,HBW3.out⟩
    ·replace hl':=hl' rfl
     subst hl';clear hok';have HBW3:=k_ hbw3;clear hbw3;have HRES:=k_ hres;clear hres;go_wp2_with fail
     go_ret2
     exact⟨by rw[HRES.out];rfl,HBW3.out⟩
open Go.Maps
abbrev Pl:={ x:Int × Int // aJ x.1∧aJ x.2 }
def cF (fn:Int) (C:List Ins) (k:Nat) (x:Pl):Option Ins:=if x.1.1=fn∧0≤x.1.2∧x.1.2<k then C[x.1.2.toNat]? else none
def codeOf (p:Prg) (fn:Int):List Ins:=if au fn p.funcs.length=true then ((p.funcs[fn.toNat]?).map Fun.code).getD [] else []
theorem Ii (fn:Int) (C:List Ins) (x:Pl):(none:Option Ins)=cF fn C 0 x:=by
 unfold cF;rw[if_neg (by omega)]
theorem IV (fn:Int) (C:List Ins) (k:Nat) (hk:k<C.length) (h:aJ fn∧aJ (k:Int)) (x:Pl):upd (cF fn C k) ⟨(fn,(k:Int)),h⟩ (some C[k]) x=cF fn C (k+1) x:=by
 unfold upd
 by_cases he:x=⟨(fn,(k:Int)),h⟩
 ·rw[if_pos he,he]
  unfold cF;rw[if_pos ⟨rfl,by simp,by show (k:Int)<((k+1:Nat):Int);omega⟩]
  simp[hk]
 ·rw[if_neg he]
  unfold cF
  by_cases h2:x.1.1=fn∧0≤x.1.2∧x.1.2<k
  ·rw[if_pos h2,if_pos ⟨h2.1,h2.2.1,by omega⟩]
  ·rw[if_neg h2,if_neg]
   rintro⟨h3,h4,h5⟩
   by_cases h6:x.1.2=k
   ·apply he
    obtain⟨⟨x1,x2⟩,hx⟩:=x
    simp at h3 h6
    subst h3 h6
    rfl
   ·exact h2 ⟨h3,h4,by omega⟩
def wm (i:Ins):Value:=.agg #[.int .i64 i.op,.int .i64 i.a,.int .i64 i.b,.int .i64 i.c]
def kE (w:World) (b m:Nat) (f:Pl→Option Ins):Prop:=bf plK wm w b m f
def tK (p:Prg) (fn:Int) (w:World) (e:Ending) (w':World):Prop :=
 ∃ b m,e=.returned (.map (some b))∧kE w' b m (cF fn (codeOf p fn) (codeOf p fn).length)∧w.heap.size≤b∧Below w.heap.size w w'
theorem Fq (w:World) (D:Nat→Prop) (p:Prg) (c0 c1 c2:Value) (fn:Int) (hD:∀ k,D k→k<w.heap.size) (hv:aD w D p c0 c1 c2) (hfn:aJ fn) (hln:(codeOf p fn).length≤3000) :
  Calls Tryz.prog 291 #[.agg #[c0,c1,c2],.int .i64 fn] w (tK p fn w):=by
 obtain⟨⟨a0,m0,rfl,_⟩,⟨a1,m1,rfl,_⟩,a2,m2,rfl,hfs⟩:=hv;have hb0:=((Below.refl w.heap.size w).alloc (Nat.le_refl _) (.cells #[.slice a0 p.globals.length m0,.slice a1 p.shapes.length m1,.slice a2 p.funcs.length m2] 48));have hmk:kE ((w.alloc (.cells #[.slice a0 p.globals.length m0,.slice a1 p.shapes.length m1,.slice a2 p.funcs.length m2] 48)).alloc (.map #[] 0)) (w.alloc (.cells #[.slice a0 p.globals.length m0,.slice a1 p.shapes.length m1,.slice a2 p.funcs.length m2] 48)).heap.size 0 (fun _=>none):=bf.made plK _ _;have hz1:(w.alloc (.cells #[.slice a0 p.globals.length m0,.slice a1 p.shapes.length m1,.slice a2 p.funcs.length m2] 48)).heap.size=w.heap.size+1:=by simp
 rw[hz1] at hmk;have hb1:=hb0.alloc (by simp) (.map #[] 0);have hmake:∀ w,(Instr.makeMap 357 none).run Tryz.prog w=.ok (.map (some w.heap.size)) (w.alloc (.map #[] 0)):=fun w=>run_makeMap _ w
 have ht:Tryz.prog.underlying 357=some (.map plK.k 63):=Tryz.underlying357;have q2:((w.alloc (.cells #[.slice a0 p.globals.length m0,.slice a1 p.shapes.length m1,.slice a2 p.funcs.length m2] 48)).alloc (.map #[] 0)).cell? ⟨w.heap.size,2,none⟩=some (.slice a2 p.funcs.length m2):=by
  rw[aY _ _ (by simp),aI];rfl
 obtain⟨W,hW⟩:∃ W,W=(w.alloc (.cells #[.slice a0 p.globals.length m0,.slice a1 p.shapes.length m1,.slice a2 p.funcs.length m2] 48)).alloc (.map #[] 0):=⟨_,rfl⟩;rw[← hW] at hmk hb1 q2;have hfs:=hfs.fr (fb_ hb1) (fun _ _ h=>h);have hm0:kE W (w.heap.size+1) 0 (cF fn (codeOf p fn) 0):=hmk.congr (fun a _=>Ii fn (codeOf p fn) a);have HW:=k_ hW;clear hW hb0 hz1 hmk
 by_cases hin:au fn p.funcs.length=true
 case neg =>
  have hc:codeOf p fn=[]:=by unfold codeOf;rw[if_neg hin]
  have hP:tK p fn w (.returned (.map (some (w.heap.size+1)))) W:=by
   refine⟨_,0,rfl,?_,by omega,hb1⟩;rw[hc] at hm0 ⊢;exact hm0
  clear hm0 hc hfs hb1;have HP:=k_ hP;clear hP
  by_cases h0:0≤fn
  ·have h1:¬ fn<p.funcs.length:=fun h=>hin (by simp[au];omega)
   clear hin
   go_enter Tryz.func291,Tryz.ntmps291
   go_upto_region 2 with fail
   rw[← HW.out];go_wp2_with fail
   go_ret
   exact HP.out
  ·clear hin
   go_enter Tryz.func291,Tryz.ntmps291
   go_upto_region 2 with fail
   rw[← HW.out];go_wp2_with fail
   go_ret
   exact HP.out
 obtain⟨j,rfl,hj⟩:∃ j:Nat,fn=j∧j<p.funcs.length:=by
  simp[au] at hin
  exact⟨fn.toNat,by omega,by omega⟩
 have hc:codeOf p (j:Int)=p.funcs[j].code:=by unfold codeOf;rw[if_pos hin];simp[hj]
 obtain⟨b,o,rfl,_,y0,y1,y2,y3,y4,g0,g1,g2,g3,g4,hfv⟩:=hfs j hj;obtain⟨_,_,_,_,e0,e1,rfl,hsc⟩:=hfv;rw[hc] at hln hm0;unfold tK;rw[hc];clear hc hfs hin g0 g1 g2 g3;generalize p.funcs[j].code=C at *;have hj1:(j:Int)<p.funcs.length:=by omega
 have HM0:=k_ hm0;clear hm0;have HSC:=k_ hsc;clear hsc;have HT:=k_ ht;clear ht;have HB1:=k_ hb1;clear hb1;have HD:=k_ hD;clear hD
 go_enter Tryz.func291,Tryz.ntmps291
 go_upto_region 2 with fail
 rw[← HW.out];go_wp2_with fail
 go_loopw [25] (fun i wr=>∃ k m:Nat,k≤C.length∧i=.int .i64 k∧kE wr (w.heap.size+1) m (cF j C k)∧m≤k∧Fr (fun q=>q=w.heap.size+1) W wr) (fun i _=>C.length - (intOf i).toNat)
 case atStart=>exact⟨0,0,Nat.zero_le _,rfl,HM0.out,Nat.le_refl _,Fr.refl _ _⟩
 case round =>
  obtain⟨k,m,hk,rfl,hm,hmk,hf⟩:=hrel
  by_cases hlt:k<C.length
  ·obtain⟨b',o',rfl,_,x0,x1,x2,x3⟩:=(HSC.out.fr hf (fun q hq e=>by have:=HD.out q hq;omega)) k hlt
   have hcs:=fun h=>IV j C k hlt h
   have hk64:aJ (k:Int):=⟨by omega,by omega⟩;generalize C[k]=x at *;have hbs:=(Below.refl wr.heap.size wr).alloc (Nat.le_refl _) (.cells #[.int .i64 x.op,.int .i64 x.a,.int .i64 x.b,.int .i64 x.c] 63);have hly:=ai wr (.cells #[.int .i64 x.op,.int .i64 x.a,.int .i64 x.b,.int .i64 x.c] 63);have hmS:=hm.below hbs;obtain⟨y,hy⟩:∃ y,y=wr.heap.size:=⟨_,rfl⟩;obtain⟨wS,hwS⟩:∃ wS,wS=wr.alloc (.cells #[.int .i64 x.op,.int .i64 x.a,.int .i64 x.b,.int .i64 x.c] 63):=⟨_,rfl⟩;rw[← hwS] at hbs hmS;rw[← hwS,← hy] at hly;have z0:=(aa hly 0).1;have z1:=(aa hly 1).1;have z2:=(aa hly 2).1;have z3:=(aa hly 3).1;have z0:wS.cell? ⟨y,0,none⟩=some (.int .i64 x.op):=z0;have z1:wS.cell? ⟨y,1,none⟩=some (.int .i64 x.a):=z1;have z2:wS.cell? ⟨y,2,none⟩=some (.int .i64 x.b):=z2;have z3:wS.cell? ⟨y,3,none⟩=some (.int .i64 x.c):=z3;have hfS:=hf.trans (Fr.of_below hbs (fun q=>q=w.heap.size+1)) (fun _ _ h=>h);have HWS:=k_ hwS;have HY:=k_ hy;clear hwS hy hly hm hf hbs;have HMS:=k_ hmS;clear hmS;have HFS:=k_ hfS;clear hfS;have HCS:=k_ hcs;clear hcs
   go_upto_region 6 with fail
   rw[← HWS.out,← HY.out];clear x0 x1 x2 x3
   go_wp2_with (refine gU rfl (.tmp 30) (.tmp 33) (.tmp 34) 357 63 rfl HMS.out HT.out (by unfold maxLen;omega) ⟨((j:Int),(k:Int)),hfn,hk64⟩ trivial x rfl rfl rfl ?_;intro w1 hm1 ht1)
   have hm3:kE w1 (w.heap.size+1) _ (cF j C (k+1)):=hm1.congr (fun a _=>HCS.out ⟨hfn,hk64⟩ a);have hn3:(if (cF j C k ⟨((j:Int),(k:Int)),hfn,hk64⟩).isSome then m else m+1)≤k+1:=by split <;> omega
   have hf3:=HFS.out.trans (bi ht1) (fun _ _ h=>h);clear hm1 ht1;have HM3:=k_ hm3;clear hm3;have HN3:=k_ hn3;clear hn3;have HF3:=k_ hf3;clear hf3;go_wp2_with fail
   go_roundw
   case rel=>exact⟨k+1,_,by omega,by go_num,HM3.out,HN3.out,HF3.out⟩
   case measure=>simp[intOf];omega
  ·have hk':k=C.length:=by omega
   subst hk';have hbf:Below w.heap.size w wr:=HB1.out.trans (hf.below HB1.out.size (fun q hq=>by omega));have HM:=k_ hm;clear hm;have HBF:=k_ hbf;clear hbf;clear hf;go_wp2_with fail
   go_ret
   exact⟨_,_,rfl,HM.out,by omega,HBF.out⟩
end Go.Proofs.YtlofbhoicbemnaaGreatDoor
