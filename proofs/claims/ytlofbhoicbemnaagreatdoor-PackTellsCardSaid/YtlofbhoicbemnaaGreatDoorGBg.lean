/- Walk: check.Program. -/
import Derived.Test.YtlofbhoicbemnaaGreatDoorGBe
set_option linter.unusedVariables false
set_option linter.unusedSimpArgs false
set_option maxRecDepth 100000
set_option maxHeartbeats 3200000
namespace Go.Proofs.YtlofbhoicbemnaaGreatDoor
open Go.ChangeShapes Go.WideShapes Go.ChangeAt Go.RowKit Go.Maps
def oL (p:Prg) (w:World) (e:Ending) (w':World):Prop :=
 e=.returned (.tuple #[.int .i64 (gu p).1,.agg #[.int .i64 (gu p).2.1,.int .i64 (gu p).2.2]])∧Below w.heap.size w w'
theorem mq {p:Prg} {E a b:Int} {x y:Nat} {w w':World} (h:gu p=(E,x,y)) (hx:a=x) (hy:b=y) (hb:Below w.heap.size w w'):oL p w (.returned (.tuple #[.int .i64 E,.agg #[.int .i64 a,.int .i64 b]])) w':=by
 unfold oL;rw[h,hx,hy];exact⟨rfl,hb⟩
theorem yt {p:Prg} (h:iC p≠0):gu p=(iC p,0,0):=by unfold gu;rw[if_pos h]
theorem Df {p:Prg} (h:iC p=0) (k:Nat) (hk:k<p.funcs.length) (hp:∀ q:Nat,q<k→(dU p (q:Int)).1=0) (hne:(dU p k).1≠0):gu p=((dU p k).1,k,(dU p k).2):=by
 unfold gu;rw[if_neg (by simpa using h),mf (f:=fun i:Nat=>(dU p i).1) (k:=k) hk hp hne];simp only;rw[if_neg hne]
theorem ED {p:Prg} (h:iC p=0) (hp:∀ q:Nat,q<p.funcs.length→(dU p (q:Int)).1=0):gu p=(0,0,0):=by
 unfold gu;rw[if_neg (by simpa using h),jd (f:=fun i:Nat=>(dU p i).1) hp]
 rfl
theorem Ch (w:World) (D:Nat→Prop) (hD:∀ k,D k→k<w.heap.size) (p:Prg) (c0 c1 c2:Value) (hv:aD w D p c0 c1 c2) (hp:pM p) (hq:qP p) :
  Calls Tryz.prog 112 #[.agg #[c0,c1,c2]] w (oL p w):=by
 have hPP:∀ wr,Below w.heap.size w wr→aD wr D p c0 c1 c2:=fun wr hb=>hv.fr (fb_ hb) (fun _ _ h=>h)
 obtain⟨⟨a0,m0,rfl,_⟩,⟨a1,m1,rfl,_⟩,a2,m2,rfl,_⟩:=hv;have hbx:=fun wr h=>nz w #[.slice a0 p.globals.length m0,.slice a1 p.shapes.length m1,.slice a2 p.funcs.length m2] #[.int .i64 0,.int .i64 0] 48 147 wr h
 have hz0:((w.alloc (.cells #[.slice a0 p.globals.length m0,.slice a1 p.shapes.length m1,.slice a2 p.funcs.length m2] 48)).alloc (.cells #[.int .i64 0,.int .i64 0] 147)).heap.size=w.heap.size+2:=by simp
 have hpl:=ai (w.alloc (.cells #[.slice a0 p.globals.length m0,.slice a1 p.shapes.length m1,.slice a2 p.funcs.length m2] 48)) (.cells #[.int .i64 0,.int .i64 0] 147);rw[show (w.alloc (.cells #[.slice a0 p.globals.length m0,.slice a1 p.shapes.length m1,.slice a2 p.funcs.length m2] 48)).heap.size=w.heap.size+1 from by simp] at hpl;obtain⟨W,hW⟩:∃ W,W=(w.alloc (.cells #[.slice a0 p.globals.length m0,.slice a1 p.shapes.length m1,.slice a2 p.funcs.length m2] 48)).alloc (.cells #[.int .i64 0,.int .i64 0] 147):=⟨_,rfl⟩;rw[← hW] at hbx hz0 hpl;have hs:∀ wr,Below W.heap.size W wr→wr.cell? ⟨w.heap.size,0,none⟩=some (.slice a0 p.globals.length m0)∧wr.cell? ⟨w.heap.size,1,none⟩=some (.slice a1 p.shapes.length m1)∧wr.cell? ⟨w.heap.size,2,none⟩=some (.slice a2 p.funcs.length m2)∧wr.heap[w.heap.size+1]?=some (.cells #[.int .i64 0,.int .i64 0] 147):=fun wr h=>by
  have hpl2:=(fb_ h).heap hpl (fun h=>h);rw[hz0] at h;have hb:=hbx wr h;exact⟨hb.1 0 _ rfl,hb.1 1 _ rfl,hb.1 2 _ rfl,hpl2⟩
 have hbw:∀ wr,Below W.heap.size W wr→Below w.heap.size w wr:=fun wr h=>by rw[hz0] at h;exact(hbx wr h).2.2.1
 have hw0:=Below.refl W.heap.size W;have wh:=Ai W D (fun k hk=>Nat.lt_of_lt_of_le (hD k hk) (hbw W hw0).size) p _ _ _ (hPP W (hbw W hw0)) hp hq;have fu:=fun wr (h:Below W.heap.size W wr) (k:Nat)=>BQ wr D (fun q hq=>Nat.lt_of_lt_of_le (hD q hq) (hbw wr h).size) p _ _ _ (hPP wr (hbw wr h)) hp hq k
 have HW:=k_ hW;have hfl:=hq.2.2.1;have hzw:w.heap.size+1<W.heap.size:=by omega
 clear hW hbx hz0 hpl hPP hp hq hD;have wnz:=@yt p;have wzh:=@Df p;have wzo:=@ED p;generalize iC p=we at *;have WNZ:=k_ wnz;clear wnz;have WZH:=k_ wzh;clear wzh;have WZO:=k_ wzo;clear wzo;obtain⟨k0,k1,k2,k3⟩:=hs W hw0;have HZW:=k_ hzw;clear hzw;have HS:=k_ hs;clear hs;have HBW:=k_ hbw;clear hbw;have HW0:=k_ hw0;clear hw0;have WH:=k_ wh;clear wh;have FU:=k_ fu;clear fu
 go_enter Tryz.func112,Tryz.ntmps112
 go_upto_region 1 with fail
 rw[← HW.out];go_wp2_with fail;refine WH.out.mono ?_;rintro e w1 ⟨rfl,hb1⟩;have hbz:=HBW.out w1 hb1;clear k0 k1 k2 k3;obtain⟨k0,k1,k2,k3⟩:=HS.out w1 hb1
 by_cases hwe:we=0
 case neg =>
  have hwe1:(we != 0)=true:=by simpa using hwe
  have hr:=ag (ag k3 0 (.int .i64 0)) 1 (.int .i64 0);have hf:Fr (fun q=>q=w.heap.size+1) w1 _:=((Fr.refl (fun q=>q=w.heap.size+1) w1).setCell (p:=⟨w.heap.size+1,0,none⟩) (fun _=>rfl) (.int .i64 0)).setCell (p:=⟨w.heap.size+1,1,none⟩) (fun _=>rfl) (.int .i64 0);have hb:=hbz.trans (hf.below hbz.size (fun k hk=>by omega));obtain⟨_,_,f0,f1⟩:=aN k3;have hP:=mq (WNZ.out hwe) rfl rfl hb;clear k3 hbz hwe hb1;have HR:=k_ hr;clear hr;have HP:=k_ hP;clear hP;clear hf hb
  go_wp2_with (with_reducible refine bodyPost_ret ?_ rfl HP.out;obtain⟨k0,k1,_⟩:=aN HR.out;simp[results,Tryz.results112,go_sem,k0,k1])
  all_goals (try trivial)
 subst hwe;have qWZH:=WZH.out rfl;clear WZH;have WZH:=k_ qWZH;clear qWZH;have qWZO:=WZO.out rfl;clear WZO;have WZO:=k_ qWZO;clear qWZO;have HB1:=k_ hb1;clear k3 hbz hb1;go_wp2_with fail
 go_loopw [17] (fun i wr=>∃ k:Nat,k≤p.funcs.length∧i=.int .i64 k∧Below W.heap.size W wr∧∀ q:Nat,q<k→(dU p (q:Int)).1=0) (fun i _=>p.funcs.length - (intOf i).toNat)
 case atStart=>exact⟨0,Nat.zero_le _,rfl,HB1.out,fun q hq=>absurd hq (by omega)⟩
 case round =>
  clear k0 k1 k2;obtain⟨k,hk,rfl,hR,hall⟩:=hrel;have hbz:=HBW.out wr hR;obtain⟨k0,k1,k2,k3⟩:=HS.out wr hR
  by_cases hlt:k<p.funcs.length
  ·have fu:=FU.out wr hR k
   have hhit:=WZH.out k hlt hall;have hsu:(dU p k).1=0→∀ q:Nat,q<k+1→(dU p (q:Int)).1=0:=fun h q hq=>by
    by_cases he:q=k
    ·subst he;exact h
    ·exact hall q (by omega)
   unfold jX ry at fu;generalize dU p (k:Int)=fs at *;obtain⟨ie,n⟩:=fs
   dsimp only at fu hhit hsu
   clear k3 hbz hall;have HHIT:=k_ hhit;clear hhit;have HSU:=k_ hsu;clear hsu;have HR:=k_ hR;clear hR
   by_cases hie:ie=0
   ·subst hie
    rw[if_pos rfl] at fu
    dsimp only at fu
    have hsv:=HSU.out rfl;clear HSU;have FU:=k_ fu;clear fu;have HSV:=k_ hsv;clear hsv;go_wp2_with fail;refine FU.out.mono ?_;rintro e w9 ⟨rfl,hb9⟩;have hR9:=HR.out.trans (hb9.mono HR.out.size);have hR10:=hR9.alloc hR9.size (.cells #[.int .i64 0,.int .i64 0] 147);clear hb9 hR9;have HR10:=k_ hR10;clear hR10;go_wp2_with fail
    go_roundw
    case rel=>exact⟨k+1,by omega,by go_num,HR10.out,HSV.out⟩
    case measure=>simp[intOf];omega
   ·have hie1:(ie != 0)=true:=by simpa using hie
    rw[if_neg hie] at fu
    dsimp only at fu
    have hpr:=HHIT.out hie;clear HHIT HSU hie;have FU:=k_ fu;clear fu;have HPR:=k_ hpr;clear hpr;go_wp2_with fail;refine FU.out.mono ?_;rintro e w9 ⟨rfl,hb9⟩;have hR9:=HR.out.trans (hb9.mono HR.out.size);have hq0:∀ wz,Below (w9.heap.size+1) (w9.alloc (.cells #[.int .i64 k,.int .i64 n] 147)) wz→wz.cell? ⟨w9.heap.size,0,none⟩=some (.int .i64 k)∧wz.cell? ⟨w9.heap.size,1,none⟩=some (.int .i64 n):=fun wz h=>⟨(kL w9 _ _ wz h).1 0 _ rfl,(kL w9 _ _ wz h).1 1 _ rfl⟩
    have hR10:=hR9.alloc hR9.size (.cells #[.int .i64 k,.int .i64 n] 147);have hsz:(w9.alloc (.cells #[.int .i64 k,.int .i64 n] 147)).heap.size=w9.heap.size+1:=by simp
    clear hb9 hR9
    go_upto_region 9 with fail
    obtain⟨w10,hw10⟩:∃ w10,w10=w9.alloc (.cells #[.int .i64 k,.int .i64 n] 147):=⟨_,rfl⟩;rw[← hw10] at hq0 hR10 hsz ⊢;clear hw10;obtain⟨l0,l1⟩:=hq0 w10 (by rw[← hsz];exact Below.refl _ _);have hbz:=HBW.out w10 hR10;clear k0 k1 k2;obtain⟨k0,k1,k2,k3⟩:=HS.out w10 hR10;have hr:=ag (ag k3 0 (.int .i64 (k:Int))) 1 (.int .i64 (n:Int));have hf:Fr (fun q=>q=w.heap.size+1) w10 _:=((Fr.refl (fun q=>q=w.heap.size+1) w10).setCell (p:=⟨w.heap.size+1,0,none⟩) (fun _=>rfl) (.int .i64 (k:Int))).setCell (p:=⟨w.heap.size+1,1,none⟩) (fun _=>rfl) (.int .i64 (n:Int));have hb:=hbz.trans (hf.below hbz.size (fun k hk=>by omega));obtain⟨_,_,f0,f1⟩:=aN k3;have hP:=mq HPR.out rfl rfl hb.drew;have hr:=(Fr.refl (fun _=>False) _).drew.heap hr (fun h=>h);clear k3 hbz hR10 hq0;have HR:=k_ hr;clear hr;have HP:=k_ hP;clear hP;clear hf hb
    go_region
    all_goals
     go_wp2_with (with_reducible refine bodyPost_ret ?_ rfl HP.out;obtain⟨k0,k1,_⟩:=aN HR.out;simp[results,Tryz.results112,go_sem,k0,k1])
    all_goals (try trivial)
  ·have hk':k=p.funcs.length:=by omega
   subst hk';have hzz:=WZO.out hall;have hr:=ag (ag k3 0 (.int .i64 0)) 1 (.int .i64 0);have hf:Fr (fun q=>q=w.heap.size+1) wr _:=((Fr.refl (fun q=>q=w.heap.size+1) wr).setCell (p:=⟨w.heap.size+1,0,none⟩) (fun _=>rfl) (.int .i64 0)).setCell (p:=⟨w.heap.size+1,1,none⟩) (fun _=>rfl) (.int .i64 0);have hb:=hbz.trans (hf.below hbz.size (fun k hk=>by omega));obtain⟨_,_,f0,f1⟩:=aN k3;have hP:=mq hzz rfl rfl hb;clear k3 hbz hall hR hzz;have HR:=k_ hr;clear hr;have HP:=k_ hP;clear hP;clear hf hb
   go_wp2_with (with_reducible refine bodyPost_ret ?_ rfl HP.out;obtain⟨k0,k1,_⟩:=aN HR.out;simp[results,Tryz.results112,go_sem,k0,k1])
   all_goals (try trivial)
end Go.Proofs.YtlofbhoicbemnaaGreatDoor
