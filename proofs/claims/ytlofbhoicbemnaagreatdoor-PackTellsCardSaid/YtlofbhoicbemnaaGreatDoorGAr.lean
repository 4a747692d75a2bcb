/- Walks: frames: what a function's frame has of a stack. Walks: what is read of a task. Walks: what a task needs; where a slot lies. .. -/
import Derived.Test.YtlofbhoicbemnaaGreatDoorGAq
import Derived.StillTailTactics
set_option linter.unusedVariables false
set_option linter.unusedSimpArgs false
set_option maxRecDepth 100000
set_option maxHeartbeats 3200000
namespace Go.Proofs.YtlofbhoicbemnaaGreatDoor.Tk
open Go.ChangeShapes Go.WideShapes Go.ChangeAt Go.RowKit Go.Maps
def wQ (x:Int × Int):Value:=.agg #[.int .i64 x.1,.int .i64 x.2]
theorem DK (w:World) (D:Nat→Prop) (hD:∀ k,D k→k<w.heap.size) (p:TPrg) (c0 c1 c2:Value) (fn:Int) (hv:PV w D p c0 c1 c2) (hp:eG p) :
  Calls Tryz.prog 117 #[.agg #[c0,c1,c2],.int .i64 fn] w fun e w'=>∃ b,e=.returned (.tuple #[.map (some b),.int .i64 (aT p fn)])∧Below w.heap.size w w':=by
 obtain⟨⟨a0,n0,m0,rfl⟩,⟨a1,m1,rfl,hsh⟩,a2,m2,rfl,hfn⟩:=hv;have hb0:=((Below.refl w.heap.size w).alloc (Nat.le_refl _) (.cells #[.slice a0 n0 m0,.slice a1 p.shapes.length m1,.slice a2 p.funcs.length m2] 48));have hmk:bf obK wQ ((w.alloc (.cells #[.slice a0 n0 m0,.slice a1 p.shapes.length m1,.slice a2 p.funcs.length m2] 48)).alloc (.map #[] 0)) (w.alloc (.cells #[.slice a0 n0 m0,.slice a1 p.shapes.length m1,.slice a2 p.funcs.length m2] 48)).heap.size 0 (fun _=>none):=bf.made obK _ _;have hz1:(w.alloc (.cells #[.slice a0 n0 m0,.slice a1 p.shapes.length m1,.slice a2 p.funcs.length m2] 48)).heap.size=w.heap.size+1:=by simp
 rw[hz1] at hmk;have hb1:=hb0.alloc (by simp) (.map #[] 0);have hmake:∀ w,(Instr.makeMap 196 none).run Tryz.prog w=.ok (.map (some w.heap.size)) (w.alloc (.map #[] 0)):=fun w=>run_makeMap _ w
 have ht:Tryz.prog.underlying 196=some (.map obK.k 255):=Tryz.underlying196;have hq:∀ j u,#[Value.slice a0 n0 m0,.slice a1 p.shapes.length m1,.slice a2 p.funcs.length m2][j]?=some u→((w.alloc (.cells #[.slice a0 n0 m0,.slice a1 p.shapes.length m1,.slice a2 p.funcs.length m2] 48)).alloc (.map #[] 0)).cell? ⟨w.heap.size,j,none⟩=some u:=fun j u h=>by
  rw[aY _ _ (by simp),aI];exact h
 have hsz:((w.alloc (.cells #[.slice a0 n0 m0,.slice a1 p.shapes.length m1,.slice a2 p.funcs.length m2] 48)).alloc (.map #[] 0)).heap.size=w.heap.size+2:=by simp
 obtain⟨W,hW⟩:∃ W,W=(w.alloc (.cells #[.slice a0 n0 m0,.slice a1 p.shapes.length m1,.slice a2 p.funcs.length m2] 48)).alloc (.map #[] 0):=⟨_,rfl⟩;rw[← hW] at hmk hb1 hq hsz;have k0:=hq 0 _ rfl;have k1:=hq 1 _ rfl;have k2:=hq 2 _ rfl;have hfn:=hfn.fr (fb_ hb1) (fun _ _ h=>h);have hsh:=hsh.fr (fb_ hb1) (fun _ _ h=>h);have HW:=k_ hW;clear hW hb0 hz1 hq
 cases hin:au fn p.funcs.length
 ·rw[Ba hin]
  clear hfn hsh hmk hp;have HB1:=k_ hb1;clear hb1
  by_cases h0:fn<0
  ·clear hin
   go_enter Tryz.func117,Tryz.ntmps117
   go_upto_region 2 with fail
   rw[← HW.out];go_wp2_with fail
   go_ret2
   first | exact⟨_,rfl,HB1.out⟩ | exact HB1.out | exact⟨⟨_,rfl⟩,HB1.out⟩
  ·have h1:(p.funcs.length:Int)≤fn:=by simp[au] at hin;omega
   clear hin
   go_enter Tryz.func117,Tryz.ntmps117
   go_upto_region 2 with fail
   rw[← HW.out];go_wp2_with fail
   go_ret2
   first | exact⟨_,rfl,HB1.out⟩ | exact HB1.out | exact⟨⟨_,rfl⟩,HB1.out⟩
 obtain⟨j,rfl,hj⟩:=fO hin;rw[qd j hj];obtain⟨bb,o,rfl,_,y0,y1,y2,y3,y4,g0,g1,g2,g3,g4,hfv⟩:=hfn j hj;have hfp:=hp.2.2.2 p.funcs[j] (List.getElem_mem hj);generalize p.funcs[j]=f at *;obtain⟨⟨e0,e1,rfl⟩,⟨e2,rfl⟩,rfl,⟨e3,e4,rfl,hobj⟩,e5,e6,e7,rfl⟩:=hfv;have hj0:¬ (j:Int)<0:=by omega
 have hj1:¬ (p.funcs.length:Int)≤(j:Int):=by omega
 have hj2:(j:Int)<p.funcs.length:=by omega
 have hjb:aJ (j:Int):=by unfold aJ;have:=hp.2.1;omega
 obtain⟨f0,f1,f2⟩:=hfp;obtain⟨A0,hA0⟩:∃ A0:Nat,A0=f.slots.toNat:=⟨_,rfl⟩;obtain⟨acc,hacc⟩:∃ acc:Nat→Nat,acc=fun k=>2+A0+oP p (f.objects.take k):=⟨_,rfl⟩
 have hfull:lV p f=acc f.objects.length:=by rw[hacc,hA0];simp[lV]
 have hac0:acc 0=2+A0:=by rw[hacc];simp[oP]
 have hacs:∀ k (hk:k<f.objects.length),acc (k+1)=acc k+eU p f.objects[k]:=fun k hk=>by
  rw[hacc];simp only;rw[AQ p _ k hk]
  omega
 have hacl:∀ k,k≤f.objects.length→acc k≤9100000:=fun k hk=>by
  rw[hacc];simp only;have h1:=xN hp (f.objects.take k);have h2:(f.objects.take k).length≤3000:=by rw[List.length_take];omega
  omega
 rw[hfull];have hfl:=fun s=>rM hp s
 have hx1:=fun wr h=>kL W #[.slice e0 f.nargs e1,.int .i64 e2,.int .i64 f.slots,.slice e3 f.objects.length e4,.slice e5 e6 e7] 66 wr h
 have hx2:(W.alloc (.cells #[.slice e0 f.nargs e1,.int .i64 e2,.int .i64 f.slots,.slice e3 f.objects.length e4,.slice e5 e6 e7] 66)).heap.size=W.heap.size+1:=by simp
 have hm0:=hmk.fr ((Fr.refl (fun _=>False) W).alloc (.cells #[.slice e0 f.nargs e1,.int .i64 e2,.int .i64 f.slots,.slice e3 f.objects.length e4,.slice e5 e6 e7] 66)) (fun h=>h);have hbX:=hb1.alloc hb1.size (.cells #[.slice e0 f.nargs e1,.int .i64 e2,.int .i64 f.slots,.slice e3 f.objects.length e4,.slice e5 e6 e7] 66);have hfX:=(Fr.refl (fun _=>False) W).alloc (.cells #[.slice e0 f.nargs e1,.int .i64 e2,.int .i64 f.slots,.slice e3 f.objects.length e4,.slice e5 e6 e7] 66);obtain⟨X,hX⟩:∃ X,X=W.alloc (.cells #[.slice e0 f.nargs e1,.int .i64 e2,.int .i64 f.slots,.slice e3 f.objects.length e4,.slice e5 e6 e7] 66):=⟨_,rfl⟩;rw[← hX] at hx1 hx2 hm0 hbX hfX;have hxb:=hx1 X (by rw[← hx2];exact Below.refl _ _);have t2:=hxb.1 2 _ rfl;have t3:=hxb.1 3 _ rfl;have kk1:=hfX.cell k1 (fun h=>h);have hobj:=hobj.fr hfX (fun _ _ h=>h);have hsh:=hsh.fr hfX (fun _ _ h=>h);have bg:=World.block_lt g0
 dsimp only at bg
 have HX:=k_ hX;have hlj:(p.shapes.length:Int)≤3000:=by have:=hp.1;omega
 have hzX:w.heap.size+1<X.heap.size:=by omega
 clear hX hx1 hxb hfX hmk hb1 hin hacc hfull hp hj;generalize f.slots=sl at *;have hac1:=hacl 0 (Nat.zero_le _);clear hsz hx2;have HACS:=k_ hacs;clear hacs;have HACL:=k_ hacl;clear hacl;have HFL:=k_ hfl;clear hfl;have HM0:=k_ hm0;clear hm0;have HBX:=k_ hbX;clear hbX;have HOBJ:=k_ hobj;clear hobj;have HSH:=k_ hsh;clear hsh;have HAC0:=k_ hac0;clear hac0;have HZX:=k_ hzX;clear hzX;have HD:=k_ hD;clear hD;have HT:=k_ ht;clear ht;have HJB:=k_ hjb;clear hjb
 by_cases hs:0≤sl
 ·have hA:sl=(A0:Int):=by omega
  subst hA;clear hA0;have hac:(acc 0:Int)=2+(A0:Int):=by rw[HAC0.out];omega
  have i0:IntKind.i64.wrap (2+(A0:Int))=(acc 0:Int):=by rw[← hac];exact IntWalk.i64_in _ (by omega)
  have HAC:=k_ hac;clear hac
  go_enter Tryz.func117,Tryz.ntmps117
  go_upto_region 2 with fail
  rw[← HW.out]
  go_upto_region 5 with fail
  rw[← HX.out];clear k0 k1 k2 g0 g1 g2 g3 g4 bg;go_wp2_with fail;clear t2 i0
  go_loopw [8,35] (fun at_ i wr=>∃ k m g,k≤f.objects.length∧i=.int .i64 (k:Nat)∧at_=.int .i64 (acc k)∧bf obK wQ wr (w.heap.size+1) m g∧m≤k∧Fr (fun q=>q=w.heap.size+1) X wr) (fun _ i _=>f.objects.length - (intOf i).toNat)
  case atStart=>exact⟨0,0,_,Nat.zero_le _,rfl,by first | rfl | (rw[HAC.out];rfl),HM0.out,Nat.le_refl _,Fr.refl _ _⟩
  case round =>
   obtain⟨k,m,g,hk,rfl,rfl,hm,hmk,hf⟩:=hrel;have hfx:=hf.below (N:=w.heap.size+1) (Nat.le_of_lt HZX.out) (fun q hq=>by omega);have hbr:=HBX.out.trans (hfx.mono (by omega));have k1:=hf.cell kk1 (by show ¬ w.heap.size=w.heap.size+1;omega)
   by_cases hlt:k<f.objects.length
   ·obtain⟨b9,o9,rfl,hd9,hx⟩:=HOBJ.out k hlt
    have hx:=hf.cell hx (by have:=HD.out _ hd9;show ¬ b9=_;omega);have hsu:=HACS.out k hlt;have hal:=HACL.out k hk;have hal2:=HACL.out (k+1) hlt;have hfls:=HFL.out f.objects[k];have hkb:aJ (k:Int):=by unfold aJ;omega
    have HHN:=k_ hm;have HMK:=k_ (show m<100000 by omega);clear hm
    cases hws:au f.objects[k] p.shapes.length
    ·have hfz:eU p f.objects[k]=0:=by unfold eU;rw[hws];rfl
     rw[hfz] at hsu;generalize f.objects[k]=x at *;clear hfz hfls
     by_cases hx0:0≤x
     ·have hx1:¬ x<p.shapes.length:=by simp[au] at hws;omega
      clear hws;have i3:IntKind.i64.wrap ((acc k:Int)+0)=(acc (k+1):Int):=by rw[hsu];exact IntWalk.i64_in _ (by omega)
      have hn3:(if (g ⟨((j:Int),(k:Int)),HJB.out,hkb⟩).isSome then m else m+1)≤k+1:=by split <;> omega
      have HSU:=k_ hsu;clear hsu;have HF:=k_ hf;clear hf;have HN3:=k_ hn3;clear hn3;have HBR:=k_ hbr;clear hbr
      go_wp2_with (refine gU rfl (.tmp 56) (.tmp 59) (.tmp 62) 196 255 rfl HHN.out HT.out (by have:=HMK.out;unfold maxLen;omega) ⟨((j:Int),(k:Int)),HJB.out,hkb⟩ trivial ((acc k:Int),0) rfl rfl rfl ?_;intro w1 hm1 ht1)
      have hf3:=HF.out.trans (bi ht1) (fun _ _ h=>h);clear ht1;have HM1:=k_ hm1;clear hm1;have HF3:=k_ hf3;clear hf3;go_wp2_with fail
      go_roundw
      case rel=>exact⟨k+1,_,_,by omega,by go_num,by first | rfl | (rw[HSU.out];simp;done) | go_num,HM1.out,HN3.out,HF3.out⟩
      case measure=>simp[intOf];omega
     ·clear hws
      have i3:IntKind.i64.wrap ((acc k:Int)+0)=(acc (k+1):Int):=by rw[hsu];exact IntWalk.i64_in _ (by omega)
      have hn3:(if (g ⟨((j:Int),(k:Int)),HJB.out,hkb⟩).isSome then m else m+1)≤k+1:=by split <;> omega
      have HSU:=k_ hsu;clear hsu;have HF:=k_ hf;clear hf;have HN3:=k_ hn3;clear hn3;have HBR:=k_ hbr;clear hbr
      go_wp2_with (refine gU rfl (.tmp 56) (.tmp 59) (.tmp 62) 196 255 rfl HHN.out HT.out (by have:=HMK.out;unfold maxLen;omega) ⟨((j:Int),(k:Int)),HJB.out,hkb⟩ trivial ((acc k:Int),0) rfl rfl rfl ?_;intro w1 hm1 ht1)
      have hf3:=HF.out.trans (bi ht1) (fun _ _ h=>h);clear ht1;have HM1:=k_ hm1;clear hm1;have HF3:=k_ hf3;clear hf3;go_wp2_with fail
      go_roundw
      case rel=>exact⟨k+1,_,_,by omega,by go_num,by first | rfl | (rw[HSU.out];simp;done) | go_num,HM1.out,HN3.out,HF3.out⟩
      case measure=>simp[intOf];omega
    ·obtain⟨y,hy,hyl⟩:=fO hws
     have hfz:eU p f.objects[k]=p.shapes[y]:=by unfold eU;rw[if_pos hws,hy];simp[hyl]
     rw[hfz] at hsu hfls;rw[hy] at hx;obtain⟨b8,o8,rfl,hd8,a8,c8,hq⟩:=HSH.out y hyl;have hq:=hf.cell hq (by have:=HD.out _ hd8;show ¬ b8=_;omega);generalize p.shapes[y]=ny at *;have hy0:(0:Int)≤(y:Int):=by omega
     have hy1:(y:Int)<p.shapes.length:=by omega
     clear hws hfz hy;have i3:IntKind.i64.wrap ((acc k:Int)+(ny:Int))=(acc (k+1):Int):=by rw[hsu];exact IntWalk.i64_in _ (by omega)
     have hn3:(if (g ⟨((j:Int),(k:Int)),HJB.out,hkb⟩).isSome then m else m+1)≤k+1:=by split <;> omega
     have HSU:=k_ hsu;clear hsu;have HF:=k_ hf;clear hf;have HN3:=k_ hn3;clear hn3;have HBR:=k_ hbr;clear hbr
     go_wp2_with (refine gU rfl (.tmp 56) (.tmp 59) (.tmp 62) 196 255 rfl HHN.out HT.out (by have:=HMK.out;unfold maxLen;omega) ⟨((j:Int),(k:Int)),HJB.out,hkb⟩ trivial ((acc k:Int),(ny:Int)) rfl rfl rfl ?_;intro w1 hm1 ht1)
     have hf3:=HF.out.trans (bi ht1) (fun _ _ h=>h);clear ht1;have HM1:=k_ hm1;clear hm1;have HF3:=k_ hf3;clear hf3;go_wp2_with fail
     go_roundw
     case rel=>exact⟨k+1,_,_,by omega,by go_num,by first | rfl | (rw[HSU.out];simp;done) | go_num,HM1.out,HN3.out,HF3.out⟩
     case measure=>simp[intOf];omega
   ·have hk':k=f.objects.length:=by omega
    subst hk';clear hfx hm hf;have HBR:=k_ hbr;clear hbr;go_wp2_with fail
    go_ret2
    first | exact⟨_,rfl,HBR.out⟩ | exact HBR.out | exact⟨⟨_,rfl⟩,HBR.out⟩
 ·have hA:A0=0:=by omega
  subst hA;clear hA0;have hac:(acc 0:Int)=2+((0:Nat):Int):=by rw[HAC0.out];omega
  have i0:IntKind.i64.wrap (2+((0:Nat):Int))=(acc 0:Int):=by rw[← hac];exact IntWalk.i64_in _ (by omega)
  have HAC:=k_ hac;clear hac
  go_enter Tryz.func117,Tryz.ntmps117
  go_upto_region 2 with fail
  rw[← HW.out]
  go_upto_region 5 with fail
  rw[← HX.out];clear k0 k1 k2 g0 g1 g2 g3 g4 bg;go_wp2_with fail;clear t2 i0
  go_loopw [8,35] (fun at_ i wr=>∃ k m g,k≤f.objects.length∧i=.int .i64 (k:Nat)∧at_=.int .i64 (acc k)∧bf obK wQ wr (w.heap.size+1) m g∧m≤k∧Fr (fun q=>q=w.heap.size+1) X wr) (fun _ i _=>f.objects.length - (intOf i).toNat)
  case atStart=>exact⟨0,0,_,Nat.zero_le _,rfl,by first | rfl | (rw[HAC.out];rfl),HM0.out,Nat.le_refl _,Fr.refl _ _⟩
  case round =>
   obtain⟨k,m,g,hk,rfl,rfl,hm,hmk,hf⟩:=hrel;have hfx:=hf.below (N:=w.heap.size+1) (Nat.le_of_lt HZX.out) (fun q hq=>by omega);have hbr:=HBX.out.trans (hfx.mono (by omega));have k1:=hf.cell kk1 (by show ¬ w.heap.size=w.heap.size+1;omega)
   by_cases hlt:k<f.objects.length
   ·obtain⟨b9,o9,rfl,hd9,hx⟩:=HOBJ.out k hlt
    have hx:=hf.cell hx (by have:=HD.out _ hd9;show ¬ b9=_;omega);have hsu:=HACS.out k hlt;have hal:=HACL.out k hk;have hal2:=HACL.out (k+1) hlt;have hfls:=HFL.out f.objects[k];have hkb:aJ (k:Int):=by unfold aJ;omega
    have HHN:=k_ hm;have HMK:=k_ (show m<100000 by omega);clear hm
    cases hws:au f.objects[k] p.shapes.length
    ·have hfz:eU p f.objects[k]=0:=by unfold eU;rw[hws];rfl
     rw[hfz] at hsu;generalize f.objects[k]=x at *;clear hfz hfls
     by_cases hx0:0≤x
     ·have hx1:¬ x<p.shapes.length:=by simp[au] at hws;omega
      clear hws;have i3:IntKind.i64.wrap ((acc k:Int)+0)=(acc (k+1):Int):=by rw[hsu];exact IntWalk.i64_in _ (by omega)
      have hn3:(if (g ⟨((j:Int),(k:Int)),HJB.out,hkb⟩).isSome then m else m+1)≤k+1:=by split <;> omega
      have HSU:=k_ hsu;clear hsu;have HF:=k_ hf;clear hf;have HN3:=k_ hn3;clear hn3;have HBR:=k_ hbr;clear hbr
      go_wp2_with (refine gU rfl (.tmp 56) (.tmp 59) (.tmp 62) 196 255 rfl HHN.out HT.out (by have:=HMK.out;unfold maxLen;omega) ⟨((j:Int),(k:Int)),HJB.out,hkb⟩ trivial ((acc k:Int),0) rfl rfl rfl ?_;intro w1 hm1 ht1)
      have hf3:=HF.out.trans (bi ht1) (fun _ _ h=>h);clear ht1;have HM1:=k_ hm1;clear hm1;have HF3:=k_ hf3;clear hf3;go_wp2_with fail
      go_roundw
      case rel=>exact⟨k+1,_,_,by omega,by go_num,by first | rfl | (rw[HSU.out];simp;done) | go_num,HM1.out,HN3.out,HF3.out⟩
      case measure=>simp[intOf];omega
     ·clear hws
      have i3:IntKind.i64.wrap ((acc k:Int)+0)=(acc (k+1):Int):=by rw[hsu];exact IntWalk.i64_in _ (by omega)
      have hn3:(if (g ⟨((j:Int),(k:Int)),HJB.out,hkb⟩).isSome then m else m+1)≤k+1:=by split <;> omega
      have HSU:=k_ hsu;clear hsu;have HF:=k_ hf;clear hf;have HN3:=k_ hn3;clear hn3;have HBR:=k_ hbr;clear hbr
      go_wp2_with (refine gU rfl (.tmp 56) (.tmp 59) (.tmp 62) 196 255 rfl HHN.out HT.out (by have:=HMK.out;unfold maxLen;omega) ⟨((j:Int),(k:Int)),HJB.out,hkb⟩ trivial ((acc k:Int),0) rfl rfl rfl ?_;intro w1 hm1 ht1)
      have hf3:=HF.out.trans (bi ht1) (fun _ _ h=>h);clear ht1;have HM1:=k_ hm1;clear hm1;have HF3:=k_ hf3;clear hf3;go_wp2_with fail
      go_roundw
      case rel=>exact⟨k+1,_,_,by omega,by go_num,by first | rfl | (rw[HSU.out];simp;done) | go_num,HM1.out,HN3.out,HF3.out⟩
      case measure=>simp[intOf];omega
    ·obtain⟨y,hy,hyl⟩:=fO hws
     have hfz:eU p f.objects[k]=p.shapes[y]:=by unfold eU;rw[if_pos hws,hy];simp[hyl]
     rw[hfz] at hsu hfls;rw[hy] at hx;obtain⟨b8,o8,rfl,hd8,a8,c8,hq⟩:=HSH.out y hyl;have hq:=hf.cell hq (by have:=HD.out _ hd8;show ¬ b8=_;omega);generalize p.shapes[y]=ny at *;have hy0:(0:Int)≤(y:Int):=by omega
     have hy1:(y:Int)<p.shapes.length:=by omega
     clear hws hfz hy;have i3:IntKind.i64.wrap ((acc k:Int)+(ny:Int))=(acc (k+1):Int):=by rw[hsu];exact IntWalk.i64_in _ (by omega)
     have hn3:(if (g ⟨((j:Int),(k:Int)),HJB.out,hkb⟩).isSome then m else m+1)≤k+1:=by split <;> omega
     have HSU:=k_ hsu;clear hsu;have HF:=k_ hf;clear hf;have HN3:=k_ hn3;clear hn3;have HBR:=k_ hbr;clear hbr
     go_wp2_with (refine gU rfl (.tmp 56) (.tmp 59) (.tmp 62) 196 255 rfl HHN.out HT.out (by have:=HMK.out;unfold maxLen;omega) ⟨((j:Int),(k:Int)),HJB.out,hkb⟩ trivial ((acc k:Int),(ny:Int)) rfl rfl rfl ?_;intro w1 hm1 ht1)
     have hf3:=HF.out.trans (bi ht1) (fun _ _ h=>h);clear ht1;have HM1:=k_ hm1;clear hm1;have HF3:=k_ hf3;clear hf3;go_wp2_with fail
     go_roundw
     case rel=>exact⟨k+1,_,_,by omega,by go_num,by first | rfl | (rw[HSU.out];simp;done) | go_num,HM1.out,HN3.out,HF3.out⟩
     case measure=>simp[intOf];omega
   ·have hk':k=f.objects.length:=by omega
    subst hk';clear hfx hm hf;have HBR:=k_ hbr;clear hbr;go_wp2_with fail
    go_ret2
    first | exact⟨_,rfl,HBR.out⟩ | exact HBR.out | exact⟨⟨_,rfl⟩,HBR.out⟩
theorem jm (w:World) (D:Nat→Prop) (hD:∀ k,D k→k<w.heap.size) (p:TPrg) (c0 c1 c2:Value) (fn:Int) (hv:PV w D p c0 c1 c2) (hp:eG p) :
  Calls Tryz.prog 96 #[.agg #[c0,c1,c2],.int .i64 fn] w fun e w'=>e=.returned (.int .i64 (aT p fn))∧Below w.heap.size w w':=by
 have hv0:=hv;obtain⟨⟨a0,n0,m0,rfl⟩,⟨a1,m1,rfl,hsh⟩,a2,m2,rfl,hfn⟩:=hv;have hb0:=((Below.refl w.heap.size w).alloc (Nat.le_refl _) (.cells #[.slice a0 n0 m0,.slice a1 p.shapes.length m1,.slice a2 p.funcs.length m2] 48));have hq:=fun j=>aI w #[.slice a0 n0 m0,.slice a1 p.shapes.length m1,.slice a2 p.funcs.length m2] 48 (0,0) j
 obtain⟨W,hW⟩:∃ W,W=(w.alloc (.cells #[.slice a0 n0 m0,.slice a1 p.shapes.length m1,.slice a2 p.funcs.length m2] 48)):=⟨_,rfl⟩;rw[← hW] at hb0 hq;have k0:W.cell? ⟨w.heap.size,0,none⟩=some (.slice a0 n0 m0):=hq 0;have k1:W.cell? ⟨w.heap.size,1,none⟩=some (.slice a1 p.shapes.length m1):=hq 1;have k2:W.cell? ⟨w.heap.size,2,none⟩=some (.slice a2 p.funcs.length m2):=hq 2;have sp:=DK W D (fun k hk=>Nat.lt_of_lt_of_le (hD k hk) hb0.size) p _ _ _ fn (hv0.below hb0) hp;generalize aT p fn=n at *;have HW:=k_ hW;clear hW hq hsh hfn hv0 hp;have SP:=k_ sp;clear sp;have HB0:=k_ hb0;clear hb0
 go_enter Tryz.func96,Tryz.ntmps96
 go_upto_region 1 with fail
 rw[← HW.out];go_wp2_with fail;refine SP.out.mono ?_;rintro e w1 ⟨b,rfl,hb1⟩;have HB1:=k_ (HB0.out.trans (hb1.mono HB0.out.size));clear hb1;go_wp2_with fail
 go_ret
 exact⟨rfl,HB1.out⟩
theorem BK (w:World) (fn k:Int) (hk:-1≤k) (hk2:k≤1000000) :
  Calls Tryz.prog 259 #[.int .i64 fn,.int .i64 k] w fun e w'=>e=.returned (.int .i64 (2+k))∧w=w':=by
 have i0:IntKind.i64.wrap (2+k)=2+k:=IntWalk.i64_in _ (by omega)
 go_enter Tryz.func259,Tryz.ntmps259
 go_wp2_with fail
 go_ret
 exact⟨rfl,rfl⟩
def jL (T:Tk):Prop:=T.parts.length≤1000∧T.marks.length≤1000∧T.words.length≤100000∧∀ q ∈ T.parts,0≤q.base∧q.base≤100000000
theorem TaskAt.cells {w:World} {F:Nat→Prop} {tb:Nat} {p:TPrg} {T:Tk} {X:TB} (h:TaskAt w F tb p T X) :
  w.cell? ⟨tb,0,none⟩=some X.c0∧w.cell? ⟨tb,1,none⟩=some X.c1∧w.cell? ⟨tb,2,none⟩=some X.c2∧w.cell? ⟨tb,3,none⟩=some (.pointer (some ⟨X.sb,0,none⟩))∧w.cell? ⟨tb,4,none⟩=some X.pv∧w.cell? ⟨tb,5,none⟩=some X.mv∧w.cell? ⟨tb,6,none⟩=some X.av∧w.cell? ⟨tb,7,none⟩=some (.map (some X.kb)) :=
 ⟨(aa h.row 0).1,(aa h.row 1).1,(aa h.row 2).1,(aa h.row 3).1,(aa h.row 4).1,(aa h.row 5).1,(aa h.row 6).1,(aa h.row 7).1⟩
theorem TaskAt.pv {w:World} {F:Nat→Prop} {tb:Nat} {p:TPrg} {T:Tk} {X:TB} (h:TaskAt w F tb p T X):∃ a c,X.pv=.slice a T.parts.length c∧∀ j (hj:j<T.parts.length),∃ b,a=some ⟨b,0,none⟩∧X.pv.ownBlock=some b ∧
  w.cell? ⟨b,j * 5,none⟩=some (.int .i64 T.parts[j].fn)∧w.cell? ⟨b,j * 5+1,none⟩=some (.int .i64 T.parts[j].pc)∧w.cell? ⟨b,j * 5+2,none⟩=some (.int .i64 T.parts[j].base)∧w.cell? ⟨b,j * 5+3,none⟩=some (.int .i64 T.parts[j].ret)∧w.cell? ⟨b,j * 5+4,none⟩=some (.slice T.parts[j].ta T.parts[j].tn T.parts[j].tc):=by
 obtain⟨a,c,h1,h2⟩:=aP h.parts;refine⟨a,c,h1,fun j hj=>?_⟩;obtain⟨b,h3,h4,h5⟩:=h2 j hj;exact⟨b,h3,h4,h5 0 _ rfl,h5 1 _ rfl,h5 2 _ rfl,h5 3 _ rfl,h5 4 _ rfl⟩
theorem eF (w:World) (F:Nat→Prop) (tb:Nat) (p:TPrg) (T:Tk) (X:TB) (h:TaskAt w F tb p T X) :
  Calls Tryz.prog 236 #[.pointer (some ⟨tb,0,none⟩)] w fun e w'=>e=.returned (.int .i64 T.parts.length)∧w=w':=by
 obtain⟨_,_,_,_,k4,_⟩:=h.cells;obtain⟨a,c,hp,_⟩:=h.pv;rw[hp] at k4;clear hp h
 go_enter Tryz.func236,Tryz.ntmps236
 go_wp2_with fail
 go_ret
 exact⟨rfl,rfl⟩
theorem Bd (w:World) (F:Nat→Prop) (tb:Nat) (p:TPrg) (T:Tk) (X:TB) (h:TaskAt w F tb p T X) :
  Calls Tryz.prog 129 #[.pointer (some ⟨tb,0,none⟩)] w fun e w'=>e=.returned (.int .i64 T.words.length)∧w=w':=by
 obtain⟨_,_,_,k3,_⟩:=h.cells;have ws:=mH w X.sb X.wb T.base T.words h.st;clear h;have WS:=k_ ws;clear ws
 go_enter Tryz.func129,Tryz.ntmps129
 go_wp2_with fail;refine WS.out.mono ?_;rintro e w' ⟨rfl,rfl⟩;go_wp2_with fail
 go_ret
 exact⟨rfl,rfl⟩
theorem He (w:World) (F:Nat→Prop) (tb:Nat) (p:TPrg) (T:Tk) (X:TB) (h:TaskAt w F tb p T X) (h0:T.parts.length=0) :
  Calls Tryz.prog 248 #[.pointer (some ⟨tb,0,none⟩)] w fun e w'=>e=.returned (.pointer none)∧w=w':=by
 have dp:=eF w F tb p T X h;rw[h0] at dp;clear h0 h;have DP:=k_ dp;clear dp
 go_enter Tryz.func248,Tryz.ntmps248
 go_wp2_with fail;refine DP.out.mono ?_;rintro e w' ⟨rfl,rfl⟩;go_wp2_with fail
 go_ret
 exact⟨rfl,rfl⟩
theorem mK (w:World) (F:Nat→Prop) (tb:Nat) (p:TPrg) (T:Tk) (X:TB) (h:TaskAt w F tb p T X) (hn:T.parts.length≤1000) (n:Nat) (h0:T.parts.length=n+1) (b:Nat) (hb:X.pv.ownBlock=some b) :
  Calls Tryz.prog 248 #[.pointer (some ⟨tb,0,none⟩)] w fun e w'=>e=.returned (.pointer (some ⟨b,n * 5,none⟩))∧∃ m,w'=w.drewN m:=by
 have dp:=eF w F tb p T X h;obtain⟨_,_,_,_,k4,_⟩:=h.cells;obtain⟨a,c,hp,hel⟩:=h.pv;obtain⟨b2,rfl,hb2,hrest⟩:=hel n (by omega);have hbb:b2=b:=by rw[hb] at hb2;injection hb2 with e;exact e.symm
 subst hbb;rw[hp,h0] at k4;rw[h0] at dp;have i1:IntKind.i64.wrap (((n+1:Nat):Int) - 1)=(n:Int):=by rw[show (((n+1:Nat):Int) - 1)=(n:Int) from by omega];exact IntWalk.i64_in _ (by omega)
 have n0:(((n+1:Nat):Int) == 0)=false:=by rw[beq_eq_false_iff_ne];omega
 have n1:(n:Int)<((n+1:Nat):Int):=by omega
 have n2:(0:Int)≤(n:Int):=by omega
 obtain⟨N,hN⟩:∃ N,N=n+1:=⟨_,rfl⟩;rw[← hN] at i1 n0 n1 dp k4;clear hrest hp hel h h0 hn hb hb2 hN;have DP:=k_ dp;clear dp
 go_enter Tryz.func248,Tryz.ntmps248
 go_wp2_with fail;refine DP.out.mono ?_;rintro e w' ⟨rfl,rfl⟩
 go_upto_region 3 with fail
 go_quiet (fail)
 go_wp2_with fail
 go_ret
 exact⟨rfl,_,rfl⟩
theorem vI {p:TPrg} {T:Tk} (h:T.parts.length=0):iR p T=0:=by
 unfold iR;rw[List.length_eq_zero_iff.1 h]
 rfl
theorem zU {p:TPrg} {T:Tk} {n:Nat} (h:T.parts.length=n+1):iR p T=(T.parts[n]'(by omega)).base+aT p (T.parts[n]'(by omega)).fn:=by
 unfold iR;have hl:T.parts.getLast?=some (T.parts[n]'(by omega)):=by
  rw[List.getLast?_eq_getElem?];have e:T.parts.length - 1=n:=by omega
  rw[e];exact List.getElem?_eq_getElem _
 rw[hl]
theorem yD {p:TPrg} {T:Tk} (hp:eG p) (ht:jL T):0≤iR p T∧iR p T≤110000000:=by
 unfold iR
 cases hq:T.parts.getLast? with
 | none=>simp
 | some q =>
   have h1:=ht.2.2.2 q (List.mem_of_getLast? hq);have h2:=uT hp q.fn;simp only
   omega
theorem yl (w:World) (F:Nat→Prop) (tb:Nat) (p:TPrg) (T:Tk) (X:TB) (h:TaskAt w F tb p T X) (hp:eG p) (ht:jL T) :
  Calls Tryz.prog 178 #[.pointer (some ⟨tb,0,none⟩)] w fun e w'=>e=.returned (.int .i64 (iR p T))∧Below w.heap.size w w':=by
 by_cases h0:T.parts.length=0
 ·rw[vI h0]
  have tp:=He w F tb p T X h h0;clear h0 h;have TP:=k_ tp;clear tp
  go_enter Tryz.func178,Tryz.ntmps178
  go_wp2_with fail;refine TP.out.mono ?_;rintro e w' ⟨rfl,rfl⟩;go_wp2_with fail
  go_ret
  exact⟨rfl,Below.refl _ _⟩
 ·obtain⟨n,hn⟩:∃ n,T.parts.length=n+1:=⟨T.parts.length - 1,by omega⟩
  have hlt:n<T.parts.length:=by omega
  obtain⟨a,c,hpv,hel⟩:=h.pv;obtain⟨b,rfl,hb,k0,k1,k2,k3,k4⟩:=hel n hlt;have hbd:=yD hp ht;rw[zU hn] at hbd ⊢;have tp:=mK w F tb p T X h ht.1 n hn b hb;obtain⟨q0,q1,q2,q3,q4,q5,q6,q7⟩:=h.cells;have hprg:=h.prg;obtain⟨⟨a0,n0,m0,e0⟩,⟨a1,m1,e1,_⟩,a2,m2,e2,_⟩:=hprg;have wd:∀ wr,Below w.heap.size w wr→Calls Tryz.prog 96 #[.agg #[X.c0,X.c1,X.c2],.int .i64 T.parts[n].fn] wr fun e w'=>e=.returned (.int .i64 (aT p T.parts[n].fn))∧Below wr.heap.size wr w':=fun wr hw=>jm wr X.D (fun k hk=>Nat.lt_of_lt_of_le (h.out k hk).2 hw.size) p X.c0 X.c1 X.c2 T.parts[n].fn (h.prg.below hw) hp
  rw[e0,e1,e2] at wd;rw[e0] at q0;rw[e1] at q1;rw[e2] at q2;have i1:IntKind.i64.wrap (T.parts[n].base+aT p T.parts[n].fn)=T.parts[n].base+aT p T.parts[n].fn:=IntWalk.i64_in _ (by omega);generalize aT p T.parts[n].fn=wn at *;generalize T.parts[n]=q at *;clear k1 k3 k4 q3 q4 q5 q6 q7 hel hpv hb h0 hn h hp ht hbd e0 e1 e2 hlt;have TP:=k_ tp;clear tp;have WD:=k_ wd;clear wd
  go_enter Tryz.func178,Tryz.ntmps178
  go_wp2_with fail;refine TP.out.mono ?_;rintro e w' ⟨rfl,m,rfl⟩
  go_upto_region 4 with fail
  have hB0:Below w.heap.size w (w.drewN m):=below_drewN (Below.refl _ _) m;have k0:=ae hB0 k0;have k2:=ae hB0 k2;have q0:=ae hB0 q0;have q1:=ae hB0 q1;have q2:=ae hB0 q2;generalize w.drewN m=w1 at *;have K0:=fun W:bP w1=>W.cell k0
  have K2:=fun W:bP w1=>W.cell k2
  have Q0:=fun W:bP w1=>W.cell q0
  have Q1:=fun W:bP w1=>W.cell q1
  have Q2:=fun W:bP w1=>W.cell q2
  have hwd:∀ W:bP w1,Calls Tryz.prog 96 _ W.val _:=fun V=>WD.out V.val (hB0.trans (V.2.mono hB0.size))
  clear k0 k2 q0 q1 q2;have HWD:=k_ hwd;clear hwd;have HB0:=k_ hB0;clear hB0;refine bu (by kernel_rfl) (by kernel_rfl) ?_
  repeat (go_big_quiet_step (first | (go_at_call 96;exact Calls.below_of (HWD.out _))))
  refine wpQuiet_nil ?_;rintro _ ⟨WL,rfl⟩;have HL:=k_ (HB0.out.trans (WL.2.mono HB0.out.size));go_wp2_with fail
  go_ret
  exact⟨rfl,HL.out⟩
theorem Gl (w:World) (F:Nat→Prop) (tb:Nat) (p:TPrg) (T:Tk) (X:TB) (h:TaskAt w F tb p T X) (hp:eG p) (ht:jL T) (fn:Int) :
  Calls Tryz.prog 300 #[.pointer (some ⟨tb,0,none⟩),.int .i64 fn] w fun e w'=>e=.returned (.int .i64 (iR p T+aT p fn))∧Below w.heap.size w w':=by
 have us:∀ W:bP w,Calls Tryz.prog 178 _ W.val _:=fun V=>yl V.val F tb p T X (h.below V.2) hp ht
 have wd:∀ W:bP w,Calls Tryz.prog 96 _ W.val _:=fun V=>jm V.val X.D (fun k hk=>Nat.lt_of_lt_of_le (h.out k hk).2 V.2.size) p X.c0 X.c1 X.c2 fn (h.prg.below V.2) hp
 obtain⟨q0,q1,q2,_⟩:=h.cells;obtain⟨⟨a0,n0,m0,e0⟩,⟨a1,m1,e1,_⟩,a2,m2,e2,_⟩:=h.prg;rw[e0,e1,e2] at wd;rw[e0] at q0;rw[e1] at q1;rw[e2] at q2;have b1:=yD hp ht;have b2:=uT hp fn;have i1:IntKind.i64.wrap (iR p T+aT p fn)=iR p T+aT p fn:=IntWalk.i64_in _ (by omega);generalize iR p T=un at *;generalize aT p fn=wn at *;have Q0:=fun W:bP w=>W.cell q0
 have Q1:=fun W:bP w=>W.cell q1
 have Q2:=fun W:bP w=>W.cell q2
 clear q0 q1 q2 e0 e1 e2 h hp ht b1 b2;have US:=k_ us;clear us;have WD:=k_ wd;clear wd
 go_enter Tryz.func300,Tryz.ntmps300
 go_upto_region 3 with fail
 refine bu (by kernel_rfl) (by kernel_rfl) ?_
 repeat (go_big_quiet_step (first | (go_at_call 96;exact Calls.below_of (WD.out _)) | (go_at_call 178;exact Calls.below_of (US.out _))))
 refine wpQuiet_nil ?_;rintro _ ⟨WL,rfl⟩;have HL:=k_ WL.2;go_wp2_with fail
 go_ret
 exact⟨rfl,HL.out⟩
def uB (p:TPrg) (T:Tk) (fn:Int) (na:Nat):Bool:=au fn p.funcs.length && ((p.funcs[fn.toNat]?).map TFun.nargs).getD 0 == na && decide (iR p T+aT p fn≤T.words.length)
theorem yO {p:TPrg} {T:Tk} {j na:Nat} (hj:j<p.funcs.length):uB p T j na=((p.funcs[j].nargs == na) && decide (iR p T+aT p j≤T.words.length)):=by
 unfold uB;rw[show au (j:Int) p.funcs.length=true from by simp[au];omega]
 simp[hj]
theorem DY (w:World) (F:Nat→Prop) (tb:Nat) (p:TPrg) (T:Tk) (X:TB) (h:TaskAt w F tb p T X) (hp:eG p) (ht:jL T) (fn:Int) (a:Option Addr) (na c:Nat) (hna:na≤3000) :
  Calls Tryz.prog 232 #[.pointer (some ⟨tb,0,none⟩),.int .i64 fn,.slice a na c] w fun e w'=>e=.returned (.bool (uB p T fn na))∧Below w.heap.size w w':=by
 have nd:=Gl w F tb p T X h hp ht fn;have cp:=fun wr (hw:Below w.heap.size w wr)=>Bd wr F tb p T X (h.below hw)
 obtain⟨q0,q1,q2,_⟩:=h.cells;obtain⟨⟨a0,n0,m0,e0⟩,⟨a1,m1,e1,_⟩,a2,m2,e2,hfn⟩:=h.prg;rw[e0] at q0;rw[e1] at q1;rw[e2] at q2
 cases hin:au fn p.funcs.length
 ·have hv:uB p T fn na=false:=by unfold uB;rw[hin];simp
  rw[hv];clear hv hfn h hp ht;have ND:=k_ nd;clear nd;have CP:=k_ cp;clear cp
  by_cases h0:0≤fn
  ·have h1:¬ fn<p.funcs.length:=by simp[au] at hin;omega
   clear hin
   go_enter Tryz.func232,Tryz.ntmps232
   go_wp2_with fail
   go_ret
   exact⟨rfl,Below.refl _ _⟩
  ·clear hin
   go_enter Tryz.func232,Tryz.ntmps232
   go_wp2_with fail
   go_ret
   exact⟨rfl,Below.refl _ _⟩
 ·obtain⟨j,rfl,hj⟩:=fO hin
  rw[yO hj];obtain⟨bb,o,rfl,_,y0,y1,y2,y3,y4,g0,g1,g2,g3,g4,hfv⟩:=hfn j hj;obtain⟨⟨e3,e4,rfl⟩,_⟩:=hfv;have hfp:=(hp.2.2.2 p.funcs[j] (List.getElem_mem hj)).1;generalize p.funcs[j]=f at *;generalize f.nargs=nf at *;have hj0:(0:Int)≤(j:Int):=by omega
  have hj1:(j:Int)<p.funcs.length:=by omega
  clear g1 g2 g3 g4 hin h hp ht e0 e1 e2 hfn
  by_cases hnn:nf=na
  ·subst hnn
   have hq:((nf:Int) == (nf:Int))=true:=by simp
   rw[show (nf == nf)=true from by simp,Bool.true_and];generalize iR p T+(aT p (j:Int):Int)=nn at *;generalize T.words.length=cl at *
   by_cases hle:nn≤(cl:Int)
   ·rw[decide_eq_true hle]
    have ND:=k_ nd;clear nd;have CP:=k_ cp;clear cp
    go_enter Tryz.func232,Tryz.ntmps232
    go_wp2_with fail;refine ND.out.mono ?_;rintro e w1 ⟨rfl,hb1⟩;have HB1:=k_ hb1;clear hb1;go_wp2_with fail;refine(CP.out _ HB1.out).mono ?_;rintro e w2 ⟨rfl,rfl⟩;go_wp2_with fail
    go_ret
    first | exact⟨rfl,HB1.out⟩ | exact⟨congrArg (fun b=>Ending.returned (Value.bool b)) (decide_eq_true (by omega)),HB1.out⟩
   ·rw[decide_eq_false hle]
    have ND:=k_ nd;clear nd;have CP:=k_ cp;clear cp
    go_enter Tryz.func232,Tryz.ntmps232
    go_wp2_with fail;refine ND.out.mono ?_;rintro e w1 ⟨rfl,hb1⟩;have HB1:=k_ hb1;clear hb1;go_wp2_with fail;refine(CP.out _ HB1.out).mono ?_;rintro e w2 ⟨rfl,rfl⟩;go_wp2_with fail
    go_ret
    first | exact⟨rfl,HB1.out⟩ | exact⟨congrArg (fun b=>Ending.returned (Value.bool b)) (decide_eq_false (by omega)),HB1.out⟩
  ·have hq:((na:Int) == (nf:Int))=false:=by rw[beq_eq_false_iff_ne];omega
   rw[show (nf == na)=false from by simpa using hnn,Bool.false_and];clear hnn;have ND:=k_ nd;clear nd;have CP:=k_ cp;clear cp
   go_enter Tryz.func232,Tryz.ntmps232
   go_wp2_with fail
   go_ret
   exact⟨rfl,Below.refl _ _⟩
theorem TaskAt.lt {w:World} {F:Nat→Prop} {tb:Nat} {p:TPrg} {T:Tk} {X:TB} (h:TaskAt w F tb p T X):tb<w.heap.size:=aj h.row
theorem Gv (w:World) (F:Nat→Prop) (tb:Nat) (p:TPrg) (T:Tk) (X:TB) (h:TaskAt w F tb p T X) (ht:jL T) (d:Nat) (hd:d<T.parts.length) (j:Nat) (hj:j<p.funcs.length) (hfj:T.parts[d].fn=j) (s:Nat) (hs:(s:Int)<p.funcs[j].slots) (hs2:s≤3000) :
  Calls Tryz.prog 182 #[.pointer (some ⟨tb,0,none⟩),.agg #[.int .i64 d,.int .i64 s]] w fun e w'=>e=.returned (.int .i64 (T.parts[d].base+(2+s)))∧Below w.heap.size w w':=by
 have hb0:=(Below.refl w.heap.size w).alloc (Nat.le_refl _) (.cells #[.int .i64 (d:Int),.int .i64 (s:Int)] 296);have hq:=fun j=>aI w #[.int .i64 (d:Int),.int .i64 (s:Int)] 296 (0,0) j
 obtain⟨W,hW⟩:∃ W,W=(w.alloc (.cells #[.int .i64 (d:Int),.int .i64 (s:Int)] 296)):=⟨_,rfl⟩;rw[← hW] at hb0 hq;have s0:W.cell? ⟨w.heap.size,0,none⟩=some (.int .i64 (d:Int)):=hq 0;have s1:W.cell? ⟨w.heap.size,1,none⟩=some (.int .i64 (s:Int)):=hq 1;have hT:=h.below hb0;have dp:=fun m=>eF (W.drewN m) F tb p T X (hT.below (below_drewN (Below.refl _ _) m))
 obtain⟨_,_,q2,_,q4,_⟩:=hT.cells;obtain⟨_,_,a2,m2,e2,hfn⟩:=hT.prg;rw[e2] at q2;obtain⟨a,c,hpv,hel⟩:=hT.pv;rw[hpv] at q4;obtain⟨b,rfl,hb,k0,k1,k2,k3,k4⟩:=hel d hd;obtain⟨bb,o,rfl,_,y0,y1,y2,y3,y4,g0,g1,g2,g3,g4,hfv⟩:=hfn j hj;obtain⟨_,_,rfl,_⟩:=hfv;have hbd:=ht.2.2.2 T.parts[d] (List.getElem_mem hd);generalize p.funcs[j]=f at *;rw[hfj] at k0;generalize T.parts[d]=q at *;have hd0:¬ (d:Int)<0:=by omega
 have hd1:¬ (T.parts.length:Int)≤(d:Int):=by omega
 have hd2:(d:Int)<T.parts.length:=by omega
 have hd3:(0:Int)≤(d:Int):=by omega
 have hj0:(0:Int)≤(j:Int):=by omega
 have hj1:(j:Int)<p.funcs.length:=by omega
 have hs0:¬ (s:Int)<0:=by omega
 have hs1:¬ f.slots≤(s:Int):=by omega
 have sf:=fun w=>BK w (j:Int) (s:Int) (by omega) (by omega)
 have i1:IntKind.i64.wrap (q.base+(2+(s:Int)))=q.base+(2+(s:Int)):=IntWalk.i64_in _ (by omega);have HW:=k_ hW;clear hq hW hel hpv hb hfn e2 g0 g1 g3 g4 hT h ht hbd hd hj hs hfj;generalize T.parts.length=pl at *;generalize p.funcs.length=fl at *;have DP:=k_ dp;clear dp;have HB0:=k_ hb0;clear hb0;have SF:=k_ sf;clear sf
 go_enter Tryz.func182,Tryz.ntmps182
 go_upto_region 1 with fail
 rw[← HW.out]
 go_quiet ((go_at_call 236;exact Calls.quiet_of_same ((DP.out _).mono fun _ _ ⟨a,b⟩=>⟨a,b.symm⟩)))
 go_upto_region 3 with fail
 have hB1:Below W.heap.size W (W.drewN nq):=below_drewN (Below.refl _ _) nq;have hb1:=HB0.out.trans (hB1.mono HB0.out.size);have s0:=ae hB1 s0;have s1:=ae hB1 s1;have q2:=ae hB1 q2;have q4:=ae hB1 q4;have k0:=ae hB1 k0;have k1:=ae hB1 k1;have k2:=ae hB1 k2;have k3:=ae hB1 k3;have k4:=ae hB1 k4;have g2:=ae hB1 g2;clear hB1;generalize W.drewN nq=W1 at *;have hw1:=Below.refl W1.heap.size W1;have hbw:∀ wr,Below W1.heap.size W1 wr→Below w.heap.size w wr:=fun wr h=>hb1.trans (h.mono hb1.size)
 have hs0':∀ wr,Below W1.heap.size W1 wr→wr.cell? _=_:=fun wr h=>ae h s0
 have hs1':∀ wr,Below W1.heap.size W1 wr→wr.cell? _=_:=fun wr h=>ae h s1
 have hq2':∀ wr,Below W1.heap.size W1 wr→wr.cell? _=_:=fun wr h=>ae h q2
 have hg2':∀ wr,Below W1.heap.size W1 wr→wr.cell? _=_:=fun wr h=>ae h g2
 clear hb1;have HW1:=k_ hw1;clear hw1;have HBW:=k_ hbw;clear hbw;have HS0':=k_ hs0';clear hs0';have HS1':=k_ hs1';clear hs1';have HQ2':=k_ hq2';clear hq2';have HG2':=k_ hg2';clear hg2'
 go_cut [5] (fun t wx=>∃ z:Nat,t=.pointer (some ⟨z,0,none⟩)∧wx.heap[z]?=some (.cells #[.int .i64 (j:Int),.int .i64 q.pc,.int .i64 q.base,.int .i64 q.ret,.slice q.ta q.tn q.tc] 291)∧Below W1.heap.size W1 wx)
 case first =>
  have bs:=World.block_lt s0;have bk:=World.block_lt k0;have bq:=World.block_lt q4
  dsimp only at bs bk bq
  go_region
  all_goals
   go_wp2_with fail
   go_meet
   case rel=>exact⟨_,rfl,ai _ _,(HW1.out.drew).alloc (HW1.out.size) _⟩
 case rest =>
  obtain⟨z,rfl,hz,hR⟩:=hcut;have s0:=HS0'.out wc hR;have s1:=HS1'.out wc hR;have q2:=HQ2'.out wc hR;have g2:=HG2'.out wc hR;have p0:wc.cell? ⟨z,0,none⟩=some (.int .i64 (j:Int)):=(aa hz 0).1;have p2:wc.cell? ⟨z,2,none⟩=some (.int .i64 q.base):=(aa hz 2).1;have hbc:=HBW.out wc hR;clear k0 k1 k2 k3 k4 q4 hR hz;have HBC:=k_ hbc;clear hbc
  go_upto_region 4 with fail
  go_quiet (fail)
  go_upto_region 6 with fail
  have hB2:Below wc.heap.size wc (wc.drewN nq):=below_drewN (Below.refl _ _) nq;have s1:=ae hB2 s1;have p0:=ae hB2 p0;have p2:=ae hB2 p2;have hbe:=below_drewN HBC.out nq;clear hB2 HBC;generalize wc.drewN nq=W2 at *;have HBE:=k_ hbe;clear hbe
  go_quiet ((go_at_call 259;exact Calls.quiet_of_same ((SF.out _).mono fun _ _ ⟨a,b⟩=>⟨a,b.symm⟩)))
  go_wp2_with fail
  go_ret
  exact⟨rfl,below_drewN HBE.out _⟩
def atN (p:TPrg) (f:TFun) (k:Nat):Nat:=2+f.slots.toNat+oP p (f.objects.take k)
def Kn (p:TPrg) (f:TFun) (j k:Nat):{ x:Int × Int // aJ x.1∧aJ x.2 }→Option (Int × Int):=fun q =>
 if q.1.1=j∧0≤q.1.2∧q.1.2<k then some ((atN p f q.1.2.toNat:Int),(eU p (f.objects.getD q.1.2.toNat 0):Int)) else none
def KQ (p:TPrg) (f:TFun) (j:Nat):{ x:Int × Int // aJ x.1∧aJ x.2 }→Option (Int × Int):=Kn p f j f.objects.length
end Go.Proofs.YtlofbhoicbemnaaGreatDoor.Tk
