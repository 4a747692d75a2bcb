/- Walks: SetNil; who looks at a nil pointer panics. The first program of a whole machine: its flow; its task's steps. Walks: where a task .. -/
import Derived.Test.YtlofbhoicbemnaaGreatDoorGBa
import Derived.Test.YtlofbhoicbemnaaGreatDoorGBl
set_option linter.unusedVariables false
set_option linter.unusedSimpArgs false
set_option maxRecDepth 100000
set_option maxHeartbeats 3200000
namespace Go.Proofs.YtlofbhoicbemnaaGreatDoor.Tk
open Go.ChangeShapes Go.WideShapes Go.ChangeAt Go.RowKit Go.Maps
theorem Hw (w:World) (F:Nat→Prop) (tb:Nat) (p:TPrg) (T:Tk) (X:TB) (h:TaskAt w F tb p T X) (c0 c1 c2 mp:Value) (ia ib ic:Int) (X1:TB) (hX1:X1.D=X.D) (al:List Alarm) (kf:{ x:Int × Int // aJ x.1∧aJ x.2 }→Option Int) (T':Tk) (k a f v fn:Int) (bb:Bool) (r0:Option Addr) (r1 r2:Nat)
  (ASK:∀ wr,Below w.heap.size w wr→Calls Tryz.prog 256 #[.agg (aV c0 c1 c2 mp tb 27 ia ib ic)] wr (aW wr F tb p X1 T' al kf (bA k a f v fn bb (.slice r0 r1 r2)))) :
  Calls Tryz.prog 177 #[.agg (aV c0 c1 c2 mp tb 27 ia ib ic)] w (aW w F tb p X1 T' al kf (bA k a f v fn bb (.slice r0 r1 r2))):=by
 have ASKX:=k_ ASK;clear ASK;unfold aV at ASKX;have hb0:=((Below.refl w.heap.size w).alloc (Nat.le_refl _) (.cells (aV c0 c1 c2 mp tb 27 ia ib ic) 287));have hb1:=hb0.alloc hb0.size bB;have hr0:=aU (ai w (.cells (aV c0 c1 c2 mp tb 27 ia ib ic) 287)) bB;have hr1:=ai (w.alloc (.cells (aV c0 c1 c2 mp tb 27 ia ib ic) 287)) bB;rw[show (w.alloc (.cells (aV c0 c1 c2 mp tb 27 ia ib ic) 287)).heap.size=w.heap.size+1 from by simp] at hr1;obtain⟨W,hW⟩:∃ W,W=(w.alloc (.cells (aV c0 c1 c2 mp tb 27 ia ib ic) 287)).alloc bB:=⟨_,rfl⟩;rw[← hW] at hb1 hr0 hr1;have HFLT:=k_ h.flt;have HOUT:=k_ (fun k (hk:X.D k)=>(h.out k hk).2);have hwz:W.heap.size=w.heap.size+2:=by rw[hW];simp
 unfold bB at hW hr1;unfold aV at hW hr0;have HW:=k_ hW;have k4:W.cell? ⟨w.heap.size,4,none⟩=some (.pointer (some ⟨tb,0,none⟩)):=(aa hr0 4).1;have k5:W.cell? ⟨w.heap.size,5,none⟩=some (.int .i64 27):=(aa hr0 5).1;have k6:W.cell? ⟨w.heap.size,6,none⟩=some (.int .i64 ia):=(aa hr0 6).1;have k7:W.cell? ⟨w.heap.size,7,none⟩=some (.int .i64 ib):=(aa hr0 7).1;have k8:W.cell? ⟨w.heap.size,8,none⟩=some (.int .i64 ic):=(aa hr0 8).1;have HRR:=k_ (Below.refl W.heap.size W);clear hb0 hW;have HB1:=k_ hb1;clear hb1;have HR1:=k_ hr1;clear hr1;have HR0:=k_ hr0;clear hr0;have HWZ:=k_ hwz;clear hwz;unfold aV
 go_enter Tryz.func177,Tryz.ntmps177
 go_upto_region 1 with fail
 rw[← HW.out]
 go_cut [3,4] (fun x y wx=>∃ z:Nat,x=.pointer (some ⟨z,0,none⟩)∧y=.pointer (some ⟨tb,0,none⟩)∧wx.heap[z]?=some (.cells #[.int .i64 27,.int .i64 ia,.int .i64 ib,.int .i64 ic] 63)∧w.heap.size+2≤z∧Below W.heap.size W wx)
 case first =>
  have bs:=World.block_lt k4
  dsimp only at bs
  go_region
  all_goals
   go_wp2_with fail
   go_meet
   case rel=>exact⟨_,rfl,rfl,ai _ _,by have:=HWZ.out;omega,(HRR.out.drew).alloc (HRR.out.size) _⟩
 case rest =>
  obtain⟨z,rfl,rfl,hz,hzl,hR⟩:=hcut;have hbc:=HB1.out.trans (hR.mono HB1.out.size);have hrb:=(fb_ hR).heap HR0.out (fun h=>h);have hrc:=(fb_ hR).heap HR1.out (fun h=>h);have HBC:=k_ hbc;have HSZ:=k_ (show w.heap.size+2≤wc.heap.size from by have:=hR.size;have:=HWZ.out;omega);have HRW:=k_ (fun wx (hw:Below wc.heap.size wc wx)=>(fb_ hw).heap hrc (fun h=>h));have HSS:=k_ (show ∀ wx,Below wc.heap.size wc wx→wx.cell? ⟨w.heap.size,0,none⟩=some (c0)∧wx.cell? ⟨w.heap.size,1,none⟩=some (c1)∧wx.cell? ⟨w.heap.size,2,none⟩=some (c2)∧wx.cell? ⟨w.heap.size,3,none⟩=some (mp)∧wx.cell? ⟨w.heap.size,4,none⟩=some (.pointer (some ⟨tb,0,none⟩))∧wx.cell? ⟨w.heap.size,5,none⟩=some (.int .i64 27)∧wx.cell? ⟨w.heap.size,6,none⟩=some (.int .i64 ia)∧wx.cell? ⟨w.heap.size,7,none⟩=some (.int .i64 ib)∧wx.cell? ⟨w.heap.size,8,none⟩=some (.int .i64 ic)∧wx.cell? ⟨z,0,none⟩=some (.int .i64 27)∧wx.cell? ⟨z,1,none⟩=some (.int .i64 ia)∧wx.cell? ⟨z,2,none⟩=some (.int .i64 ib)∧wx.cell? ⟨z,3,none⟩=some (.int .i64 ic) from fun wx hw=>by
   have g1:=(fb_ hw).heap hrb (fun h=>h);have g2:=(fb_ hw).heap hz (fun h=>h);exact⟨(aa g1 0).1,(aa g1 1).1,(aa g1 2).1,(aa g1 3).1,(aa g1 4).1,(aa g1 5).1,(aa g1 6).1,(aa g1 7).1,(aa g1 8).1,(aa g2 0).1,(aa g2 1).1,(aa g2 2).1,(aa g2 3).1⟩)
  have hSd:=HSS.out wc.drew (Below.refl wc.heap.size wc).drew;have HRC:=k_ (Below.refl wc.heap.size wc);have HRD:=k_ (Below.refl wc.heap.size wc).drew;have z0:wc.cell? ⟨z,0,none⟩=some (.int .i64 27):=(aa hz 0).1;clear hR hrb hrc hz k4 k5 k6 k7 k8 hbc;obtain⟨y0,y1,y2,y3,y4,y5,y6,y7,y8,_,_,_,_⟩:=HSS.out _ HRC.out;clear hSd
  go_upto_region 40 with fail
  go_wp2_with fail;refine(ASKX.out _ HBC.out).mono ?_;rintro e w5 ⟨rfl,F',X',hT5,hXD,hF',hf5⟩;have HWD:=HRC;clear y0 y1 y2 y3 y4 y5 y6 y7 y8 z0;have hsz5:w.heap.size+2≤wc.heap.size:=by have:=HSZ.out;omega
  have hr5:=hf5.heap (HRW.out _ HWD.out) (fun e=>by have:=HFLT.out (w.heap.size+1) e;omega);obtain⟨⟨u0,u1,u2,u3,u4,u5,u6⟩,n0,n1,n2,n3,n4,n5,n6⟩:=aX hr5;have hfs:=bO w5 (.int .i64 k) (.int .i64 a) (.int .i64 f) (.int .i64 v) (.int .i64 fn) (.bool bb) (.slice r0 r1 r2) (w.heap.size+1);have hrs:=bN hr5 (.int .i64 k) (.int .i64 a) (.int .i64 f) (.int .i64 v) (.int .i64 fn) (.bool bb) (.slice r0 r1 r2);have hFz:∀ q,F' q→q≠w.heap.size+1:=fun q hq e=>by
   rcases hF' q hq with h1 | h1
   ·have:=HFLT.out q h1;omega
   ·have:=HWD.out.size;omega
  have hT6:=hT5.fr hfs (fun q hq e=>hFz q hq e) (fun q hq e=>by rw[hXD.1,hX1] at hq;have:=HOUT.out q hq;have e:q=w.heap.size+1:=e;omega);have hfw:=(Fr.of_below (HBC.out.trans (HWD.out.mono HBC.out.size)) F).trans hf5 (fun _ _ h=>h);have hf6:=hfw.trans hfs (fun q hq e=>by have e:q=w.heap.size+1:=e;omega);have hF6:∀ q,F' q→F q∨w.heap.size≤q:=fun q hq=>(hF' q hq).imp id (fun h1=>by have:=HWD.out.size;omega)
  have HPP:=k_ (show aW w F tb p X1 _ _ _ (bA k a f v fn bb (.slice r0 r1 r2)) _ _ from⟨rfl,F',X',hT6,hXD,hF6,hf6⟩);clear hfs hr5 hT5 hT6 hfw hf6 hf5 hF6 hFz hF' hXD hsz5;have HRS:=k_ hrs;clear hrs;unfold bA;go_wp2_with fail;refine bodyPost_ret ?_ rfl HPP.out;have k0:=(aa HRS.out 0).1;have k1:=(aa HRS.out 1).1;have k2:=(aa HRS.out 2).1;have k3:=(aa HRS.out 3).1;have k4:=(aa HRS.out 4).1;have k5:=(aa HRS.out 5).1;have k6:=(aa HRS.out 6).1;simp at k0 k1 k2 k3 k4 k5 k6;simp[results,Tryz.results177,go_sem,k0,k1,k2,k3,k4,k5,k6,bA]
def qZ:TPrg:=⟨[],[⟨0,1,[]⟩]⟩
def pZ (v:Int):Prg:=⟨[],[],[⟨[],0,1,[],[⟨1,0,v,0⟩,⟨29,0,0,0⟩,⟨27,0,0,0⟩]⟩]⟩
def tZ (_:Nat):List (Option (List Int)):=[some [0],some [1],some [1]]
theorem rA:eG qZ:=by
 unfold eG qZ
 simp
theorem wZ:aT qZ (0:Nat)=3:=by decide
theorem IJ (p:Prg) (o a b c:Int) (h:o≠17∧o≠21∧o≠23∧o≠24):uY p ⟨o,a,b,c⟩ :=
 ⟨fun e=>absurd e h.1,fun k _ e=>by have e:o=21∨o=23∨o=24:=e;omega⟩
theorem KE (v:Int) (hv:v=5∨v=-7):gu (pZ v)=(0,0,0):=by
 rcases hv with rfl | rfl <;> decide +kernel
theorem J4 (v:Int) (hv:v=5∨v=-7):pM (pZ v)∧qP (pZ v):=by
 have hz:IsZ (pZ v):=fun f hf i hi=>by
  have hf:f ∈ [(⟨[],0,1,[],[⟨1,0,v,0⟩,⟨29,0,0,0⟩,⟨27,0,0,0⟩]⟩:Fun)]:=hf
  simp at hf
  subst hf;have hi:i ∈ [(⟨1,0,v,0⟩:Ins),⟨29,0,0,0⟩,⟨27,0,0,0⟩]:=hi
  simp at hi
  rcases hi with rfl | rfl | rfl
  ·exact Or.inl ⟨v,rfl⟩
  ·exact Or.inr (Or.inl rfl)
  ·exact Or.inr (Or.inr rfl)
 have h:pM (pZ v)∧(pZ v).globals.length≤3000∧(pZ v).shapes.length≤3000∧(pZ v).funcs.length≤3000∧(∀ s ∈ (pZ v).shapes,s.length≤3000)∧∀ f ∈ (pZ v).funcs,f.args.length≤3000∧f.objects.length≤3000∧f.code.length≤3000:=by
  unfold pM Js Ins.wf aJ pZ
  rcases hv with rfl | rfl <;> simp
 exact⟨h.1,⟨hz,h.2.1⟩,h.2.2⟩
theorem JW (v:Int) (hv:v=5∨v=-7):I8 (pZ v) tZ:=fun i hi=>by
 obtain rfl:i=0:=by have:i<1:=hi;omega
 have h:(IU (pZ v) (iG (pZ v) 0) (tZ 0)=true∧I5 (pZ v) (iG (pZ v) 0) (tZ 0) [0,0,1]=true)∧(jI (pZ v) (iG (pZ v) 0) (mG (tZ 0))).1=0:=by
  rcases hv with rfl | rfl <;> exact⟨⟨by kernel_rfl,by kernel_rfl⟩,by kernel_rfl⟩
 refine⟨zo (par:=[0,0,1]) (fun j hj=>?_) h.1.1 h.1.2,h.2⟩;have hj:j ∈ [(⟨1,0,v,0⟩:Ins),⟨29,0,0,0⟩,⟨27,0,0,0⟩]:=hj
 simp at hj
 rcases hj with rfl | rfl | rfl <;> exact IJ _ _ _ _ _ (by decide)
def DN (x:Int):List Int:=[0,0,x,0,0,0,0,0,0,0,0,0,0,0,0,0]
def TZ (pc:Int) (x:Int):Tk:=⟨1073741824,DN x,[⟨0,pc,0,-1,none,0,0⟩],[⟨false,false,0⟩]⟩
def TZ0 (x:Int):Tk:=⟨1073741824,DN x,[],[]⟩
theorem Gj (pc x:Int):jL (TZ pc x):=⟨by show 1≤1000;decide,by show 1≤1000;decide,by show 16≤100000;decide,fun q hq=>by
 have h1:q ∈ ([⟨0,pc,0,-1,none,0,0⟩]:List Part):=hq
 simp at h1
 rw[h1];exact⟨Int.le_refl 0,show (0:Int)≤100000000 by decide⟩⟩
theorem Ja (x:Int):jL (TZ0 x):=⟨by show 0≤1000;decide,by show 0≤1000;decide,by show 16≤100000;decide,fun q hq=>by cases hq⟩
def alZ:Alarm:=⟨0,0,0,true,false⟩
theorem Aw (w:World) (F:Nat→Prop) (tb:Nat) (p:TPrg) (T:Tk) (X:TB) (c0 c1 c2 mp:Value) (ia ib ic:Int) (h:TaskAt w F tb p T X) (T':Tk) (A:List Alarm) (KF:{ x:Int × Int // aJ x.1∧aJ x.2 }→Option Int)
  (EXI:∀ wx,Below w.heap.size w wx→Calls Tryz.prog 321 #[.pointer (some ⟨tb,0,none⟩)] wx fun e w'=>e=.returned (.tuple #[])∧∃ F' X',TaskAt w' F' tb p T' X'∧X'.Q X A KF∧(∀ k,F' k→F k∨wx.heap.size≤k)∧Fr F wx w') :
  Calls Tryz.prog 256 #[.agg (aV c0 c1 c2 mp tb 27 ia ib ic)] w (aW w F tb p X T' A KF (bA 0 0 0 0 0 false (.slice none 0 0))):=by
 have EXX:=k_ EXI;clear EXI;have hb0:=((Below.refl w.heap.size w).alloc (Nat.le_refl _) (.cells (aV c0 c1 c2 mp tb 27 ia ib ic) 287));have hb1:=hb0.alloc hb0.size bB;have hr0:=aU (ai w (.cells (aV c0 c1 c2 mp tb 27 ia ib ic) 287)) bB;have hr1:=ai (w.alloc (.cells (aV c0 c1 c2 mp tb 27 ia ib ic) 287)) bB;rw[show (w.alloc (.cells (aV c0 c1 c2 mp tb 27 ia ib ic) 287)).heap.size=w.heap.size+1 from by simp] at hr1;obtain⟨W,hW⟩:∃ W,W=(w.alloc (.cells (aV c0 c1 c2 mp tb 27 ia ib ic) 287)).alloc bB:=⟨_,rfl⟩;rw[← hW] at hb1 hr0 hr1;have HFLT:=k_ h.flt;have HOUT:=k_ (fun k (hk:X.D k)=>(h.out k hk).2);have hwz:W.heap.size=w.heap.size+2:=by rw[hW];simp
 unfold bB at hW hr1;unfold aV at hW hr0;have HW:=k_ hW;have k4:W.cell? ⟨w.heap.size,4,none⟩=some (.pointer (some ⟨tb,0,none⟩)):=(aa hr0 4).1;have k5:W.cell? ⟨w.heap.size,5,none⟩=some (.int .i64 27):=(aa hr0 5).1;have k6:W.cell? ⟨w.heap.size,6,none⟩=some (.int .i64 ia):=(aa hr0 6).1;have k7:W.cell? ⟨w.heap.size,7,none⟩=some (.int .i64 ib):=(aa hr0 7).1;have k8:W.cell? ⟨w.heap.size,8,none⟩=some (.int .i64 ic):=(aa hr0 8).1;have HRR:=k_ (Below.refl W.heap.size W);clear hb0 hW;have HB1:=k_ hb1;clear hb1;have HR1:=k_ hr1;clear hr1;have HR0:=k_ hr0;clear hr0;have HWZ:=k_ hwz;clear hwz;unfold aV
 go_enter Tryz.func256,Tryz.ntmps256
 go_upto_region 1 with fail
 rw[← HW.out]
 go_cut [3,4] (fun x y wx=>∃ z:Nat,x=.pointer (some ⟨z,0,none⟩)∧y=.pointer (some ⟨tb,0,none⟩)∧wx.heap[z]?=some (.cells #[.int .i64 27,.int .i64 ia,.int .i64 ib,.int .i64 ic] 63)∧w.heap.size+2≤z∧Below W.heap.size W wx)
 case first =>
  have bs:=World.block_lt k4
  dsimp only at bs
  go_region
  all_goals
   go_wp2_with fail
   go_meet
   case rel=>exact⟨_,rfl,rfl,ai _ _,by have:=HWZ.out;omega,(HRR.out.drew).alloc (HRR.out.size) _⟩
 case rest =>
  obtain⟨z,rfl,rfl,hz,hzl,hR⟩:=hcut;have hbc:=HB1.out.trans (hR.mono HB1.out.size);have hrb:=(fb_ hR).heap HR0.out (fun h=>h);have hrc:=(fb_ hR).heap HR1.out (fun h=>h);have HBC:=k_ hbc;have HSZ:=k_ (show w.heap.size+2≤wc.heap.size from by have:=hR.size;have:=HWZ.out;omega);have HRW:=k_ (fun wx (hw:Below wc.heap.size wc wx)=>(fb_ hw).heap hrc (fun h=>h));have HSS:=k_ (show ∀ wx,Below wc.heap.size wc wx→wx.cell? ⟨w.heap.size,0,none⟩=some (c0)∧wx.cell? ⟨w.heap.size,1,none⟩=some (c1)∧wx.cell? ⟨w.heap.size,2,none⟩=some (c2)∧wx.cell? ⟨w.heap.size,3,none⟩=some (mp)∧wx.cell? ⟨w.heap.size,4,none⟩=some (.pointer (some ⟨tb,0,none⟩))∧wx.cell? ⟨w.heap.size,5,none⟩=some (.int .i64 27)∧wx.cell? ⟨w.heap.size,6,none⟩=some (.int .i64 ia)∧wx.cell? ⟨w.heap.size,7,none⟩=some (.int .i64 ib)∧wx.cell? ⟨w.heap.size,8,none⟩=some (.int .i64 ic)∧wx.cell? ⟨z,0,none⟩=some (.int .i64 27)∧wx.cell? ⟨z,1,none⟩=some (.int .i64 ia)∧wx.cell? ⟨z,2,none⟩=some (.int .i64 ib)∧wx.cell? ⟨z,3,none⟩=some (.int .i64 ic) from fun wx hw=>by
   have g1:=(fb_ hw).heap hrb (fun h=>h);have g2:=(fb_ hw).heap hz (fun h=>h);exact⟨(aa g1 0).1,(aa g1 1).1,(aa g1 2).1,(aa g1 3).1,(aa g1 4).1,(aa g1 5).1,(aa g1 6).1,(aa g1 7).1,(aa g1 8).1,(aa g2 0).1,(aa g2 1).1,(aa g2 2).1,(aa g2 3).1⟩)
  have hSd:=HSS.out wc.drew (Below.refl wc.heap.size wc).drew;have HRC:=k_ (Below.refl wc.heap.size wc);have HRD:=k_ (Below.refl wc.heap.size wc).drew;have z0:wc.cell? ⟨z,0,none⟩=some (.int .i64 27):=(aa hz 0).1;clear hR hrb hrc hz k4 k5 k6 k7 k8 hbc;obtain⟨y0,y1,y2,y3,y4,y5,y6,y7,y8,z0,z1,z2,z3⟩:=HSS.out _ HRC.out;clear hSd;go_wp2_with fail;refine(EXX.out _ HBC.out).mono ?_;rintro e w5 ⟨rfl,F',X',hT5,hXD,hF',hf5⟩;have HWD:=HRC;clear y0 y1 y2 y3 y4 y5 y6 y7 y8 z0 z1 z2 z3;have hsz5:w.heap.size+2≤wc.heap.size:=by have:=HSZ.out;omega
  have hr5:=hf5.heap (HRW.out _ HWD.out) (fun e=>by have:=HFLT.out (w.heap.size+1) e;omega);obtain⟨⟨u0,u1,u2,u3,u4,u5,u6⟩,n0,n1,n2,n3,n4,n5,n6⟩:=aX hr5;have hfs:=bO w5 (.int .i64 0) (.int .i64 0) (.int .i64 0) (.int .i64 0) (.int .i64 0) (.bool false) (.slice none 0 0) (w.heap.size+1);have hrs:=bN hr5 (.int .i64 0) (.int .i64 0) (.int .i64 0) (.int .i64 0) (.int .i64 0) (.bool false) (.slice none 0 0);have hFz:∀ q,F' q→q≠w.heap.size+1:=fun q hq e=>by
   rcases hF' q hq with h1 | h1
   ·have:=HFLT.out q h1;omega
   ·have:=HWD.out.size;omega
  have hT6:=hT5.fr hfs (fun q hq e=>hFz q hq e) (fun q hq e=>by rw[hXD.1] at hq;have:=HOUT.out q hq;have e:q=w.heap.size+1:=e;omega);have hfw:=(Fr.of_below (HBC.out.trans (HWD.out.mono HBC.out.size)) F).trans hf5 (fun _ _ h=>h);have hf6:=hfw.trans hfs (fun q hq e=>by have e:q=w.heap.size+1:=e;omega);have hF6:∀ q,F' q→F q∨w.heap.size≤q:=fun q hq=>(hF' q hq).imp id (fun h1=>by have:=HWD.out.size;omega)
  have HPP:=k_ (show aW w F tb p X _ _ _ (bA 0 0 0 0 0 false (.slice none 0 0)) _ _ from⟨rfl,F',X',hT6,hXD,hF6,hf6⟩);clear hfs hr5 hT5 hT6 hfw hf6 hf5 hF6 hFz hF' hXD hsz5;have HRS:=k_ hrs;clear hrs;unfold bA;go_wp2_with fail;refine bodyPost_ret ?_ rfl HPP.out;have k0:=(aa HRS.out 0).1;have k1:=(aa HRS.out 1).1;have k2:=(aa HRS.out 2).1;have k3:=(aa HRS.out 3).1;have k4:=(aa HRS.out 4).1;have k5:=(aa HRS.out 5).1;have k6:=(aa HRS.out 6).1;simp at k0 k1 k2 k3 k4 k5 k6;simp[results,Tryz.results256,go_sem,k0,k1,k2,k3,k4,k5,k6,bA]
section
variable {w:World} {F:Nat→Prop} {tb:Nat} {X:TB}
theorem Ho (v:Int) (hv32:wrap32 v=v) (h:TaskAt w F tb qZ (TZ 0 0) X) (hA:X.al=[]) (D:Nat→Prop) (hD:∀ k,D k→¬ F k∧k<w.heap.size) (c0 c1 c2:Value) (ma:Option Addr) (hv:aD w D (pZ v) c0 c1 c2) :
  Calls Tryz.prog 126 #[.agg #[c0,c1,c2],.pointer ma,.pointer (some ⟨tb,0,none⟩)] w (gW w F tb qZ X (TZ 1 v) (bA 0 0 0 0 0 false (.slice none 0 0))) :=
 yn w F tb qZ (TZ 0 0) X h (by show 1≤1000;decide) (by rw[hA];rfl) (by show 1≤10000;decide) (by rw[hA];simp) [] ⟨0,0,0,-1,none,0,0⟩ rfl D hD (pZ v) c0 c1 c2 ma hv 0 (by show 0<1;decide) rfl 0 rfl (by show 0<3;decide) ⟨1,0,v,0⟩ rfl (TZ 1 v) 0 0 0 0 0 false none 0 0 (fun wr hw=>by
  have rs:=zI wr F tb qZ (TZ 0 0) X (h.below hw) (Gj 0 0) [] ⟨0,0,0,-1,none,0,0⟩ rfl ⟨by decide,by decide⟩ 0 (by show 0<1;decide) rfl 0 rfl 0 (by show (0:Int)<1;decide) (by omega) (by show 0+(2+0)<16;decide) c0 c1 c2 (.pointer ma) v 0;rw[hv32] at rs;exact rs)
theorem IQ (v:Int) (h:TaskAt w F tb qZ (TZ 1 v) X) (hA:X.al=[]) (D:Nat→Prop) (hD:∀ k,D k→¬ F k∧k<w.heap.size) (c0 c1 c2:Value) (ma:Option Addr) (hv:aD w D (pZ v) c0 c1 c2) :
  Calls Tryz.prog 126 #[.agg #[c0,c1,c2],.pointer ma,.pointer (some ⟨tb,0,none⟩)] w (gW w F tb qZ X (TZ 2 v) (bA 2 0 0 v 0 false (.slice none 0 0))) :=
 yn w F tb qZ (TZ 1 v) X h (by show 1≤1000;decide) (by rw[hA];rfl) (by show 1≤10000;decide) (by rw[hA];simp) [] ⟨0,1,0,-1,none,0,0⟩ rfl D hD (pZ v) c0 c1 c2 ma hv 0 (by show 0<1;decide) rfl 1 rfl (by show 1<3;decide) ⟨29,0,0,0⟩ rfl (TZ 2 v) 2 0 0 v 0 false none 0 0 (fun wr hw =>
  Bb wr F tb qZ (TZ 1 v) X (h.below hw) (Gj 1 v) [] ⟨0,1,0,-1,none,0,0⟩ rfl ⟨by decide,by decide⟩ 0 (by show 0<1;decide) rfl 0 rfl 0 (by show (0:Int)<1;decide) (by omega) (by show 0+(2+0)<16;decide) v rfl c0 c1 c2 (.pointer ma) 0 0)
theorem IK (v:Int) (h:TaskAt w F tb qZ (TZ 2 v) X) (hA:X.al=[]) (D:Nat→Prop) (hD:∀ k,D k→¬ F k∧k<w.heap.size) (c0 c1 c2:Value) (ma:Option Addr) (hv:aD w D (pZ v) c0 c1 c2) :
  Calls Tryz.prog 126 #[.agg #[c0,c1,c2],.pointer ma,.pointer (some ⟨tb,0,none⟩)] w (aW w F tb qZ X (TZ 2 v) [alZ] X.kf (bA 0 0 0 0 0 false (.slice none 0 0))):=by
 refine C9 w F tb qZ (TZ 2 v) X h (by show 1≤1000;decide) (by rw[hA];rfl) (by show 1≤10000;decide) (by rw[hA];exact Nat.zero_le _) [] ⟨0,2,0,-1,none,0,0⟩ rfl D hD (pZ v) c0 c1 c2 ma hv 0 (by show 0<1;decide) rfl 2 rfl (by show 2<3;decide) ⟨27,0,0,0⟩ rfl X rfl _ _ _ 0 0 0 0 0 false none 0 0 (fun wr hb=>?_);refine Hw wr F tb qZ (TZ 2 v) X (h.below hb) _ _ _ _ 0 0 0 X rfl _ _ _ 0 0 0 0 0 false none 0 0 (fun wq hq=>?_);have hbq:=hb.trans (hq.mono hb.size);refine Aw wq F tb qZ (TZ 2 v) X c0 c1 c2 (.pointer ma) 0 0 0 (h.below hbq) _ _ _ (fun wx hx=>?_);have:=Ao wx F tb qZ (TZ 2 v) X ((h.below hbq).below hx) (by show 1≤10000;decide) (by rw[hA];exact Nat.zero_le _);rw[hA] at this;exact this
theorem JE (v:Int) (h:TaskAt w F tb qZ (TZ0 v) X) (hA:X.al=[alZ]) (lv:Bool) :
  Calls Tryz.prog 172 #[.pointer (some ⟨tb,0,none⟩)] w (rF w [alZ] (FrP 0 lv)):=by
 refine(yJ w F tb qZ (TZ0 v) X h rA (Ja v) (fun _=>1) ⟨rfl,fun d hd=>absurd hd (Nat.not_lt_zero _)⟩ (fun q hq=>by cases hq) (by rw[hA];decide)).mono ?_;rintro e w' ⟨fr,v,av,g1,g2,g3,rfl,ha,_,hv,hfl,_,_,hb⟩;have hfl:fr.length=0:=hfl;obtain⟨a3,c3,rfl,_⟩:=aP hv;obtain⟨a5,n5,c5,rfl⟩:=ha.slice;rw[hA] at ha;exact⟨_,_,_,_,_,_,_,_,_,_,_,rfl,ha,⟨a3,c3,by rw[hfl],fun k hk=>by omega⟩,hb⟩
theorem H7 (v:Int) (h:TaskAt w F tb qZ (TZ 2 v) X) (hA:X.al=[alZ]) (hkf:X.kf=fun _=>none) (D:Nat→Prop) (hD:∀ k,D k→¬ F k∧k<w.heap.size) (c0 c1 c2:Value) (ma:Option Addr) (hv:aD w D (pZ v) c0 c1 c2) :
  Calls Tryz.prog 126 #[.agg #[c0,c1,c2],.pointer ma,.pointer (some ⟨tb,0,none⟩)] w (aW w F tb qZ X (TZ0 v) [alZ] (qQ X.kf 0) (bA 0 0 0 0 0 false (.slice none 0 0))):=by
 obtain⟨⟨a0,m0,rfl,_⟩,⟨a1,m1,rfl,_⟩,a2,m2,rfl,hf⟩:=hv;obtain⟨bb,o,rfl,hbb,_,_,_,_,_,_,r1,_,_,_,f1,_⟩:=hf 0 (by show 0<1;decide);rw[f1] at r1;have hok:=Gj 2 v;have hI:aJ ((0:Nat):Int)∧aJ 0:=by constructor <;> unfold aJ <;> omega
 refine CJ w F tb qZ (TZ 2 v) X h (by rw[hA];rfl) (by show 1≤10000;decide) (by rw[hA];decide) _ _ _ _ _ _ _ _ _ ma _ _ _ 0 0 0 0 0 false none 0 0 (fun wr hb=>?_);have hT:=h.below hb;have:=Ir wr F tb qZ X hT.flt (.slice a0 (pZ v).globals.length m0) (.slice a1 (pZ v).shapes.length m1) 0 bb o (pZ v).funcs.length m2 (by show 0<1;decide) 0 (fun wx hx=>ae (hb.trans (hx.mono hb.size)) r1) ⟨a0,(pZ v).globals.length,m0,a1,(pZ v).shapes.length,m1,rfl,rfl⟩ 0 false
  (fun wx hx=>xq wx F tb qZ (TZ 2 v) X (hT.below hx) (by show 1≤1000;decide) 0 rfl hI 0 false (.inr ⟨by rw[hkf],rfl,rfl⟩))
  (fun wx hx=>(qX wx F tb qZ (TZ 2 v) X (hT.below hx) (by show 1≤1000;decide) 0 rfl).mono (fun e w' he=>(show e=.returned (.int .i64 (0:Nat))∧Below wx.heap.size wx w' from⟨he.1,by obtain⟨m,hm⟩:=he.2;rw[hm];exact below_drewN (Below.refl _ _) m⟩)))
  [alZ] (by decide) (fun e=>absurd rfl e) false (by decide)
  false (fun wx hx=>sM wx F tb qZ (TZ 2 v) X (hT.below hx) (by show 1≤1000;decide) [] ⟨false,false,0⟩ rfl rfl)
  (TZ0 v) [alZ] (by decide) (qQ X.kf 0)
  (fun wx hx=>Ik wx F tb qZ (TZ 2 v) X (hT.below hx) hok [] ⟨0,2,0,-1,none,0,0⟩ rfl [] ⟨false,false,0⟩ rfl 0 false (TZ0 v) [] [alZ] (fun wy mv av h1 h2=>by rw[hA] at h2;exact FM wy 0 mv _ _ h1 (by show 0≤9000;decide) 0 av alZ rfl h2) (fun _=>rfl) (fun e=>absurd e (by decide)))
  0 false (fun wx F1 X1 hT1 hA1=>JE v hT1 hA1 false) (by decide) 0 (by decide) (fun e=>absurd e (by decide)) (TZ0 v) (fun e=>absurd e (by decide)) (fun k hk=>(hT.out k hk).2)
 exact this
theorem Ip (v:Int) (h:TaskAt w F tb qZ (TZ0 v) X) (hA:X.al=[alZ]) (c0 c1 c2:Value) (hc:∃ a0 n0 m0 a1 n1 m1 a2 n2 m2,c0=.slice a0 n0 m0∧c1=.slice a1 n1 m1∧c2=.slice a2 n2 m2) (ma:Option Addr) :
  Calls Tryz.prog 126 #[.agg #[c0,c1,c2],.pointer ma,.pointer (some ⟨tb,0,none⟩)] w (aW w F tb qZ X (TZ0 v) X.al X.kf (bA 10 0 0 0 0 false (.slice none 0 0))):=by
 obtain⟨a0,n0,m0,a1,n1,m1,a2,n2,m2,rfl,rfl,rfl⟩:=hc;exact step_exit w F tb qZ (TZ0 v) X h (by rw[hA];rfl) (by show 0≤10000;decide) (by rw[hA];decide) _ _ _ _ _ _ _ _ _ ma
end
end Go.Proofs.YtlofbhoicbemnaaGreatDoor.Tk
namespace Go.Proofs.YtlofbhoicbemnaaGreatDoor.Tk
open Go.ChangeShapes Go.WideShapes Go.ChangeAt Go.RowKit Go.Maps
def qO:Obj:=.cells #[.int .i64 0,.int .i64 0,.int .i64 0,.int .i64 0] 63
theorem JR (w:World) (F:Nat→Prop) (tb:Nat) (p:TPrg) (T:Tk) (X:TB) (h:TaskAt w F tb p T X) (hm:T.parts=[]∨iK T.marks X.al≠0) (hml:T.marks.length≤10000) (hal:X.al.length≤10000) (a0 a1 a2:Option Addr) (n0 m0 n1 m1 n2 m2:Nat) :
  Calls Tryz.prog 169 #[.agg #[.slice a0 n0 m0,.slice a1 n1 m1,.slice a2 n2 m2],.pointer (some ⟨tb,0,none⟩)] w fun e w'=>e=.returned (.tuple #[.agg #[.int .i64 0,.int .i64 0,.int .i64 0,.int .i64 0],.bool false])∧Below w.heap.size w w':=by
 have hb0:=((Below.refl w.heap.size w).alloc (Nat.le_refl _) (.cells #[.slice a0 n0 m0,.slice a1 n1 m1,.slice a2 n2 m2] 48));have hb1:=hb0.alloc hb0.size qO;have hr0:=aU (ai w (.cells #[.slice a0 n0 m0,.slice a1 n1 m1,.slice a2 n2 m2] 48)) qO;have hr1:=ai (w.alloc (.cells #[.slice a0 n0 m0,.slice a1 n1 m1,.slice a2 n2 m2] 48)) qO;obtain⟨W,hW⟩:∃ W,W=(w.alloc (.cells #[.slice a0 n0 m0,.slice a1 n1 m1,.slice a2 n2 m2] 48)).alloc qO:=⟨_,rfl⟩;rw[← hW] at hb1 hr0 hr1;obtain⟨z0,hz0⟩:∃ z0,z0=w.heap.size:=⟨_,rfl⟩;obtain⟨z1,hz1⟩:∃ z1,z1=w.heap.size+1:=⟨_,rfl⟩;rw[show (w.alloc (.cells #[.slice a0 n0 m0,.slice a1 n1 m1,.slice a2 n2 m2] 48)).heap.size=z1 from by rw[hz1];simp] at hr1;rw[← hz0] at hr0;unfold qO at hr1 hW;have HW:=k_ hW;have HZ0:=k_ hz0;have HZ1:=k_ hz1;clear hb0 hW hz0 hz1;have HB1:=k_ hb1;clear hb1;have HR0:=k_ hr0;clear hr0;have HR1:=k_ hr1;clear hr1;have hT:=h.below HB1.out;have dp:=eF W F tb p T X hT;have nx:=iA W F tb p T X hT hml hal;generalize iK T.marks X.al=nu at *;obtain⟨pl,hpl⟩:∃ pl,pl=T.parts.length:=⟨_,rfl⟩;rw[← hpl] at dp;have hc:pl=0∨nu≠0:=hm.imp (fun e=>by rw[hpl,e];rfl) id;clear hT h hm hml hal hpl;have DP:=k_ dp;clear dp;have NX:=k_ nx;clear nx;have hr1:=HR1.out
 rcases hc with rfl | hnu
 ·go_enter Tryz.func169,Tryz.ntmps169
  go_upto_region 1 with fail
  rw[← HW.out,← HZ1.out,← HZ0.out];go_wp2_with fail;refine DP.out.mono ?_;rintro e w1 ⟨rfl,rfl⟩;have l0:=aa hr1 0;have l1:=aa hr1 1;have l2:=aa hr1 2;have l3:=aa hr1 3;obtain⟨l0,g0⟩:=l0;obtain⟨l1,g1⟩:=l1;obtain⟨l2,g2⟩:=l2;obtain⟨l3,g3⟩:=l3;simp only[List.getElem?_toArray,List.getElem?_cons_zero,List.getElem?_cons_succ] at l0 l1 l2 l3;have hf:Fr (fun k=>k=z1) W _:=((((Fr.refl (fun k=>k=z1) W).setCell (p:=⟨z1,0,none⟩) (fun _=>rfl) (.int .i64 0)).setCell (p:=⟨z1,1,none⟩) (fun _=>rfl) (.int .i64 0)).setCell (p:=⟨z1,2,none⟩) (fun _=>rfl) (.int .i64 0)).setCell (p:=⟨z1,3,none⟩) (fun _=>rfl) (.int .i64 0);have he:=HB1.out.trans (hf.below HB1.out.size (fun k hk=>by have hk:k=z1:=hk;have:=HZ1.out;omega));have hrs:=ag (ag (ag (ag hr1 0 (.int .i64 0)) 1 (.int .i64 0)) 2 (.int .i64 0)) 3 (.int .i64 0);clear hf;have HE:=k_ he;clear he;have HRS:=k_ hrs;clear hrs;clear hr1;go_wp2_with fail;refine bodyPost_ret ?_ rfl (And.intro rfl HE.out);have k0:=(aa HRS.out 0).1;have k1:=(aa HRS.out 1).1;have k2:=(aa HRS.out 2).1;have k3:=(aa HRS.out 3).1
  simp at k0 k1 k2 k3
  simp[results,Tryz.results169,go_sem,k0,k1,k2,k3]
 ·by_cases hp0:pl=0
  ·subst hp0
   go_enter Tryz.func169,Tryz.ntmps169
   go_upto_region 1 with fail
   rw[← HW.out,← HZ1.out,← HZ0.out];go_wp2_with fail;refine DP.out.mono ?_;rintro e w1 ⟨rfl,rfl⟩;have l0:=aa hr1 0;have l1:=aa hr1 1;have l2:=aa hr1 2;have l3:=aa hr1 3;obtain⟨l0,g0⟩:=l0;obtain⟨l1,g1⟩:=l1;obtain⟨l2,g2⟩:=l2;obtain⟨l3,g3⟩:=l3;simp only[List.getElem?_toArray,List.getElem?_cons_zero,List.getElem?_cons_succ] at l0 l1 l2 l3;have hf:Fr (fun k=>k=z1) W _:=((((Fr.refl (fun k=>k=z1) W).setCell (p:=⟨z1,0,none⟩) (fun _=>rfl) (.int .i64 0)).setCell (p:=⟨z1,1,none⟩) (fun _=>rfl) (.int .i64 0)).setCell (p:=⟨z1,2,none⟩) (fun _=>rfl) (.int .i64 0)).setCell (p:=⟨z1,3,none⟩) (fun _=>rfl) (.int .i64 0);have he:=HB1.out.trans (hf.below HB1.out.size (fun k hk=>by have hk:k=z1:=hk;have:=HZ1.out;omega));have hrs:=ag (ag (ag (ag hr1 0 (.int .i64 0)) 1 (.int .i64 0)) 2 (.int .i64 0)) 3 (.int .i64 0);clear hf;have HE:=k_ he;clear he;have HRS:=k_ hrs;clear hrs;clear hr1;go_wp2_with fail;refine bodyPost_ret ?_ rfl (And.intro rfl HE.out);have k0:=(aa HRS.out 0).1;have k1:=(aa HRS.out 1).1;have k2:=(aa HRS.out 2).1;have k3:=(aa HRS.out 3).1
   simp at k0 k1 k2 k3
   simp[results,Tryz.results169,go_sem,k0,k1,k2,k3]
  ·have d0:((pl:Int) == 0)=false:=by rw[beq_eq_false_iff_ne];omega
   have d1:(nu != 0)=true:=by rw[bne_iff_ne];exact hnu
   clear hp0 hnu
   go_enter Tryz.func169,Tryz.ntmps169
   go_upto_region 1 with fail
   rw[← HW.out,← HZ1.out,← HZ0.out];go_wp2_with fail;refine DP.out.mono ?_;rintro e w1 ⟨rfl,rfl⟩;go_wp2_with fail;refine NX.out.mono ?_;rintro e w1 ⟨rfl,hb⟩;have hr1:=(fb_ hb).heap hr1 (fun h=>h);have HB:=k_ (HB1.out.trans (hb.mono HB1.out.size));clear hb;have l0:=aa hr1 0;have l1:=aa hr1 1;have l2:=aa hr1 2;have l3:=aa hr1 3;obtain⟨l0,g0⟩:=l0;obtain⟨l1,g1⟩:=l1;obtain⟨l2,g2⟩:=l2;obtain⟨l3,g3⟩:=l3;simp only[List.getElem?_toArray,List.getElem?_cons_zero,List.getElem?_cons_succ] at l0 l1 l2 l3;have hf:Fr (fun k=>k=z1) w1 _:=((((Fr.refl (fun k=>k=z1) w1).setCell (p:=⟨z1,0,none⟩) (fun _=>rfl) (.int .i64 0)).setCell (p:=⟨z1,1,none⟩) (fun _=>rfl) (.int .i64 0)).setCell (p:=⟨z1,2,none⟩) (fun _=>rfl) (.int .i64 0)).setCell (p:=⟨z1,3,none⟩) (fun _=>rfl) (.int .i64 0);have he:=HB.out.trans (hf.below HB.out.size (fun k hk=>by have hk:k=z1:=hk;have:=HZ1.out;omega));have hrs:=ag (ag (ag (ag hr1 0 (.int .i64 0)) 1 (.int .i64 0)) 2 (.int .i64 0)) 3 (.int .i64 0);clear hf;have HE:=k_ he;clear he;have HRS:=k_ hrs;clear hrs;clear hr1;go_wp2_with fail;refine bodyPost_ret ?_ rfl (And.intro rfl HE.out);have k0:=(aa HRS.out 0).1;have k1:=(aa HRS.out 1).1;have k2:=(aa HRS.out 2).1;have k3:=(aa HRS.out 3).1
   simp at k0 k1 k2 k3
   simp[results,Tryz.results169,go_sem,k0,k1,k2,k3]
theorem Jt (w:World) (F:Nat→Prop) (tb:Nat) (p:TPrg) (T:Tk) (X:TB) (h:TaskAt w F tb p T X) (hn:T.parts.length≤1000) (hm:iK T.marks X.al=0) (hml:T.marks.length≤10000) (hal:X.al.length≤10000) (P:List Part) (q:Part) (hP:T.parts=P ++ [q])
  (D:Nat→Prop) (hD:∀ k,D k→k<w.heap.size) (pr:Prg) (c0 c1 c2:Value) (hv:aD w D pr c0 c1 c2) (j:Nat) (hj:j<pr.funcs.length) (hfj:q.fn=j) (pc:Nat) (hpc:q.pc=pc) (hpl:pc<pr.funcs[j].code.length) (i:Ins) (hi:pr.funcs[j].code[pc]=i) :
  Calls Tryz.prog 169 #[.agg #[c0,c1,c2],.pointer (some ⟨tb,0,none⟩)] w fun e w'=>e=.returned (.tuple #[.agg #[.int .i64 i.op,.int .i64 i.a,.int .i64 i.b,.int .i64 i.c],.bool true])∧Below w.heap.size w w':=by
 have hl:T.parts.length=P.length+1:=by rw[hP];simp
 have e0:(T.parts[P.length]'(by omega))=q:=by simp only[hP];simp
 have fnc:=fun wr (hw:Below w.heap.size w wr)=>qX wr F tb p T X (h.below hw) hn P.length hl
 have pcc:=fun wr (hw:Below w.heap.size w wr)=>qV wr F tb p T X (h.below hw) hn P.length hl
 rw[e0,hfj] at fnc;rw[e0,hpc] at pcc;obtain⟨⟨a0,m0,rfl,_⟩,⟨a1,m1,rfl,_⟩,a2,m2,rfl,hfn⟩:=hv;obtain⟨bb,o,rfl,hdb,y0,y1,y2,y3,y4,g0,g1,g2,g3,g4,hfv⟩:=hfn j hj;obtain⟨v1,v2,v3,v4,ac,cc,rfl,hcode⟩:=hfv;clear v1 v2 v3 v4;obtain⟨cb,co,rfl,hdc,x0,x1,x2,x3⟩:=hcode pc hpl;rw[hi] at x0 x1 x2 x3;have hbo:=hD _ hdb;have hco:=hD _ hdc;generalize pr.globals.length=n0 at *;generalize pr.shapes.length=n1 at *;have hj0:(0:Int)≤(j:Int):=by omega
 have hj1:(j:Int)<(pr.funcs.length:Int):=by omega
 have hp0:(0:Int)≤(pc:Int):=by omega
 have hp1:(pc:Int)<(pr.funcs[j].code.length:Int):=by omega
 clear hi hcode hfn;generalize pr.funcs[j].code.length=cl at *;have dpc:=fun wr (hw:Below w.heap.size w wr)=>eF wr F tb p T X (h.below hw)
 have nxc:=fun wr (hw:Below w.heap.size w wr)=>iA wr F tb p T X (h.below hw) hml hal
 rw[hm] at nxc;have hcs:∀ wx,Below w.heap.size w wx→wx.cell? ⟨bb,o+j * 5+4,none⟩=some (.slice (some ⟨cb,co,none⟩) cl cc)∧wx.cell? ⟨cb,co+pc * 4,none⟩=some (.int .i64 i.op)∧wx.cell? ⟨cb,co+pc * 4+1,none⟩=some (.int .i64 i.a)∧wx.cell? ⟨cb,co+pc * 4+2,none⟩=some (.int .i64 i.b)∧wx.cell? ⟨cb,co+pc * 4+3,none⟩=some (.int .i64 i.c):=fun wx hx=>⟨ae hx g4,ae hx x0,ae hx x1,ae hx x2,ae hx x3⟩
 obtain⟨N,hN⟩:∃ N,N=T.parts.length:=⟨_,rfl⟩;rw[← hN] at dpc;have d0:((N:Int) == 0)=false:=by rw[beq_eq_false_iff_ne];omega
 clear g0 g1 g2 g3 g4 x0 x1 x2 x3 hdb hdc hD e0 hP h hn hm hml hal hl hpl hfj hpc hN;generalize pr.funcs.length=n2 at *;clear hj;have FNC:=k_ fnc;clear fnc;have PCC:=k_ pcc;clear pcc;have DPC:=k_ dpc;clear dpc;have NXC:=k_ nxc;clear nxc;have HCS:=k_ hcs;clear hcs;have HBO:=k_ hbo;clear hbo;have HCO:=k_ hco;clear hco;have hb0:=((Below.refl w.heap.size w).alloc (Nat.le_refl _) (.cells #[.slice a0 n0 m0,.slice a1 n1 m1,.slice (some ⟨bb,o,none⟩) n2 m2] 48));have hb1:=hb0.alloc hb0.size qO;have hr0:=aU (ai w (.cells #[.slice a0 n0 m0,.slice a1 n1 m1,.slice (some ⟨bb,o,none⟩) n2 m2] 48)) qO;have hr1:=ai (w.alloc (.cells #[.slice a0 n0 m0,.slice a1 n1 m1,.slice (some ⟨bb,o,none⟩) n2 m2] 48)) qO;obtain⟨W,hW⟩:∃ W,W=(w.alloc (.cells #[.slice a0 n0 m0,.slice a1 n1 m1,.slice (some ⟨bb,o,none⟩) n2 m2] 48)).alloc qO:=⟨_,rfl⟩;rw[← hW] at hb1 hr0 hr1;obtain⟨z0,hz0⟩:∃ z0,z0=w.heap.size:=⟨_,rfl⟩;obtain⟨z1,hz1⟩:∃ z1,z1=w.heap.size+1:=⟨_,rfl⟩;rw[show (w.alloc (.cells #[.slice a0 n0 m0,.slice a1 n1 m1,.slice (some ⟨bb,o,none⟩) n2 m2] 48)).heap.size=z1 from by rw[hz1];simp] at hr1;rw[← hz0] at hr0;unfold qO at hr1 hW;have HW:=k_ hW;have HZ0:=k_ hz0;have HZ1:=k_ hz1;clear hb0 hW hz0 hz1;have HB1:=k_ hb1;clear hb1;have HR0:=k_ hr0;clear hr0;have HR1:=k_ hr1;clear hr1
 go_enter Tryz.func169,Tryz.ntmps169
 go_upto_region 1 with fail
 rw[← HW.out,← HZ1.out,← HZ0.out];go_wp2_with fail;refine(DPC.out _ HB1.out).mono ?_;rintro e w1 ⟨rfl,rfl⟩;go_wp2_with fail;refine(NXC.out _ HB1.out).mono ?_;rintro e w1 ⟨rfl,hb⟩;have HB:=k_ (HB1.out.trans (hb.mono HB1.out.size));have HBD:=k_ (fun k=>below_drewN HB.out k);have hr0:=(fb_ hb).heap HR0.out (fun h=>h);have hr1:=(fb_ hb).heap HR1.out (fun h=>h);have HRK:=k_ (fun k=>(Fr.of_below (below_drewN (Below.refl w1.heap.size w1) k) (fun _=>False)).heap hr1 (fun h=>h));have HSG:=k_ (show ∀ k,(w1.drewN k).cell? ⟨z0,2,none⟩=some (.slice (some ⟨bb,o,none⟩) n2 m2)∧(w1.drewN k).cell? ⟨bb,o+j * 5+4,none⟩=some (.slice (some ⟨cb,co,none⟩) cl cc)∧(w1.drewN k).cell? ⟨cb,co+pc * 4,none⟩=some (.int .i64 i.op)∧(w1.drewN k).cell? ⟨cb,co+pc * 4+1,none⟩=some (.int .i64 i.a)∧(w1.drewN k).cell? ⟨cb,co+pc * 4+2,none⟩=some (.int .i64 i.b)∧(w1.drewN k).cell? ⟨cb,co+pc * 4+3,none⟩=some (.int .i64 i.c) from fun k=>by
  have hk:=(Fr.of_below (below_drewN (Below.refl w1.heap.size w1) k) (fun _=>False)).heap hr0 (fun h=>h);exact⟨(aa hk 2).1,HCS.out _ (below_drewN HB.out k)⟩)
 have hSd:=HSG.out 1;rw[show w1.drewN 1=w1.drew from rfl] at hSd;clear hb hr0 hr1
 go_upto_region 3 with fail
 go_region_held3 (fun w'=>w'.cell? ⟨z0,2,none⟩=some (.slice (some ⟨bb,o,none⟩) n2 m2)∧w'.cell? ⟨bb,o+j * 5+4,none⟩=some (.slice (some ⟨cb,co,none⟩) cl cc)∧w'.cell? ⟨cb,co+pc * 4,none⟩=some (.int .i64 i.op)∧w'.cell? ⟨cb,co+pc * 4+1,none⟩=some (.int .i64 i.a)∧w'.cell? ⟨cb,co+pc * 4+2,none⟩=some (.int .i64 i.b)∧w'.cell? ⟨cb,co+pc * 4+3,none⟩=some (.int .i64 i.c)) (first | with_reducible exact hSd | with_reducible exact HSG.out _ | with_reducible exact hS7 | go_keep) (first
  | (go_at_call 175
     refine(FNC.out _ (HBD.out _)).mono ?_;rintro e w4 ⟨rfl,m,rfl⟩)
  | (go_at_call 176
     refine(PCC.out _ (HBD.out _)).mono ?_;rintro e w4 ⟨rfl,m',rfl⟩;have hr5:=HRK.out (1+m+m');have l0:=(aa hr5 0).1;have l1:=(aa hr5 1).1;have l2:=(aa hr5 2).1;have l3:=(aa hr5 3).1;have q0:=(aa hr5 0).2;have q1:=(aa hr5 1).2;have q2:=(aa hr5 2).2;have q3:=(aa hr5 3).2;simp only[List.getElem?_toArray,List.getElem?_cons_zero,List.getElem?_cons_succ] at l0 l1 l2 l3;obtain⟨u0,u1,u2,u3,u4,u5⟩:=HSG.out (1+m+m');have nz0:¬ z0=z1:=by have:=HZ0.out;have:=HZ1.out;omega
     have nz1:¬ bb=z1:=by have:=HBO.out;have:=HZ1.out;omega
     have nz2:¬ cb=z1:=by have:=HCO.out;have:=HZ1.out;omega
     have hf7:Fr (fun k=>k=z1) (w1.drewN (1+m+m')) _:=((((Fr.refl (fun k=>k=z1) (w1.drewN (1+m+m'))).setCell (p:=⟨z1,0,none⟩) (fun _=>rfl) (.int .i64 i.op)).setCell (p:=⟨z1,1,none⟩) (fun _=>rfl) (.int .i64 i.a)).setCell (p:=⟨z1,2,none⟩) (fun _=>rfl) (.int .i64 i.b)).setCell (p:=⟨z1,3,none⟩) (fun _=>rfl) (.int .i64 i.c);have hS7:=And.intro (hf7.cell u0 nz0) (And.intro (hf7.cell u1 nz1) (And.intro (hf7.cell u2 nz2) (And.intro (hf7.cell u3 nz2) (And.intro (hf7.cell u4 nz2) (hf7.cell u5 nz2)))));have he:=(HBD.out (1+m+m')).trans (hf7.below (HBD.out (1+m+m')).size (fun k hk=>by have hk:k=z1:=hk;have:=HZ1.out;omega));have hrs:=ag (ag (ag (ag hr5 0 (.int .i64 i.op)) 1 (.int .i64 i.a)) 2 (.int .i64 i.b)) 3 (.int .i64 i.c);have HE:=k_ he;have HRS:=k_ hrs;clear u0 u1 u2 u3 u4 u5 hf7 he hrs hr5))
 all_goals
  go_wp2_with fail;refine bodyPost_ret ?_ rfl (And.intro rfl HE.out);have k0:=(aa HRS.out 0).1;have k1:=(aa HRS.out 1).1;have k2:=(aa HRS.out 2).1;have k3:=(aa HRS.out 3).1
  simp at k0 k1 k2 k3
  simp[results,Tryz.results169,go_sem,k0,k1,k2,k3]
theorem Cj (w:World) (tb:Nat) (a0 a1 a2:Option Addr) (n0 m0 n1 m1 n2 m2:Nat)
  (AT:∀ wx,Below w.heap.size w wx→Calls Tryz.prog 169 #[.agg #[.slice a0 n0 m0,.slice a1 n1 m1,.slice a2 n2 m2],.pointer (some ⟨tb,0,none⟩)] wx fun e w'=>e=.returned (.tuple #[.agg #[.int .i64 0,.int .i64 0,.int .i64 0,.int .i64 0],.bool false])∧Below wx.heap.size wx w') :
  Calls Tryz.prog 125 #[.agg #[.slice a0 n0 m0,.slice a1 n1 m1,.slice a2 n2 m2],.pointer (some ⟨tb,0,none⟩)] w fun e w'=>e=.returned (.bool true)∧Below w.heap.size w w':=by
 have hb0:=((Below.refl w.heap.size w).alloc (Nat.le_refl _) (.cells #[.slice a0 n0 m0,.slice a1 n1 m1,.slice a2 n2 m2] 48));have ax:=AT _ hb0;clear AT;have HB0:=k_ hb0;clear hb0;have AX:=k_ ax;clear ax
 go_enter Tryz.func125,Tryz.ntmps125
 go_wp2_with fail;refine AX.out.mono ?_;rintro e w1 ⟨rfl,hb⟩;have HB:=k_ ((HB0.out.trans (hb.mono HB0.out.size)).alloc (HB0.out.trans (hb.mono HB0.out.size)).size (.cells #[.int .i64 0,.int .i64 0,.int .i64 0,.int .i64 0] 63));clear hb;go_wp2_with fail
 go_ret
 exact⟨rfl,HB.out⟩
theorem BZ (w:World) (tb:Nat) (a0 a1 a2:Option Addr) (n0 m0 n1 m1 n2 m2:Nat) (op ia ib ic:Int)
  (AT:∀ wx,Below w.heap.size w wx→Calls Tryz.prog 169 #[.agg #[.slice a0 n0 m0,.slice a1 n1 m1,.slice a2 n2 m2],.pointer (some ⟨tb,0,none⟩)] wx fun e w'=>e=.returned (.tuple #[.agg #[.int .i64 op,.int .i64 ia,.int .i64 ib,.int .i64 ic],.bool true])∧Below wx.heap.size wx w') :
  Calls Tryz.prog 125 #[.agg #[.slice a0 n0 m0,.slice a1 n1 m1,.slice a2 n2 m2],.pointer (some ⟨tb,0,none⟩)] w fun e w'=>e=.returned (.bool (uE op))∧Below w.heap.size w w':=by
 have hb0:=((Below.refl w.heap.size w).alloc (Nat.le_refl _) (.cells #[.slice a0 n0 m0,.slice a1 n1 m1,.slice a2 n2 m2] 48));have ax:=AT _ hb0;clear AT;have sx:=fun w=>Fv w op
 unfold lI at sx;generalize uE op=so at *;have SX:=k_ sx;clear sx;have HB0:=k_ hb0;clear hb0;have AX:=k_ ax;clear ax
 go_enter Tryz.func125,Tryz.ntmps125
 go_wp2_with fail;refine AX.out.mono ?_;rintro e w1 ⟨rfl,hb⟩;have HB:=k_ ((HB0.out.trans (hb.mono HB0.out.size)).alloc (HB0.out.trans (hb.mono HB0.out.size)).size (.cells #[.int .i64 op,.int .i64 ia,.int .i64 ib,.int .i64 ic] 63));clear hb;go_wp2_with fail;refine(SX.out _).mono ?_;rintro e w2 ⟨rfl,rfl⟩;go_wp2_with fail
 go_ret
 exact⟨rfl,HB.out⟩
end Go.Proofs.YtlofbhoicbemnaaGreatDoor.Tk
