/- The first program of a whole machine: its flow; its task's steps. What comes in: a slice of a script's entries. Walk: a machine's steps, .. -/
import Derived.Test.YtbkkhmafheimfaaGreatDoorVBj
set_option linter.unusedVariables false
set_option linter.unusedSimpArgs false
set_option maxRecDepth 100000
set_option maxHeartbeats 3200000
namespace Go.Proofs.YtbkkhmafheimfaaGreatDoor.Tk
open Go.ChangeShapes Go.WideShapes Go.ChangeAt Go.RowKit Go.Maps
def qZ:TPrg:=⟨[],[⟨0,1,[]⟩]⟩
def pZ (v:Int):Prg:=⟨[],[],[⟨[],0,1,[],[⟨1,0,v,0⟩,⟨29,0,0,0⟩,⟨27,0,0,0⟩]⟩]⟩
def tZ (_:Nat):List (Option (List Int)):=[some [0],some [1],some [1]]
theorem qZ_small:PSmall qZ:=by
 unfold PSmall qZ
 simp
theorem wZ:wordsN qZ (0:Nat)=3:=by decide
theorem insOk_z (p:Prg) (o a b c:Int) (h:o≠17∧o≠21∧o≠23∧o≠24):InsOk p ⟨o,a,b,c⟩ :=
 ⟨fun e=>absurd e h.1,fun k _ e=>by have e:o=21∨o=23∨o=24:=e;omega⟩
theorem pZ_S (v:Int) (hv:v=5∨v=-7):progS (pZ v)=(0,0,0):=by
 rcases hv with rfl | rfl <;> decide +kernel
theorem pZ_B (v:Int) (hv:v=5∨v=-7):PrgB (pZ v)∧PrgR (pZ v):=by
 unfold PrgB PrgR FunB Ins.wf i64B pZ
 rcases hv with rfl | rfl <;> simp
theorem pZ_tab (v:Int) (hv:v=5∨v=-7):TabOk (pZ v) tZ:=fun i hi=>by
 obtain rfl:i=0:=by have:i<1:=hi;omega
 have h:(solB (pZ v) (fnAt (pZ v) 0) (tZ 0)=true∧treeB (pZ v) (fnAt (pZ v) 0) (tZ 0) [0,0,1]=true)∧(flowE (pZ v) (fnAt (pZ v) 0) (tblF (tZ 0))).1=0:=by
  rcases hv with rfl | rfl <;> exact⟨⟨by kernel_rfl,by kernel_rfl⟩,by kernel_rfl⟩
 refine⟨isFlow_tbl (par:=[0,0,1]) (fun j hj=>?_) h.1.1 h.1.2,h.2⟩;have hj:j ∈ [(⟨1,0,v,0⟩:Ins),⟨29,0,0,0⟩,⟨27,0,0,0⟩]:=hj
 simp at hj
 rcases hj with rfl | rfl | rfl <;> exact insOk_z _ _ _ _ _ (by decide)
def wordsZ (x:Int):List Int:=[0,0,x,0,0,0,0,0,0,0,0,0,0,0,0,0]
def TZ (pc:Int) (x:Int):Tk:=⟨1073741824,wordsZ x,[⟨0,pc,0,-1,none,0,0⟩],[⟨false,false,0⟩]⟩
def TZ0 (x:Int):Tk:=⟨1073741824,wordsZ x,[],[]⟩
theorem TZ_ok (pc x:Int):TkOk (TZ pc x):=⟨by show 1≤1000;decide,by show 1≤1000;decide,by show 16≤100000;decide,fun q hq=>by
 have h1:q ∈ ([⟨0,pc,0,-1,none,0,0⟩]:List Part):=hq
 simp at h1
 rw[h1];exact⟨Int.le_refl 0,show (0:Int)≤100000000 by decide⟩⟩
theorem TZ0_ok (x:Int):TkOk (TZ0 x):=⟨by show 0≤1000;decide,by show 0≤1000;decide,by show 16≤100000;decide,fun q hq=>by cases hq⟩
def alZ:Alarm:=⟨0,0,0,true,false⟩
theorem calls_exit (w:World) (F:Nat→Prop) (tb:Nat) (p:TPrg) (T:Tk) (X:TB) (c0 c1 c2 mp:Value) (ia ib ic:Int) (h:TaskAt w F tb p T X) (T':Tk) (A:List Alarm) (KF:{ x:Int × Int // i64B x.1∧i64B x.2 }→Option Int)
  (EXI:∀ wx,Below w.heap.size w wx→Calls Tryz.prog 266 #[.pointer (some ⟨tb,0,none⟩)] wx fun e w'=>e=.returned (.tuple #[])∧∃ F' X',TaskAt w' F' tb p T' X'∧X'.Q X A KF∧(∀ k,F' k→F k∨wx.heap.size≤k)∧Fr F wx w') :
  Calls Tryz.prog 201 #[.agg (stepV c0 c1 c2 mp tb 27 ia ib ic)] w (RunPostG w F tb p X T' A KF (actV 0 0 0 0 0 false (.slice none 0 0))):=by
 have EXX:=k_ EXI;clear EXI;have hb0:=((Below.refl w.heap.size w).alloc (Nat.le_refl _) (.cells (stepV c0 c1 c2 mp tb 27 ia ib ic) 236));have hb1:=hb0.alloc hb0.size act0;have hr0:=row_alloc (heap_new w (.cells (stepV c0 c1 c2 mp tb 27 ia ib ic) 236)) act0;have hr1:=heap_new (w.alloc (.cells (stepV c0 c1 c2 mp tb 27 ia ib ic) 236)) act0;rw[show (w.alloc (.cells (stepV c0 c1 c2 mp tb 27 ia ib ic) 236)).heap.size=w.heap.size+1 from by simp] at hr1;obtain⟨W,hW⟩:∃ W,W=(w.alloc (.cells (stepV c0 c1 c2 mp tb 27 ia ib ic) 236)).alloc act0:=⟨_,rfl⟩;rw[← hW] at hb1 hr0 hr1;have HFLT:=k_ h.flt;have HOUT:=k_ (fun k (hk:X.D k)=>(h.out k hk).2);have hwz:W.heap.size=w.heap.size+2:=by rw[hW];simp
 unfold act0 at hW hr1;unfold stepV at hW hr0;have HW:=k_ hW;have k4:W.cell? ⟨w.heap.size,4,none⟩=some (.pointer (some ⟨tb,0,none⟩)):=(row_cell hr0 4).1;have k5:W.cell? ⟨w.heap.size,5,none⟩=some (.int .i64 27):=(row_cell hr0 5).1;have k6:W.cell? ⟨w.heap.size,6,none⟩=some (.int .i64 ia):=(row_cell hr0 6).1;have k7:W.cell? ⟨w.heap.size,7,none⟩=some (.int .i64 ib):=(row_cell hr0 7).1;have k8:W.cell? ⟨w.heap.size,8,none⟩=some (.int .i64 ic):=(row_cell hr0 8).1;have HRR:=k_ (Below.refl W.heap.size W);clear hb0 hW;have HB1:=k_ hb1;clear hb1;have HR1:=k_ hr1;clear hr1;have HR0:=k_ hr0;clear hr0;have HWZ:=k_ hwz;clear hwz;unfold stepV
 go_enter Tryz.func201,Tryz.ntmps201
 go_upto_region 1 with fail
 rw[← HW.out]
 go_cut [3,4] (fun x y wx=>∃ z:Nat,x=.pointer (some ⟨z,0,none⟩)∧y=.pointer (some ⟨tb,0,none⟩)∧wx.heap[z]?=some (.cells #[.int .i64 27,.int .i64 ia,.int .i64 ib,.int .i64 ic] 32)∧w.heap.size+2≤z∧Below W.heap.size W wx)
 case first =>
  have bs:=World.block_lt k4
  dsimp only at bs
  go_region
  all_goals
   go_wp2_with fail
   go_meet
   case rel=>exact⟨_,rfl,rfl,heap_new _ _,by have:=HWZ.out;omega,(HRR.out.drew).alloc (HRR.out.size) _⟩
 case rest =>
  obtain⟨z,rfl,rfl,hz,hzl,hR⟩:=hcut;have hbc:=HB1.out.trans (hR.mono HB1.out.size);have hrb:=(Fr.of_below hR (fun _=>False)).heap HR0.out (fun h=>h);have hrc:=(Fr.of_below hR (fun _=>False)).heap HR1.out (fun h=>h);have HBC:=k_ hbc;have HSZ:=k_ (show w.heap.size+2≤wc.heap.size from by have:=hR.size;have:=HWZ.out;omega);have HRW:=k_ (fun wx (hw:Below wc.heap.size wc wx)=>(Fr.of_below hw (fun _=>False)).heap hrc (fun h=>h));have HSS:=k_ (show ∀ wx,Below wc.heap.size wc wx→wx.cell? ⟨w.heap.size,0,none⟩=some (c0)∧wx.cell? ⟨w.heap.size,1,none⟩=some (c1)∧wx.cell? ⟨w.heap.size,2,none⟩=some (c2)∧wx.cell? ⟨w.heap.size,3,none⟩=some (mp)∧wx.cell? ⟨w.heap.size,4,none⟩=some (.pointer (some ⟨tb,0,none⟩))∧wx.cell? ⟨w.heap.size,5,none⟩=some (.int .i64 27)∧wx.cell? ⟨w.heap.size,6,none⟩=some (.int .i64 ia)∧wx.cell? ⟨w.heap.size,7,none⟩=some (.int .i64 ib)∧wx.cell? ⟨w.heap.size,8,none⟩=some (.int .i64 ic)∧wx.cell? ⟨z,0,none⟩=some (.int .i64 27)∧wx.cell? ⟨z,1,none⟩=some (.int .i64 ia)∧wx.cell? ⟨z,2,none⟩=some (.int .i64 ib)∧wx.cell? ⟨z,3,none⟩=some (.int .i64 ic) from fun wx hw=>by
   have g1:=(Fr.of_below hw (fun _=>False)).heap hrb (fun h=>h);have g2:=(Fr.of_below hw (fun _=>False)).heap hz (fun h=>h);exact⟨(row_cell g1 0).1,(row_cell g1 1).1,(row_cell g1 2).1,(row_cell g1 3).1,(row_cell g1 4).1,(row_cell g1 5).1,(row_cell g1 6).1,(row_cell g1 7).1,(row_cell g1 8).1,(row_cell g2 0).1,(row_cell g2 1).1,(row_cell g2 2).1,(row_cell g2 3).1⟩)
  have hSd:=HSS.out wc.drew (Below.refl wc.heap.size wc).drew;have HRC:=k_ (Below.refl wc.heap.size wc);have HRD:=k_ (Below.refl wc.heap.size wc).drew;have z0:wc.cell? ⟨z,0,none⟩=some (.int .i64 27):=(row_cell hz 0).1;clear hR hrb hrc hz k4 k5 k6 k7 k8 hbc;obtain⟨y0,y1,y2,y3,y4,y5,y6,y7,y8,z0,z1,z2,z3⟩:=HSS.out _ HRC.out;clear hSd;go_wp2_with fail;refine(EXX.out _ HBC.out).mono ?_;rintro e w5 ⟨rfl,F',X',hT5,hXD,hF',hf5⟩;have HWD:=HRC;clear y0 y1 y2 y3 y4 y5 y6 y7 y8 z0 z1 z2 z3;have hsz5:w.heap.size+2≤wc.heap.size:=by have:=HSZ.out;omega
  have hr5:=hf5.heap (HRW.out _ HWD.out) (fun e=>by have:=HFLT.out (w.heap.size+1) e;omega);obtain⟨⟨u0,u1,u2,u3,u4,u5,u6⟩,n0,n1,n2,n3,n4,n5,n6⟩:=seven_cells hr5;have hfs:=seven_fr w5 (.int .i64 0) (.int .i64 0) (.int .i64 0) (.int .i64 0) (.int .i64 0) (.bool false) (.slice none 0 0) (w.heap.size+1);have hrs:=seven_row hr5 (.int .i64 0) (.int .i64 0) (.int .i64 0) (.int .i64 0) (.int .i64 0) (.bool false) (.slice none 0 0);have hFz:∀ q,F' q→q≠w.heap.size+1:=fun q hq e=>by
   rcases hF' q hq with h1 | h1
   ·have:=HFLT.out q h1;omega
   ·have:=HWD.out.size;omega
  have hT6:=hT5.fr hfs (fun q hq e=>hFz q hq e) (fun q hq e=>by rw[hXD.1] at hq;have:=HOUT.out q hq;have e:q=w.heap.size+1:=e;omega);have hfw:=(Fr.of_below (HBC.out.trans (HWD.out.mono HBC.out.size)) F).trans hf5 (fun _ _ h=>h);have hf6:=hfw.trans hfs (fun q hq e=>by have e:q=w.heap.size+1:=e;omega);have hF6:∀ q,F' q→F q∨w.heap.size≤q:=fun q hq=>(hF' q hq).imp id (fun h1=>by have:=HWD.out.size;omega)
  have HPP:=k_ (show RunPostG w F tb p X _ _ _ (actV 0 0 0 0 0 false (.slice none 0 0)) _ _ from⟨rfl,F',X',hT6,hXD,hF6,hf6⟩);clear hfs hr5 hT5 hT6 hfw hf6 hf5 hF6 hFz hF' hXD hsz5;have HRS:=k_ hrs;clear hrs;unfold actV;go_wp2_with fail;refine bodyPost_ret ?_ rfl HPP.out;have k0:=(row_cell HRS.out 0).1;have k1:=(row_cell HRS.out 1).1;have k2:=(row_cell HRS.out 2).1;have k3:=(row_cell HRS.out 3).1;have k4:=(row_cell HRS.out 4).1;have k5:=(row_cell HRS.out 5).1;have k6:=(row_cell HRS.out 6).1;simp at k0 k1 k2 k3 k4 k5 k6;simp[results,Tryz.results201,go_sem,k0,k1,k2,k3,k4,k5,k6,actV]
section
variable {w:World} {F:Nat→Prop} {tb:Nat} {X:TB}
theorem stepZ_0 (v:Int) (hv32:wrap32 v=v) (h:TaskAt w F tb qZ (TZ 0 0) X) (hA:X.al=[]) (D:Nat→Prop) (hD:∀ k,D k→¬ F k∧k<w.heap.size) (c0 c1 c2:Value) (ma:Option Addr) (hv:PrgVal w D (pZ v) c0 c1 c2) :
  Calls Tryz.prog 69 #[.agg #[c0,c1,c2],.pointer ma,.pointer (some ⟨tb,0,none⟩)] w (RunPost w F tb qZ X (TZ 1 v) (actV 0 0 0 0 0 false (.slice none 0 0))) :=
 step_run w F tb qZ (TZ 0 0) X h (by show 1≤1000;decide) (by rw[hA];rfl) (by show 1≤10000;decide) (by rw[hA];simp) [] ⟨0,0,0,-1,none,0,0⟩ rfl D hD (pZ v) c0 c1 c2 ma hv 0 (by show 0<1;decide) rfl 0 rfl (by show 0<3;decide) ⟨1,0,v,0⟩ rfl (TZ 1 v) 0 0 0 0 0 false none 0 0 (fun wr hw=>by
  have rs:=run_setInt wr F tb qZ (TZ 0 0) X (h.below hw) (TZ_ok 0 0) [] ⟨0,0,0,-1,none,0,0⟩ rfl ⟨by decide,by decide⟩ 0 (by show 0<1;decide) rfl 0 rfl 0 (by show (0:Int)<1;decide) (by omega) (by show 0+(2+0)<16;decide) c0 c1 c2 (.pointer ma) v 0;rw[hv32] at rs;exact rs)
theorem stepZ_1 (v:Int) (h:TaskAt w F tb qZ (TZ 1 v) X) (hA:X.al=[]) (D:Nat→Prop) (hD:∀ k,D k→¬ F k∧k<w.heap.size) (c0 c1 c2:Value) (ma:Option Addr) (hv:PrgVal w D (pZ v) c0 c1 c2) :
  Calls Tryz.prog 69 #[.agg #[c0,c1,c2],.pointer ma,.pointer (some ⟨tb,0,none⟩)] w (RunPost w F tb qZ X (TZ 2 v) (actV 2 0 0 v 0 false (.slice none 0 0))) :=
 step_run w F tb qZ (TZ 1 v) X h (by show 1≤1000;decide) (by rw[hA];rfl) (by show 1≤10000;decide) (by rw[hA];simp) [] ⟨0,1,0,-1,none,0,0⟩ rfl D hD (pZ v) c0 c1 c2 ma hv 0 (by show 0<1;decide) rfl 1 rfl (by show 1<3;decide) ⟨29,0,0,0⟩ rfl (TZ 2 v) 2 0 0 v 0 false none 0 0 (fun wr hw =>
  run_output wr F tb qZ (TZ 1 v) X (h.below hw) (TZ_ok 1 v) [] ⟨0,1,0,-1,none,0,0⟩ rfl ⟨by decide,by decide⟩ 0 (by show 0<1;decide) rfl 0 rfl 0 (by show (0:Int)<1;decide) (by omega) (by show 0+(2+0)<16;decide) v rfl c0 c1 c2 (.pointer ma) 0 0)
theorem stepZ_2 (v:Int) (h:TaskAt w F tb qZ (TZ 2 v) X) (hA:X.al=[]) (D:Nat→Prop) (hD:∀ k,D k→¬ F k∧k<w.heap.size) (c0 c1 c2:Value) (ma:Option Addr) (hv:PrgVal w D (pZ v) c0 c1 c2) :
  Calls Tryz.prog 69 #[.agg #[c0,c1,c2],.pointer ma,.pointer (some ⟨tb,0,none⟩)] w (RunPostG w F tb qZ X (TZ 2 v) [alZ] X.kf (actV 0 0 0 0 0 false (.slice none 0 0))):=by
 refine step_runX w F tb qZ (TZ 2 v) X h (by show 1≤1000;decide) (by rw[hA];rfl) (by show 1≤10000;decide) (by rw[hA];exact Nat.zero_le _) [] ⟨0,2,0,-1,none,0,0⟩ rfl D hD (pZ v) c0 c1 c2 ma hv 0 (by show 0<1;decide) rfl 2 rfl (by show 2<3;decide) ⟨27,0,0,0⟩ rfl X rfl _ _ _ 0 0 0 0 0 false none 0 0 (fun wr hb=>?_);refine run_X27 wr F tb qZ (TZ 2 v) X (h.below hb) _ _ _ _ 0 0 0 X rfl _ _ _ 0 0 0 0 0 false none 0 0 (fun wq hq=>?_);have hbq:=hb.trans (hq.mono hb.size);refine calls_exit wq F tb qZ (TZ 2 v) X c0 c1 c2 (.pointer ma) 0 0 0 (h.below hbq) _ _ _ (fun wx hx=>?_);have:=tkExit_any wx F tb qZ (TZ 2 v) X ((h.below hbq).below hx) (by show 1≤10000;decide) (by rw[hA];exact Nat.zero_le _);rw[hA] at this;exact this
theorem lifeZ0 (v:Int) (h:TaskAt w F tb qZ (TZ0 v) X) (hA:X.al=[alZ]) (lv:Bool) :
  Calls Tryz.prog 117 #[.pointer (some ⟨tb,0,none⟩)] w (LifePost w [alZ] (FrP 0 lv)):=by
 refine(lifeAll_any w F tb qZ (TZ0 v) X h qZ_small (TZ0_ok v) (fun _=>1) ⟨rfl,fun d hd=>absurd hd (Nat.not_lt_zero _)⟩ (fun q hq=>by cases hq) (by rw[hA];decide)).mono ?_;rintro e w' ⟨fr,v,av,g1,g2,g3,rfl,ha,_,hv,hfl,_,_,hb⟩;have hfl:fr.length=0:=hfl;obtain⟨a3,c3,rfl,_⟩:=own_elems hv;obtain⟨a5,n5,c5,rfl⟩:=ha.slice;rw[hA] at ha;exact⟨_,_,_,_,_,_,_,_,_,_,_,rfl,ha,⟨a3,c3,by rw[hfl],fun k hk=>by omega⟩,hb⟩
theorem stepZ_3 (v:Int) (h:TaskAt w F tb qZ (TZ 2 v) X) (hA:X.al=[alZ]) (hkf:X.kf=fun _=>none) (D:Nat→Prop) (hD:∀ k,D k→¬ F k∧k<w.heap.size) (c0 c1 c2:Value) (ma:Option Addr) (hv:PrgVal w D (pZ v) c0 c1 c2) :
  Calls Tryz.prog 69 #[.agg #[c0,c1,c2],.pointer ma,.pointer (some ⟨tb,0,none⟩)] w (RunPostG w F tb qZ X (TZ0 v) [alZ] (delK X.kf 0) (actV 0 0 0 0 0 false (.slice none 0 0))):=by
 obtain⟨⟨a0,m0,rfl,_⟩,⟨a1,m1,rfl,_⟩,a2,m2,rfl,hf⟩:=hv;obtain⟨bb,o,rfl,hbb,_,_,_,_,_,_,r1,_,_,_,f1,_⟩:=hf 0 (by show 0<1;decide);rw[f1] at r1;have hok:=TZ_ok 2 v;have hI:i64B ((0:Nat):Int)∧i64B 0:=by constructor <;> unfold i64B <;> omega
 refine step_popG w F tb qZ (TZ 2 v) X h (by rw[hA];rfl) (by show 1≤10000;decide) (by rw[hA];decide) _ _ _ _ _ _ _ _ _ ma _ _ _ 0 0 0 0 0 false none 0 0 (fun wr hb=>?_);have hT:=h.below hb;have:=pop_gen wr F tb qZ X hT.flt (.slice a0 (pZ v).globals.length m0) (.slice a1 (pZ v).shapes.length m1) 0 bb o (pZ v).funcs.length m2 (by show 0<1;decide) 0 (fun wx hx=>below_cell (hb.trans (hx.mono hb.size)) r1) ⟨a0,(pZ v).globals.length,m0,a1,(pZ v).shapes.length,m1,rfl,rfl⟩ 0 false
  (fun wx hx=>tkValue_any wx F tb qZ (TZ 2 v) X (hT.below hx) (by show 1≤1000;decide) 0 rfl hI 0 false (.inr ⟨by rw[hkf],rfl,rfl⟩))
  (fun wx hx=>(fn_some wx F tb qZ (TZ 2 v) X (hT.below hx) (by show 1≤1000;decide) 0 rfl).mono (fun e w' he=>(show e=.returned (.int .i64 (0:Nat))∧Below wx.heap.size wx w' from⟨he.1,by obtain⟨m,hm⟩:=he.2;rw[hm];exact below_drewN (Below.refl _ _) m⟩)))
  [alZ] (by decide) (fun e=>absurd rfl e) false (by decide)
  false (fun wx hx=>tkDeferred_any wx F tb qZ (TZ 2 v) X (hT.below hx) (by show 1≤1000;decide) [] ⟨false,false,0⟩ rfl rfl)
  (TZ0 v) [alZ] (by decide) (delK X.kf 0)
  (fun wx hx=>pop_any wx F tb qZ (TZ 2 v) X (hT.below hx) hok [] ⟨0,2,0,-1,none,0,0⟩ rfl [] ⟨false,false,0⟩ rfl 0 false (TZ0 v) [] [alZ] (fun wy mv av h1 h2=>by rw[hA] at h2;exact stPop_al wy 0 mv _ _ h1 (by show 0≤9000;decide) 0 av alZ rfl h2) (fun _=>rfl) (fun e=>absurd e (by decide)))
  0 false (fun wx F1 X1 hT1 hA1=>lifeZ0 v hT1 hA1 false) (by decide) 0 (by decide) (fun e=>absurd e (by decide)) (TZ0 v) (fun e=>absurd e (by decide)) (fun k hk=>(hT.out k hk).2)
 exact this
theorem stepZ_4 (v:Int) (h:TaskAt w F tb qZ (TZ0 v) X) (hA:X.al=[alZ]) (c0 c1 c2:Value) (hc:∃ a0 n0 m0 a1 n1 m1 a2 n2 m2,c0=.slice a0 n0 m0∧c1=.slice a1 n1 m1∧c2=.slice a2 n2 m2) (ma:Option Addr) :
  Calls Tryz.prog 69 #[.agg #[c0,c1,c2],.pointer ma,.pointer (some ⟨tb,0,none⟩)] w (RunPostG w F tb qZ X (TZ0 v) X.al X.kf (actV 10 0 0 0 0 false (.slice none 0 0))):=by
 obtain⟨a0,n0,m0,a1,n1,m1,a2,n2,m2,rfl,rfl,rfl⟩:=hc;exact step_exit w F tb qZ (TZ0 v) X h (by rw[hA];rfl) (by show 0≤10000;decide) (by rw[hA];decide) _ _ _ _ _ _ _ _ _ ma
end
end Go.Proofs.YtbkkhmafheimfaaGreatDoor.Tk
namespace Go.Proofs.YtbkkhmafheimfaaGreatDoor
open Go.ChangeShapes Go.WideShapes Go.ChangeAt Go.RowKit
structure Ent where (who n:Int)
instance:Inhabited Ent:=⟨⟨0,0⟩⟩
def Ent.cells (x:Ent):List Value:=[.int .i64 x.who,.int .i64 x.n]
def Ent.wf (x:Ent):Prop:=(-9223372036854775808≤x.who∧x.who≤9223372036854775807)∧(-9223372036854775808≤x.n∧x.n≤9223372036854775807)
def EntAt (w:World) (b o:Nat) (x:Ent):Prop:=w.cell? ⟨b,o,none⟩=some (.int .i64 x.who)∧w.cell? ⟨b,o+1,none⟩=some (.int .i64 x.n)
def EntSl (w:World) (D:Nat→Prop) (a:Option Addr) (l:List Ent):Prop:=∀ j (hj:j<l.length),∃ b o,a=some ⟨b,o,none⟩∧D b∧EntAt w b (o+j * 2) l[j]
theorem EntSl.fr {F:Nat→Prop} {w w':World} {D:Nat→Prop} {a:Option Addr} {l:List Ent} (h:EntSl w D a l) (hf:Fr F w w') (hd:∀ k,D k→¬ F k):EntSl w' D a l:=fun j hj=>by
 obtain⟨b,o,h1,h2,h3,h4⟩:=h j hj;exact⟨b,o,h1,h2,hf.cell h3 (hd b h2),hf.cell h4 (hd b h2)⟩
theorem EntSl.below' {w w':World} {D:Nat→Prop} {a:Option Addr} {l:List Ent} (h:EntSl w D a l) (hb:Below w.heap.size w w'):EntSl w' D a l:=h.fr (Fr.of_below hb (fun _=>False)) (fun _ _ h=>h)
theorem EntSl.below {w w':World} {D:Nat→Prop} {a:Option Addr} {l:List Ent} (h:EntSl w D a l) (hb:Below w.heap.size w w'):EntSl w' D a l:=h.fr (Fr.of_below hb (fun _=>False)) (fun _ _ h=>h)
variable {H:Type} {enc:TypeId × Value→H}
theorem cells_ent:Tryz.prog.cellsOf 42=2:=by kernel_rfl
theorem trod_ent {w:World} {base:Nat} {sp:Nat→Bool} {hd:Bool} {n:Nat} {cs:List Value} {x:DataW H × List MemPlace} (h:DataW.trod enc Tryz.prog w base sp hd n 42 cs=some x):∃ y:Ent,cs=y.cells∧y.wf:=by
 obtain⟨xs,m,_,_,hl,hlen,hf⟩:=DataW.trod_struct Tryz.underlying42 h;rw[cells_ent] at hl
 match cs,hl,xs,hlen with
 | [c0,c1],_,[y0,y1],_ =>
   have f0:DataW.trod enc Tryz.prog w base sp hd m 3 (([c0,c1].drop 0).take (Tryz.prog.cellsOf 3))=some y0:=hf 0 _ rfl;have f1:DataW.trod enc Tryz.prog w base sp hd m 3 (([c0,c1].drop 1).take (Tryz.prog.cellsOf 3))=some y1:=hf 1 _ rfl;rw[cells_ints.1] at f0 f1;obtain⟨z0,rfl,b0⟩:=trod_one f0;obtain⟨z1,rfl,b1⟩:=trod_one f1;exact⟨⟨z0,z1⟩,rfl,b0,b1⟩
theorem cells_two {w:World} {base:Nat} {a:Addr} {x:Ent} (h:w.cells? base a 2=some x.cells):a.spot=none∧EntAt w a.block a.off x∧a.block<w.heap.size:=by
 obtain⟨_,_,hc⟩:=World.cells?_some h;have h0:=hc 0 (by omega);have hp:a.add 0=a:=rfl;rw[hp] at h0;have hs:a.spot=none:=by have:=plain_addr (v:=.int .i64 x.who) h0;rw[this]
 have h1:=hc 1 (by omega);rw[addr_add a hs] at h1;have:=plain_addr (v:=.int .i64 x.who) h0;rw[this] at h0;have h2:w.cell? ⟨a.block,a.off,none⟩=some (.int .i64 x.who):=h0;have h3:=World.block_lt h2;exact⟨hs,⟨h0,h1⟩,h3⟩
theorem open_entries {w:World} {base b:Nat} {v:Value} {sp:Nat→Bool} {d:DataW H} {p:List MemPlace} (hv:Value.okWide Tryz.prog w .any base 22 v)
  (h:DataW.Trod enc Tryz.prog w b sp true 22 v d p):∃ (a:Option Addr) (l:List Ent) (c:Nat),v=.slice a l.length c∧EntSl w (fun k=>k<w.heap.size) a l∧(∀ x ∈ l,x.wf)∧l.length≤c:=by
 obtain⟨fuel,hf⟩:=h;obtain⟨a0,len0,cap0,rfl⟩:=okWide_slice Tryz.underlying22 hv
 rcases Go.Deep.open_slice Tryz.underlying22 hf with⟨hcs,hx⟩ | ⟨a,len,cap,m,n,D,Pl,hcs,hb,hl,hm,hmm,hx,hel⟩
 ·simp[Value.cells] at hcs
  obtain⟨rfl,rfl,rfl⟩:=hcs;exact⟨none,[],0,rfl,(fun j hj=>by cases hj),(fun x hx=>by cases hx),Nat.le_refl _⟩
 ·simp[Value.cells] at hcs
  obtain⟨rfl,rfl,rfl⟩:=hcs;have hle:len0≤m:=by rw[hmm];split <;> omega
  rw[cells_ent] at hel;obtain⟨f,hF⟩:=Go.Deep.choose_lt (α:=Ent) (p:=fun i y=>(a.add (i * 2)).spot=none∧(EntAt w (a.add (i * 2)).block (a.add (i * 2)).off y∧(a.add (i * 2)).block<w.heap.size)∧y.wf) (n:=len0) (fun i hi=>by
   obtain⟨cs',h1,h2⟩:=hel i (by omega);obtain⟨y,rfl,hwf⟩:=trod_ent h2;obtain⟨h3,h4⟩:=cells_two h1;exact⟨y,h3,h4,hwf⟩)
  refine⟨some a,(List.range len0).map f,cap0,by simp,fun j hj=>?_,fun x hx=>?_,by simpa using hl⟩
  ·simp at hj
   have h0:=(hF 0 (by omega)).1;have ha0:a.add (0 * 2)=a:=by unfold Addr.add;simp
   rw[ha0] at h0;have hj2:=(hF j hj).2.1;rw[addr_add a h0] at hj2;obtain⟨bb,oo,ss⟩:=a
   dsimp only at h0
   subst h0;exact⟨bb,oo,rfl,hj2.2,by simpa using hj2.1⟩
  ·simp at hx
   obtain⟨i,hi,rfl⟩:=hx;exact(hF i hi).2.2
def entE:Elem Tryz.prog Ent where
 e:=42
 t:=22
 size:=2
 bytes:=16
 zero:=.agg #[.int .i64 0,.int .i64 0]
 enc:=Ent.cells
 ht:=Tryz.underlying22
 info:=by kernel_rfl
 hzs:=rfl
 hsz:=by decide
 hby:=by decide
 henc:=fun _=>rfl
 hone:=fun x u h=>by simp[Ent.cells] at h;rcases h with rfl | rfl <;> rfl
end Go.Proofs.YtbkkhmafheimfaaGreatDoor
namespace Go.Proofs.YtbkkhmafheimfaaGreatDoor.Tk
open Go.ChangeShapes Go.WideShapes Go.ChangeAt Go.RowKit Go.Maps
abbrev I1:={ x:Int // i64B x }
def i1 (a:Int) (h:0≤a∧a≤100):I1:=⟨a,i64s a h⟩
def wayF (wb:Nat) (k:Nat):Value:=.func (.func k) #[.pointer (some ⟨wb,0,none⟩)] #[]
def tabW:List (Nat × I1 × Nat):=[(4,i1 0 (by omega),41),(8,i1 1 (by omega),42),(12,i1 2 (by omega),43),(16,i1 3 (by omega),44),(20,i1 4 (by omega),45),(24,i1 5 (by omega),46)]
def cntS (st:Nat→Int) (k:Nat):Nat:=((List.range k).filter fun i=>decide (st i=0)).length
theorem cntS_succ (st:Nat→Int) (k:Nat):cntS st (k+1)=cntS st k+(if st k=0 then 1 else 0):=by
 unfold cntS;rw[List.range_succ,List.filter_append,List.length_append]
 by_cases h:st k=0 <;> simp[h]
theorem cntS_le (st:Nat→Int) (k:Nat):cntS st k≤k:=by
 unfold cntS;exact Nat.le_trans (List.length_filter_le _ _) (by simp)
theorem steps_any (w:World) (wb:Nat) (a:Option Addr) (l:List Ent) (c:Nat) (hall:∀ x ∈ l,x=⟨0,0⟩) (D:Nat→Prop) (hln:l.length≤10000) (S:Nat→Nat→World→Prop) (st:Nat→Int)
  (h0:∀ w',Below w.heap.size w w'→S w'.heap.size 0 w') (hS:∀ N k wr w',S N k wr→Below wr.heap.size wr w'→S N k w') (hE:∀ N k wr,S N k wr→EntSl wr D a l) (hX:∀ N k wr,S N k wr→∃ X,WoAt wr wb X∧X.st=st k)
  (hgo:∀ N k,k<l.length→st k=0→∀ wr,S N k wr→Calls Tryz.prog 41 #[.pointer (some ⟨wb,0,none⟩),.int .i64 0] wr fun e w'=>e=.returned (.bool true)∧S N (k+1) w'∧Fr (fun q=>q<w.heap.size∨N≤q) wr w')
  (hno:∀ N k,k<l.length→st k≠0→∀ wr,S N k wr→S N (k+1) wr) :
  Calls Tryz.prog 25 #[.pointer (some ⟨wb,0,none⟩),.slice a l.length c] w fun e w'=>e=.returned (.int .i64 (cntS st l.length:Nat))∧∃ N,S N l.length w':=by
 obtain⟨X0,hX0,hX0s⟩:=hX _ _ _ (h0 w (Below.refl _ _));have nn:=none_any w wb X0 hX0;have hz:∀ w,(zeroValue 116).run Tryz.prog w=.ok Value.nilFunc w:=fun w=>by kernel_rfl
 have hzz:∀ (f:Fn) (x y:Array Value) (w:World),(Instr.makeFunc f x y).run Tryz.prog w=.ok (.func f x y) w:=fun _ _ _ _=>rfl
 clear hX0s hX0 X0;have HH0:=k_ h0;clear h0;have HHS:=k_ hS;clear hS;have HHE:=k_ hE;clear hE;have HHX:=k_ hX;clear hX;have HGO:=k_ hgo;clear hgo;have HNO:=k_ hno;clear hno;have NN:=k_ nn;clear nn;have HALL:=k_ hall;clear hall
 go_enter Tryz.func25,Tryz.ntmps25
 go_wp2_with fail;refine NN.out.mono ?_;rintro e w1 ⟨rfl,rfl⟩
 go_upto_region 3 with fail
 refine wp_region_noPanic ?_;refine wp_region_held_drew (S:=fun w'=>Below w.heap.size w w') (by kernel_rfl) (Below.refl _ _).drew (fun _=>?_);have HR1:=k_ (Below.refl w.heap.size w).drew;have hs1:w.drew.heap.size=w.heap.size:=rfl;have HS1:=k_ hs1;clear hs1;generalize w.drew=r1 at *;refine wpAnyH_take (i:=1) (v:=?_) rfl (by kernel_rfl) (by kernel_rfl) (by kernel_rfl) (fun _ _ _ h=>h) (Or.inl ⟨by kernel_rfl,?tq1⟩) HR1.out ?_
 case tq1=>(intro wq hq;go_simp;first | done | with_reducible rfl)
 refine wpAnyH_take (i:=2) (v:=?_) rfl (by kernel_rfl) (by kernel_rfl) (by kernel_rfl) (fun _ _ _ h=>h) (Or.inl ⟨by kernel_rfl,?tq2⟩) HR1.out ?_
 case tq2=>(intro wq hq;go_simp;first | done | with_reducible rfl)
 refine wpAnyH_take (i:=3) (v:=?_) rfl (by kernel_rfl) (by kernel_rfl) (by kernel_rfl) (fun _ _ _ h=>h) (Or.inl ⟨by kernel_rfl,?tq3⟩) HR1.out ?_
 case tq3=>(intro wq hq;go_simp;first | done | with_reducible rfl)
 refine wpAnyH_take (i:=5) (v:=?_) rfl (by kernel_rfl) (by kernel_rfl) (by kernel_rfl) (fun _ _ _ h=>h) (Or.inl ⟨by kernel_rfl,?tq5⟩) HR1.out ?_
 case tq5=>(intro wq hq;go_simp;first | done | with_reducible rfl)
 refine wpAnyH_take (i:=6) (v:=?_) rfl (by kernel_rfl) (by kernel_rfl) (by kernel_rfl) (fun _ _ _ h=>h) (Or.inl ⟨by kernel_rfl,?tq6⟩) HR1.out ?_
 case tq6=>(intro wq hq;go_simp;first | done | with_reducible rfl)
 refine wpAnyH_take (i:=7) (v:=?_) rfl (by kernel_rfl) (by kernel_rfl) (by kernel_rfl) (fun _ _ _ h=>h) (Or.inl ⟨by kernel_rfl,?tq7⟩) HR1.out ?_
 case tq7=>(intro wq hq;go_simp;first | done | with_reducible rfl)
 refine wpAnyH_take (i:=9) (v:=?_) rfl (by kernel_rfl) (by kernel_rfl) (by kernel_rfl) (fun _ _ _ h=>h) (Or.inl ⟨by kernel_rfl,?tq9⟩) HR1.out ?_
 case tq9=>(intro wq hq;go_simp;first | done | with_reducible rfl)
 refine wpAnyH_take (i:=10) (v:=?_) rfl (by kernel_rfl) (by kernel_rfl) (by kernel_rfl) (fun _ _ _ h=>h) (Or.inl ⟨by kernel_rfl,?tq10⟩) HR1.out ?_
 case tq10=>(intro wq hq;go_simp;first | done | with_reducible rfl)
 refine wpAnyH_take (i:=11) (v:=?_) rfl (by kernel_rfl) (by kernel_rfl) (by kernel_rfl) (fun _ _ _ h=>h) (Or.inl ⟨by kernel_rfl,?tq11⟩) HR1.out ?_
 case tq11=>(intro wq hq;go_simp;first | done | with_reducible rfl)
 refine wpAnyH_take (i:=13) (v:=?_) rfl (by kernel_rfl) (by kernel_rfl) (by kernel_rfl) (fun _ _ _ h=>h) (Or.inl ⟨by kernel_rfl,?tq13⟩) HR1.out ?_
 case tq13=>(intro wq hq;go_simp;first | done | with_reducible rfl)
 refine wpAnyH_take (i:=14) (v:=?_) rfl (by kernel_rfl) (by kernel_rfl) (by kernel_rfl) (fun _ _ _ h=>h) (Or.inl ⟨by kernel_rfl,?tq14⟩) HR1.out ?_
 case tq14=>(intro wq hq;go_simp;first | done | with_reducible rfl)
 refine wpAnyH_take (i:=15) (v:=?_) rfl (by kernel_rfl) (by kernel_rfl) (by kernel_rfl) (fun _ _ _ h=>h) (Or.inl ⟨by kernel_rfl,?tq15⟩) HR1.out ?_
 case tq15=>(intro wq hq;go_simp;first | done | with_reducible rfl)
 refine wpAnyH_take (i:=17) (v:=?_) rfl (by kernel_rfl) (by kernel_rfl) (by kernel_rfl) (fun _ _ _ h=>h) (Or.inl ⟨by kernel_rfl,?tq17⟩) HR1.out ?_
 case tq17=>(intro wq hq;go_simp;first | done | with_reducible rfl)
 refine wpAnyH_take (i:=18) (v:=?_) rfl (by kernel_rfl) (by kernel_rfl) (by kernel_rfl) (fun _ _ _ h=>h) (Or.inl ⟨by kernel_rfl,?tq18⟩) HR1.out ?_
 case tq18=>(intro wq hq;go_simp;first | done | with_reducible rfl)
 refine wpAnyH_take (i:=19) (v:=?_) rfl (by kernel_rfl) (by kernel_rfl) (by kernel_rfl) (fun _ _ _ h=>h) (Or.inl ⟨by kernel_rfl,?tq19⟩) HR1.out ?_
 case tq19=>(intro wq hq;go_simp;first | done | with_reducible rfl)
 refine wpAnyH_take (i:=21) (v:=?_) rfl (by kernel_rfl) (by kernel_rfl) (by kernel_rfl) (fun _ _ _ h=>h) (Or.inl ⟨by kernel_rfl,?tq21⟩) HR1.out ?_
 case tq21=>(intro wq hq;go_simp;first | done | with_reducible rfl)
 refine wpAnyH_take (i:=22) (v:=?_) rfl (by kernel_rfl) (by kernel_rfl) (by kernel_rfl) (fun _ _ _ h=>h) (Or.inl ⟨by kernel_rfl,?tq22⟩) HR1.out ?_
 case tq22=>(intro wq hq;go_simp;first | done | with_reducible rfl)
 refine wpAnyH_take (i:=23) (v:=?_) rfl (by kernel_rfl) (by kernel_rfl) (by kernel_rfl) (fun _ _ _ h=>h) (Or.inl ⟨by kernel_rfl,?tq23⟩) HR1.out ?_
 case tq23=>(intro wq hq;go_simp;first | done | with_reducible rfl)
 refine wpAnyH_ready (rs:=[0]) (by kernel_rfl) (by simp) ?_;refine(AllReadyH.cons rfl (fun K hK=>?_) AllReadyH.nil);go_simp;have hb2:Below w.heap.size w (r1.alloc (.map #[] 0)):=HR1.out.alloc HR1.out.size _;refine hK.out _ _ hb2 (fun _=>?_);clear hK K;refine inserts_go (K:=acK) (val:=wayF wb) Tryz.underlying117 _ r1.heap.size (fun w'=>Below w.heap.size w w') (fun _ h=>h) (fun w1 w2 h1 h2=>h1.trans ((turned_fr h2).below (N:=w.heap.size) h1.size (fun q hq=>by have:=HS1.out;have hq:q=r1.heap.size:=hq;omega))) 2 6 tabW rfl _ _ (by kernel_rfl) (fun x hx=>?_) (by decide) (by decide) (by kernel_rfl) (MapIs.made acK _ r1) (by decide) hb2 (fun w3 n g hn hm h1 h2 hb3=>?_)
 ·simp only[tabW,List.mem_cons,List.not_mem_nil,or_false] at hx
  rcases hx with rfl | rfl | rfl | rfl | rfl | rfl <;> exact⟨⟨_,_,_,rfl,rfl,rfl,rfl⟩,trivial⟩
 have hg:g (i1 0 (by omega))=some 41:=h1 _ (List.mem_cons_self ..);have HM:=k_ hm;have HB3:=k_ hb3;have HG:=k_ hg;clear hm h1 h2 hb3 hg;refine wpAnyH_take (i:=25) (v:=?_) rfl (by kernel_rfl) (by kernel_rfl) (by kernel_rfl) (fun _ _ _ h=>h) (Or.inl ⟨by kernel_rfl,?tq25⟩) HB3.out ?_
 case tq25=>(intro wq hq;go_simp;first | done | with_reducible rfl)
 refine wpAnyH_take (i:=26) (v:=?_) rfl (by kernel_rfl) (by kernel_rfl) (by kernel_rfl) (fun _ _ _ h=>h) (Or.inl ⟨by kernel_rfl,?tq26⟩) HB3.out ?_
 case tq26=>(intro wq hq;go_simp;first | done | with_reducible rfl)
 refine wpAnyH_done (by kernel_rfl) ?_ _;refine NoPanic.normal ?_;have hs0:=HH0.out w3 HB3.out;have hmb:w.heap.size≤r1.heap.size∧r1.heap.size<w3.heap.size:=⟨HR1.out.size,HM.out.lt⟩;clear HB3 HR1 HS1 hb2;generalize r1.heap.size=mb at *;obtain⟨N1,hN1⟩:∃ N1,N1=w3.heap.size:=⟨_,rfl⟩;rw[← hN1] at hs0 hmb;have HS0:=k_ hs0;have HMB:=k_ hmb;have HN1:=k_ hN1;clear hs0 hmb hN1 hn;go_wp2_with fail
 go_loopw [6,35] (fun n i wr=>∃ k:Nat,k≤l.length∧i=.int .i64 k∧n=.int .i64 (cntS st k:Nat)∧S N1 k wr∧(∃ m,MapIs acK (wayF wb) wr mb m g)∧N1≤wr.heap.size) (fun _ i _=>l.length - (intOf i).toNat)
 case atStart=>exact⟨0,Nat.zero_le _,rfl,rfl,HS0.out,⟨_,HM.out⟩,Nat.le_of_eq HN1.out⟩
 case round =>
  clear HM HS0;obtain⟨k,hk,rfl,rfl,hs,⟨m,hm⟩,hN⟩:=hrel
  by_cases hlt:k<l.length
  ·obtain⟨b,o,rfl,hd,e0,e1⟩:=HHE.out _ _ _ hs k hlt
   rw[HALL.out _ (List.getElem_mem hlt)] at e0 e1;have e0:wr.cell? ⟨b,o+k * 2,none⟩=some (.int .i64 0):=e0;have e1:wr.cell? ⟨b,o+k * 2+1,none⟩=some (.int .i64 0):=e1;obtain⟨w7,hw7⟩:∃ w7,w7=wr.alloc (.cells #[.int .i64 0,.int .i64 0] 42):=⟨_,rfl⟩;have hb7:Below wr.heap.size wr w7:=by rw[hw7];exact(Below.refl _ _).alloc (Nat.le_refl _) _
   have hr7:w7.heap[wr.heap.size]?=some (.cells #[.int .i64 0,.int .i64 0] 42):=by rw[hw7];exact heap_new _ _
   have hs7:=HHS.out _ _ _ _ hs hb7;have hm7:=hm.below hb7;obtain⟨X,hx,hst⟩:=HHX.out _ _ _ hs7;have q20:w7.cell? ⟨wb,20,none⟩=some (.int .i64 X.st):=(hx.cell 20).1;rw[hst] at q20;have hN7:=Nat.le_trans hN hb7.size;obtain⟨z,hz7⟩:∃ z,z=wr.heap.size:=⟨_,rfl⟩;rw[← hz7] at hr7;have z0:=(row_cell hr7 0).1;have z1:=(row_cell hr7 1).1;simp only[List.getElem?_toArray,List.getElem?_cons_zero,List.getElem?_cons_succ] at z0 z1;obtain⟨k1,hk1⟩:∃ k1,k1=k+1:=⟨_,rfl⟩;have iw:IntKind.i64.wrap ((k:Int)+1)=(k1:Int):=by rw[show ((k:Int)+1)=(k1:Int) from by omega];exact IntWalk.i64_in _ (by omega)
   have hcs:=cntS_succ st k;have hcl:=cntS_le st k;rw[← hk1] at hcs;have hle:k1≤l.length:=by omega
   have hdl:l.length - k1<l.length - k:=by omega
   obtain⟨cn,hcn⟩:∃ cn,cn=cntS st k:=⟨_,rfl⟩;rw[← hcn] at hcs hcl ⊢;obtain⟨cn1,hcn1⟩:∃ cn1,cn1=cn+1:=⟨_,rfl⟩;have jw:IntKind.i64.wrap ((cn:Int)+1)=(cn1:Int):=by rw[show ((cn:Int)+1)=(cn1:Int) from by omega];exact IntWalk.i64_in _ (by omega)
   have HW7:=k_ hw7;have HZ7:=k_ hz7;have HK1:=k_ hk1;clear hw7 hz7 hr7 hs hm hb7 hN hx hst X hcn hcl hk1 hd;have HS7:=k_ hs7;clear hs7;have HM7:=k_ hm7;clear hm7;have HN7:=k_ hN7;clear hN7;have HCS:=k_ hcs;clear hcs;have HLE:=k_ hle;clear hle;have HDL:=k_ hdl;clear hdl;have HCN1:=k_ hcn1;clear hcn1
   go_upto_region 8 with fail
   rw[← HW7.out,← HZ7.out];clear e0 e1
   by_cases h0:st k=0
   ·have go7:=HGO.out N1 k hlt h0 w7 HS7.out
    rw[h0] at q20;have GO7:=k_ go7;clear go7
    go_upto_region 9 with (refine look_some_ok rfl (.tmp 40) (.tmp 43) 117 116 rfl HM7.out Tryz.underlying117 (hz _) (i1 0 (by omega)) trivial rfl rfl _ HG.out ?_)
    unfold wayF;go_wp2_with fail;refine GO7.out.mono ?_;rintro e w8 ⟨rfl,hs8,hf8⟩;have hm8:=HM7.out.fr hf8 (fun h=>by have:=HMB.out;omega);have hN8:=Nat.le_trans HN7.out hf8.size;rw[← HK1.out] at hs8;clear hf8 z0 z1 q20;have HS8:=k_ hs8;clear hs8;have HM8:=k_ hm8;clear hm8;have HN8:=k_ hN8;clear hN8;go_wp2_with fail
    go_roundw
    case rel=>exact⟨k1,HLE.out,by go_num,by rw[HCS.out,if_pos h0,← HCN1.out],HS8.out,⟨m,HM8.out⟩,HN8.out⟩
    case measure=>have:=HDL.out;simp[intOf];omega
   ·have d20:(st k == 0)=false:=by rw[beq_eq_false_iff_ne];exact h0
    have hs8:=HNO.out N1 k hlt h0 w7 HS7.out;rw[← HK1.out] at hs8;have HS8:=k_ hs8;clear hs8
    go_upto_region 9 with (refine look_some_ok rfl (.tmp 40) (.tmp 43) 117 116 rfl HM7.out Tryz.underlying117 (hz _) (i1 0 (by omega)) trivial rfl rfl _ HG.out ?_)
    unfold wayF;go_wp2_with fail
    go_roundw
    case rel=>exact⟨k1,HLE.out,by go_num,by rw[HCS.out,if_neg h0];rfl,HS8.out,⟨m,HM7.out⟩,HN7.out⟩
    case measure=>have:=HDL.out;simp[intOf];omega
  ·have hk':k=l.length:=by omega
   subst hk';have HSE:=k_ hs;clear hs hm hN;go_wp2_with fail
   go_ret
   exact⟨rfl,N1,HSE.out⟩
end Go.Proofs.YtbkkhmafheimfaaGreatDoor.Tk
