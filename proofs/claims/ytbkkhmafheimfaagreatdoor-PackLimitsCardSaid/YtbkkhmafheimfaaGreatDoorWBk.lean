/- Walks: SetNil; who looks at a nil pointer panics. -/
import Derived.Test.YtbkkhmafheimfaaGreatDoorWBj
import Derived.Test.YtbkkhmafheimfaaGreatDoorWBe
set_option linter.unusedVariables false
set_option linter.unusedSimpArgs false
set_option maxRecDepth 100000
set_option maxHeartbeats 3200000
namespace Go.Proofs.YtbkkhmafheimfaaGreatDoor.Tk
open Go.ChangeShapes Go.WideShapes Go.ChangeAt Go.RowKit Go.Maps
theorem run_X27 (w:World) (F:Nat→Prop) (tb:Nat) (p:TPrg) (T:Tk) (X:TB) (h:TaskAt w F tb p T X) (c0 c1 c2 mp:Value) (ia ib ic:Int) (X1:TB) (hX1:X1.D=X.D) (al:List Alarm) (kf:{ x:Int × Int // i64B x.1∧i64B x.2 }→Option Int) (T':Tk) (k a f v fn:Int) (bb:Bool) (r0:Option Addr) (r1 r2:Nat)
  (ASK:∀ wr,Below w.heap.size w wr→Calls Tryz.prog 201 #[.agg (stepV c0 c1 c2 mp tb 27 ia ib ic)] wr (RunPostG wr F tb p X1 T' al kf (actV k a f v fn bb (.slice r0 r1 r2)))) :
  Calls Tryz.prog 122 #[.agg (stepV c0 c1 c2 mp tb 27 ia ib ic)] w (RunPostG w F tb p X1 T' al kf (actV k a f v fn bb (.slice r0 r1 r2))):=by
 have ASKX:=k_ ASK;clear ASK;unfold stepV at ASKX;have hb0:=((Below.refl w.heap.size w).alloc (Nat.le_refl _) (.cells (stepV c0 c1 c2 mp tb 27 ia ib ic) 236));have hb1:=hb0.alloc hb0.size act0;have hr0:=row_alloc (heap_new w (.cells (stepV c0 c1 c2 mp tb 27 ia ib ic) 236)) act0;have hr1:=heap_new (w.alloc (.cells (stepV c0 c1 c2 mp tb 27 ia ib ic) 236)) act0;rw[show (w.alloc (.cells (stepV c0 c1 c2 mp tb 27 ia ib ic) 236)).heap.size=w.heap.size+1 from by simp] at hr1;obtain⟨W,hW⟩:∃ W,W=(w.alloc (.cells (stepV c0 c1 c2 mp tb 27 ia ib ic) 236)).alloc act0:=⟨_,rfl⟩;rw[← hW] at hb1 hr0 hr1;have HFLT:=k_ h.flt;have HOUT:=k_ (fun k (hk:X.D k)=>(h.out k hk).2);have hwz:W.heap.size=w.heap.size+2:=by rw[hW];simp
 unfold act0 at hW hr1;unfold stepV at hW hr0;have HW:=k_ hW;have k4:W.cell? ⟨w.heap.size,4,none⟩=some (.pointer (some ⟨tb,0,none⟩)):=(row_cell hr0 4).1;have k5:W.cell? ⟨w.heap.size,5,none⟩=some (.int .i64 27):=(row_cell hr0 5).1;have k6:W.cell? ⟨w.heap.size,6,none⟩=some (.int .i64 ia):=(row_cell hr0 6).1;have k7:W.cell? ⟨w.heap.size,7,none⟩=some (.int .i64 ib):=(row_cell hr0 7).1;have k8:W.cell? ⟨w.heap.size,8,none⟩=some (.int .i64 ic):=(row_cell hr0 8).1;have HRR:=k_ (Below.refl W.heap.size W);clear hb0 hW;have HB1:=k_ hb1;clear hb1;have HR1:=k_ hr1;clear hr1;have HR0:=k_ hr0;clear hr0;have HWZ:=k_ hwz;clear hwz;unfold stepV
 go_enter Tryz.func122,Tryz.ntmps122
 go_upto_region 1 with fail
 rw[← HW.out]
 go_cut [3,4] (fun x y wx=>∃ z:Nat,x=.pointer (some ⟨z,0,none⟩)∧y=.pointer (some ⟨tb,0,none⟩)∧wx.heap[z]?=some (.cells #[.int .i64 27,.int .i64 ia,.int .i64 ib,.int .i64 ic] 32)∧w.heap.size+2≤z∧Below W.heap.size W wx)
 case first =>
  have bs:=World.block_lt k4
  dsimp only at bs
  go_region
  all_goals
   go_wp2_with fail
   go_meet
   case rel=>exact⟨_,rfl,rfl,heap_new _ _,by have:=HWZ.out;omega,(HRR.out.drew).alloc (HRR.out.size) _⟩
 case rest =>
  obtain⟨z,rfl,rfl,hz,hzl,hR⟩:=hcut;have hbc:=HB1.out.trans (hR.mono HB1.out.size);have hrb:=(Fr.of_below hR (fun _=>False)).heap HR0.out (fun h=>h);have hrc:=(Fr.of_below hR (fun _=>False)).heap HR1.out (fun h=>h);have HBC:=k_ hbc;have HSZ:=k_ (show w.heap.size+2≤wc.heap.size from by have:=hR.size;have:=HWZ.out;omega);have HRW:=k_ (fun wx (hw:Below wc.heap.size wc wx)=>(Fr.of_below hw (fun _=>False)).heap hrc (fun h=>h));have HSS:=k_ (show ∀ wx,Below wc.heap.size wc wx→wx.cell? ⟨w.heap.size,0,none⟩=some (c0)∧wx.cell? ⟨w.heap.size,1,none⟩=some (c1)∧wx.cell? ⟨w.heap.size,2,none⟩=some (c2)∧wx.cell? ⟨w.heap.size,3,none⟩=some (mp)∧wx.cell? ⟨w.heap.size,4,none⟩=some (.pointer (some ⟨tb,0,none⟩))∧wx.cell? ⟨w.heap.size,5,none⟩=some (.int .i64 27)∧wx.cell? ⟨w.heap.size,6,none⟩=some (.int .i64 ia)∧wx.cell? ⟨w.heap.size,7,none⟩=some (.int .i64 ib)∧wx.cell? ⟨w.heap.size,8,none⟩=some (.int .i64 ic)∧wx.cell? ⟨z,0,none⟩=some (.int .i64 27)∧wx.cell? ⟨z,1,none⟩=some (.int .i64 ia)∧wx.cell? ⟨z,2,none⟩=some (.int .i64 ib)∧wx.cell? ⟨z,3,none⟩=some (.int .i64 ic) from fun wx hw=>by
   have g1:=(Fr.of_below hw (fun _=>False)).heap hrb (fun h=>h);have g2:=(Fr.of_below hw (fun _=>False)).heap hz (fun h=>h);exact⟨(row_cell g1 0).1,(row_cell g1 1).1,(row_cell g1 2).1,(row_cell g1 3).1,(row_cell g1 4).1,(row_cell g1 5).1,(row_cell g1 6).1,(row_cell g1 7).1,(row_cell g1 8).1,(row_cell g2 0).1,(row_cell g2 1).1,(row_cell g2 2).1,(row_cell g2 3).1⟩)
  have hSd:=HSS.out wc.drew (Below.refl wc.heap.size wc).drew;have HRC:=k_ (Below.refl wc.heap.size wc);have HRD:=k_ (Below.refl wc.heap.size wc).drew;have z0:wc.cell? ⟨z,0,none⟩=some (.int .i64 27):=(row_cell hz 0).1;clear hR hrb hrc hz k4 k5 k6 k7 k8 hbc;obtain⟨y0,y1,y2,y3,y4,y5,y6,y7,y8,_,_,_,_⟩:=HSS.out _ HRC.out;clear hSd
  go_upto_region 40 with fail
  go_wp2_with fail;refine(ASKX.out _ HBC.out).mono ?_;rintro e w5 ⟨rfl,F',X',hT5,hXD,hF',hf5⟩;have HWD:=HRC;clear y0 y1 y2 y3 y4 y5 y6 y7 y8 z0;have hsz5:w.heap.size+2≤wc.heap.size:=by have:=HSZ.out;omega
  have hr5:=hf5.heap (HRW.out _ HWD.out) (fun e=>by have:=HFLT.out (w.heap.size+1) e;omega);obtain⟨⟨u0,u1,u2,u3,u4,u5,u6⟩,n0,n1,n2,n3,n4,n5,n6⟩:=seven_cells hr5;have hfs:=seven_fr w5 (.int .i64 k) (.int .i64 a) (.int .i64 f) (.int .i64 v) (.int .i64 fn) (.bool bb) (.slice r0 r1 r2) (w.heap.size+1);have hrs:=seven_row hr5 (.int .i64 k) (.int .i64 a) (.int .i64 f) (.int .i64 v) (.int .i64 fn) (.bool bb) (.slice r0 r1 r2);have hFz:∀ q,F' q→q≠w.heap.size+1:=fun q hq e=>by
   rcases hF' q hq with h1 | h1
   ·have:=HFLT.out q h1;omega
   ·have:=HWD.out.size;omega
  have hT6:=hT5.fr hfs (fun q hq e=>hFz q hq e) (fun q hq e=>by rw[hXD.1,hX1] at hq;have:=HOUT.out q hq;have e:q=w.heap.size+1:=e;omega);have hfw:=(Fr.of_below (HBC.out.trans (HWD.out.mono HBC.out.size)) F).trans hf5 (fun _ _ h=>h);have hf6:=hfw.trans hfs (fun q hq e=>by have e:q=w.heap.size+1:=e;omega);have hF6:∀ q,F' q→F q∨w.heap.size≤q:=fun q hq=>(hF' q hq).imp id (fun h1=>by have:=HWD.out.size;omega)
  have HPP:=k_ (show RunPostG w F tb p X1 _ _ _ (actV k a f v fn bb (.slice r0 r1 r2)) _ _ from⟨rfl,F',X',hT6,hXD,hF6,hf6⟩);clear hfs hr5 hT5 hT6 hfw hf6 hf5 hF6 hFz hF' hXD hsz5;have HRS:=k_ hrs;clear hrs;unfold actV;go_wp2_with fail;refine bodyPost_ret ?_ rfl HPP.out;have k0:=(row_cell HRS.out 0).1;have k1:=(row_cell HRS.out 1).1;have k2:=(row_cell HRS.out 2).1;have k3:=(row_cell HRS.out 3).1;have k4:=(row_cell HRS.out 4).1;have k5:=(row_cell HRS.out 5).1;have k6:=(row_cell HRS.out 6).1;simp at k0 k1 k2 k3 k4 k5 k6;simp[results,Tryz.results122,go_sem,k0,k1,k2,k3,k4,k5,k6,actV]
end Go.Proofs.YtbkkhmafheimfaaGreatDoor.Tk
