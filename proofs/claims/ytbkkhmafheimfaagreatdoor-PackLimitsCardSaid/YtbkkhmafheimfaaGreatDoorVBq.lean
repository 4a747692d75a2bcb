/- Walks: where a task stands; whether that is a safe point. The first program on a machine: step for step. The first program on a machine, .. -/
import Derived.Test.YtbkkhmafheimfaaGreatDoorVBo
import Derived.Test.YtbkkhmafheimfaaGreatDoorVBp
set_option linter.unusedVariables false
set_option linter.unusedSimpArgs false
set_option maxRecDepth 100000
set_option maxHeartbeats 3200000
namespace Go.Proofs.YtbkkhmafheimfaaGreatDoor.Tk
open Go.ChangeShapes Go.WideShapes Go.ChangeAt Go.RowKit Go.Maps
def ins0:Obj:=.cells #[.int .i64 0,.int .i64 0,.int .i64 0,.int .i64 0] 32
theorem at_not (w:World) (F:Nat→Prop) (tb:Nat) (p:TPrg) (T:Tk) (X:TB) (h:TaskAt w F tb p T X) (hm:T.parts=[]∨nextU T.marks X.al≠0) (hml:T.marks.length≤10000) (hal:X.al.length≤10000) (a0 a1 a2:Option Addr) (n0 m0 n1 m1 n2 m2:Nat) :
  Calls Tryz.prog 114 #[.agg #[.slice a0 n0 m0,.slice a1 n1 m1,.slice a2 n2 m2],.pointer (some ⟨tb,0,none⟩)] w fun e w'=>e=.returned (.tuple #[.agg #[.int .i64 0,.int .i64 0,.int .i64 0,.int .i64 0],.bool false])∧Below w.heap.size w w':=by
 have hb0:=((Below.refl w.heap.size w).alloc (Nat.le_refl _) (.cells #[.slice a0 n0 m0,.slice a1 n1 m1,.slice a2 n2 m2] 40));have hb1:=hb0.alloc hb0.size ins0;have hr0:=row_alloc (heap_new w (.cells #[.slice a0 n0 m0,.slice a1 n1 m1,.slice a2 n2 m2] 40)) ins0;have hr1:=heap_new (w.alloc (.cells #[.slice a0 n0 m0,.slice a1 n1 m1,.slice a2 n2 m2] 40)) ins0;obtain⟨W,hW⟩:∃ W,W=(w.alloc (.cells #[.slice a0 n0 m0,.slice a1 n1 m1,.slice a2 n2 m2] 40)).alloc ins0:=⟨_,rfl⟩;rw[← hW] at hb1 hr0 hr1;obtain⟨z0,hz0⟩:∃ z0,z0=w.heap.size:=⟨_,rfl⟩;obtain⟨z1,hz1⟩:∃ z1,z1=w.heap.size+1:=⟨_,rfl⟩;rw[show (w.alloc (.cells #[.slice a0 n0 m0,.slice a1 n1 m1,.slice a2 n2 m2] 40)).heap.size=z1 from by rw[hz1];simp] at hr1;rw[← hz0] at hr0;unfold ins0 at hr1 hW;have HW:=k_ hW;have HZ0:=k_ hz0;have HZ1:=k_ hz1;clear hb0 hW hz0 hz1;have HB1:=k_ hb1;clear hb1;have HR0:=k_ hr0;clear hr0;have HR1:=k_ hr1;clear hr1;have hT:=h.below HB1.out;have dp:=depth_any W F tb p T X hT;have nx:=tkNext_any W F tb p T X hT hml hal;generalize nextU T.marks X.al=nu at *;obtain⟨pl,hpl⟩:∃ pl,pl=T.parts.length:=⟨_,rfl⟩;rw[← hpl] at dp;have hc:pl=0∨nu≠0:=hm.imp (fun e=>by rw[hpl,e];rfl) id;clear hT h hm hml hal hpl;have DP:=k_ dp;clear dp;have NX:=k_ nx;clear nx;have hr1:=HR1.out
 rcases hc with rfl | hnu
 ·go_enter Tryz.func114,Tryz.ntmps114
  go_upto_region 1 with fail
  rw[← HW.out,← HZ1.out,← HZ0.out];go_wp2_with fail;refine DP.out.mono ?_;rintro e w1 ⟨rfl,rfl⟩;have l0:=row_cell hr1 0;have l1:=row_cell hr1 1;have l2:=row_cell hr1 2;have l3:=row_cell hr1 3;obtain⟨l0,g0⟩:=l0;obtain⟨l1,g1⟩:=l1;obtain⟨l2,g2⟩:=l2;obtain⟨l3,g3⟩:=l3;simp only[List.getElem?_toArray,List.getElem?_cons_zero,List.getElem?_cons_succ] at l0 l1 l2 l3;have hf:Fr (fun k=>k=z1) W _:=((((Fr.refl (fun k=>k=z1) W).setCell (p:=⟨z1,0,none⟩) (fun _=>rfl) (.int .i64 0)).setCell (p:=⟨z1,1,none⟩) (fun _=>rfl) (.int .i64 0)).setCell (p:=⟨z1,2,none⟩) (fun _=>rfl) (.int .i64 0)).setCell (p:=⟨z1,3,none⟩) (fun _=>rfl) (.int .i64 0);have he:=HB1.out.trans (hf.below HB1.out.size (fun k hk=>by have hk:k=z1:=hk;have:=HZ1.out;omega));have hrs:=row_set (row_set (row_set (row_set hr1 0 (.int .i64 0)) 1 (.int .i64 0)) 2 (.int .i64 0)) 3 (.int .i64 0);clear hf;have HE:=k_ he;clear he;have HRS:=k_ hrs;clear hrs;clear hr1;go_wp2_with fail;refine bodyPost_ret ?_ rfl (And.intro rfl HE.out);have k0:=(row_cell HRS.out 0).1;have k1:=(row_cell HRS.out 1).1;have k2:=(row_cell HRS.out 2).1;have k3:=(row_cell HRS.out 3).1
  simp at k0 k1 k2 k3
  simp[results,Tryz.results114,go_sem,k0,k1,k2,k3]
 ·by_cases hp0:pl=0
  ·subst hp0
   go_enter Tryz.func114,Tryz.ntmps114
   go_upto_region 1 with fail
   rw[← HW.out,← HZ1.out,← HZ0.out];go_wp2_with fail;refine DP.out.mono ?_;rintro e w1 ⟨rfl,rfl⟩;have l0:=row_cell hr1 0;have l1:=row_cell hr1 1;have l2:=row_cell hr1 2;have l3:=row_cell hr1 3;obtain⟨l0,g0⟩:=l0;obtain⟨l1,g1⟩:=l1;obtain⟨l2,g2⟩:=l2;obtain⟨l3,g3⟩:=l3;simp only[List.getElem?_toArray,List.getElem?_cons_zero,List.getElem?_cons_succ] at l0 l1 l2 l3;have hf:Fr (fun k=>k=z1) W _:=((((Fr.refl (fun k=>k=z1) W).setCell (p:=⟨z1,0,none⟩) (fun _=>rfl) (.int .i64 0)).setCell (p:=⟨z1,1,none⟩) (fun _=>rfl) (.int .i64 0)).setCell (p:=⟨z1,2,none⟩) (fun _=>rfl) (.int .i64 0)).setCell (p:=⟨z1,3,none⟩) (fun _=>rfl) (.int .i64 0);have he:=HB1.out.trans (hf.below HB1.out.size (fun k hk=>by have hk:k=z1:=hk;have:=HZ1.out;omega));have hrs:=row_set (row_set (row_set (row_set hr1 0 (.int .i64 0)) 1 (.int .i64 0)) 2 (.int .i64 0)) 3 (.int .i64 0);clear hf;have HE:=k_ he;clear he;have HRS:=k_ hrs;clear hrs;clear hr1;go_wp2_with fail;refine bodyPost_ret ?_ rfl (And.intro rfl HE.out);have k0:=(row_cell HRS.out 0).1;have k1:=(row_cell HRS.out 1).1;have k2:=(row_cell HRS.out 2).1;have k3:=(row_cell HRS.out 3).1
   simp at k0 k1 k2 k3
   simp[results,Tryz.results114,go_sem,k0,k1,k2,k3]
  ·have d0:((pl:Int) == 0)=false:=by rw[beq_eq_false_iff_ne];omega
   have d1:(nu != 0)=true:=by rw[bne_iff_ne];exact hnu
   clear hp0 hnu
   go_enter Tryz.func114,Tryz.ntmps114
   go_upto_region 1 with fail
   rw[← HW.out,← HZ1.out,← HZ0.out];go_wp2_with fail;refine DP.out.mono ?_;rintro e w1 ⟨rfl,rfl⟩;go_wp2_with fail;refine NX.out.mono ?_;rintro e w1 ⟨rfl,hb⟩;have hr1:=(Fr.of_below hb (fun _=>False)).heap hr1 (fun h=>h);have HB:=k_ (HB1.out.trans (hb.mono HB1.out.size));clear hb;have l0:=row_cell hr1 0;have l1:=row_cell hr1 1;have l2:=row_cell hr1 2;have l3:=row_cell hr1 3;obtain⟨l0,g0⟩:=l0;obtain⟨l1,g1⟩:=l1;obtain⟨l2,g2⟩:=l2;obtain⟨l3,g3⟩:=l3;simp only[List.getElem?_toArray,List.getElem?_cons_zero,List.getElem?_cons_succ] at l0 l1 l2 l3;have hf:Fr (fun k=>k=z1) w1 _:=((((Fr.refl (fun k=>k=z1) w1).setCell (p:=⟨z1,0,none⟩) (fun _=>rfl) (.int .i64 0)).setCell (p:=⟨z1,1,none⟩) (fun _=>rfl) (.int .i64 0)).setCell (p:=⟨z1,2,none⟩) (fun _=>rfl) (.int .i64 0)).setCell (p:=⟨z1,3,none⟩) (fun _=>rfl) (.int .i64 0);have he:=HB.out.trans (hf.below HB.out.size (fun k hk=>by have hk:k=z1:=hk;have:=HZ1.out;omega));have hrs:=row_set (row_set (row_set (row_set hr1 0 (.int .i64 0)) 1 (.int .i64 0)) 2 (.int .i64 0)) 3 (.int .i64 0);clear hf;have HE:=k_ he;clear he;have HRS:=k_ hrs;clear hrs;clear hr1;go_wp2_with fail;refine bodyPost_ret ?_ rfl (And.intro rfl HE.out);have k0:=(row_cell HRS.out 0).1;have k1:=(row_cell HRS.out 1).1;have k2:=(row_cell HRS.out 2).1;have k3:=(row_cell HRS.out 3).1
   simp at k0 k1 k2 k3
   simp[results,Tryz.results114,go_sem,k0,k1,k2,k3]
theorem at_run (w:World) (F:Nat→Prop) (tb:Nat) (p:TPrg) (T:Tk) (X:TB) (h:TaskAt w F tb p T X) (hn:T.parts.length≤1000) (hm:nextU T.marks X.al=0) (hml:T.marks.length≤10000) (hal:X.al.length≤10000) (P:List Part) (q:Part) (hP:T.parts=P ++ [q])
  (D:Nat→Prop) (hD:∀ k,D k→k<w.heap.size) (pr:Prg) (c0 c1 c2:Value) (hv:PrgVal w D pr c0 c1 c2) (j:Nat) (hj:j<pr.funcs.length) (hfj:q.fn=j) (pc:Nat) (hpc:q.pc=pc) (hpl:pc<pr.funcs[j].code.length) (i:Ins) (hi:pr.funcs[j].code[pc]=i) :
  Calls Tryz.prog 114 #[.agg #[c0,c1,c2],.pointer (some ⟨tb,0,none⟩)] w fun e w'=>e=.returned (.tuple #[.agg #[.int .i64 i.op,.int .i64 i.a,.int .i64 i.b,.int .i64 i.c],.bool true])∧Below w.heap.size w w':=by
 have hl:T.parts.length=P.length+1:=by rw[hP];simp
 have e0:(T.parts[P.length]'(by omega))=q:=by simp only[hP];simp
 have fnc:=fun wr (hw:Below w.heap.size w wr)=>fn_some wr F tb p T X (h.below hw) hn P.length hl
 have pcc:=fun wr (hw:Below w.heap.size w wr)=>pc_some wr F tb p T X (h.below hw) hn P.length hl
 rw[e0,hfj] at fnc;rw[e0,hpc] at pcc;obtain⟨⟨a0,m0,rfl,_⟩,⟨a1,m1,rfl,_⟩,a2,m2,rfl,hfn⟩:=hv;obtain⟨bb,o,rfl,hdb,y0,y1,y2,y3,y4,g0,g1,g2,g3,g4,hfv⟩:=hfn j hj;obtain⟨v1,v2,v3,v4,ac,cc,rfl,hcode⟩:=hfv;clear v1 v2 v3 v4;obtain⟨cb,co,rfl,hdc,x0,x1,x2,x3⟩:=hcode pc hpl;rw[hi] at x0 x1 x2 x3;have hbo:=hD _ hdb;have hco:=hD _ hdc;generalize pr.globals.length=n0 at *;generalize pr.shapes.length=n1 at *;have hj0:(0:Int)≤(j:Int):=by omega
 have hj1:(j:Int)<(pr.funcs.length:Int):=by omega
 have hp0:(0:Int)≤(pc:Int):=by omega
 have hp1:(pc:Int)<(pr.funcs[j].code.length:Int):=by omega
 clear hi hcode hfn;generalize pr.funcs[j].code.length=cl at *;have dpc:=fun wr (hw:Below w.heap.size w wr)=>depth_any wr F tb p T X (h.below hw)
 have nxc:=fun wr (hw:Below w.heap.size w wr)=>tkNext_any wr F tb p T X (h.below hw) hml hal
 rw[hm] at nxc;have hcs:∀ wx,Below w.heap.size w wx→wx.cell? ⟨bb,o+j * 5+4,none⟩=some (.slice (some ⟨cb,co,none⟩) cl cc)∧wx.cell? ⟨cb,co+pc * 4,none⟩=some (.int .i64 i.op)∧wx.cell? ⟨cb,co+pc * 4+1,none⟩=some (.int .i64 i.a)∧wx.cell? ⟨cb,co+pc * 4+2,none⟩=some (.int .i64 i.b)∧wx.cell? ⟨cb,co+pc * 4+3,none⟩=some (.int .i64 i.c):=fun wx hx=>⟨below_cell hx g4,below_cell hx x0,below_cell hx x1,below_cell hx x2,below_cell hx x3⟩
 obtain⟨N,hN⟩:∃ N,N=T.parts.length:=⟨_,rfl⟩;rw[← hN] at dpc;have d0:((N:Int) == 0)=false:=by rw[beq_eq_false_iff_ne];omega
 clear g0 g1 g2 g3 g4 x0 x1 x2 x3 hdb hdc hD e0 hP h hn hm hml hal hl hpl hfj hpc hN;generalize pr.funcs.length=n2 at *;clear hj;have FNC:=k_ fnc;clear fnc;have PCC:=k_ pcc;clear pcc;have DPC:=k_ dpc;clear dpc;have NXC:=k_ nxc;clear nxc;have HCS:=k_ hcs;clear hcs;have HBO:=k_ hbo;clear hbo;have HCO:=k_ hco;clear hco;have hb0:=((Below.refl w.heap.size w).alloc (Nat.le_refl _) (.cells #[.slice a0 n0 m0,.slice a1 n1 m1,.slice (some ⟨bb,o,none⟩) n2 m2] 40));have hb1:=hb0.alloc hb0.size ins0;have hr0:=row_alloc (heap_new w (.cells #[.slice a0 n0 m0,.slice a1 n1 m1,.slice (some ⟨bb,o,none⟩) n2 m2] 40)) ins0;have hr1:=heap_new (w.alloc (.cells #[.slice a0 n0 m0,.slice a1 n1 m1,.slice (some ⟨bb,o,none⟩) n2 m2] 40)) ins0;obtain⟨W,hW⟩:∃ W,W=(w.alloc (.cells #[.slice a0 n0 m0,.slice a1 n1 m1,.slice (some ⟨bb,o,none⟩) n2 m2] 40)).alloc ins0:=⟨_,rfl⟩;rw[← hW] at hb1 hr0 hr1;obtain⟨z0,hz0⟩:∃ z0,z0=w.heap.size:=⟨_,rfl⟩;obtain⟨z1,hz1⟩:∃ z1,z1=w.heap.size+1:=⟨_,rfl⟩;rw[show (w.alloc (.cells #[.slice a0 n0 m0,.slice a1 n1 m1,.slice (some ⟨bb,o,none⟩) n2 m2] 40)).heap.size=z1 from by rw[hz1];simp] at hr1;rw[← hz0] at hr0;unfold ins0 at hr1 hW;have HW:=k_ hW;have HZ0:=k_ hz0;have HZ1:=k_ hz1;clear hb0 hW hz0 hz1;have HB1:=k_ hb1;clear hb1;have HR0:=k_ hr0;clear hr0;have HR1:=k_ hr1;clear hr1
 go_enter Tryz.func114,Tryz.ntmps114
 go_upto_region 1 with fail
 rw[← HW.out,← HZ1.out,← HZ0.out];go_wp2_with fail;refine(DPC.out _ HB1.out).mono ?_;rintro e w1 ⟨rfl,rfl⟩;go_wp2_with fail;refine(NXC.out _ HB1.out).mono ?_;rintro e w1 ⟨rfl,hb⟩;have HB:=k_ (HB1.out.trans (hb.mono HB1.out.size));have HBD:=k_ (fun k=>below_drewN HB.out k);have hr0:=(Fr.of_below hb (fun _=>False)).heap HR0.out (fun h=>h);have hr1:=(Fr.of_below hb (fun _=>False)).heap HR1.out (fun h=>h);have HRK:=k_ (fun k=>(Fr.of_below (below_drewN (Below.refl w1.heap.size w1) k) (fun _=>False)).heap hr1 (fun h=>h));have HSG:=k_ (show ∀ k,(w1.drewN k).cell? ⟨z0,2,none⟩=some (.slice (some ⟨bb,o,none⟩) n2 m2)∧(w1.drewN k).cell? ⟨bb,o+j * 5+4,none⟩=some (.slice (some ⟨cb,co,none⟩) cl cc)∧(w1.drewN k).cell? ⟨cb,co+pc * 4,none⟩=some (.int .i64 i.op)∧(w1.drewN k).cell? ⟨cb,co+pc * 4+1,none⟩=some (.int .i64 i.a)∧(w1.drewN k).cell? ⟨cb,co+pc * 4+2,none⟩=some (.int .i64 i.b)∧(w1.drewN k).cell? ⟨cb,co+pc * 4+3,none⟩=some (.int .i64 i.c) from fun k=>by
  have hk:=(Fr.of_below (below_drewN (Below.refl w1.heap.size w1) k) (fun _=>False)).heap hr0 (fun h=>h);exact⟨(row_cell hk 2).1,HCS.out _ (below_drewN HB.out k)⟩)
 have hSd:=HSG.out 1;rw[show w1.drewN 1=w1.drew from rfl] at hSd;clear hb hr0 hr1
 go_upto_region 3 with fail
 go_region_held3 (fun w'=>w'.cell? ⟨z0,2,none⟩=some (.slice (some ⟨bb,o,none⟩) n2 m2)∧w'.cell? ⟨bb,o+j * 5+4,none⟩=some (.slice (some ⟨cb,co,none⟩) cl cc)∧w'.cell? ⟨cb,co+pc * 4,none⟩=some (.int .i64 i.op)∧w'.cell? ⟨cb,co+pc * 4+1,none⟩=some (.int .i64 i.a)∧w'.cell? ⟨cb,co+pc * 4+2,none⟩=some (.int .i64 i.b)∧w'.cell? ⟨cb,co+pc * 4+3,none⟩=some (.int .i64 i.c)) (first | with_reducible exact hSd | with_reducible exact HSG.out _ | with_reducible exact hS7 | go_keep) (first
  | (go_at_call 120
     refine(FNC.out _ (HBD.out _)).mono ?_;rintro e w4 ⟨rfl,m,rfl⟩)
  | (go_at_call 121
     refine(PCC.out _ (HBD.out _)).mono ?_;rintro e w4 ⟨rfl,m',rfl⟩;have hr5:=HRK.out (1+m+m');have l0:=(row_cell hr5 0).1;have l1:=(row_cell hr5 1).1;have l2:=(row_cell hr5 2).1;have l3:=(row_cell hr5 3).1;have q0:=(row_cell hr5 0).2;have q1:=(row_cell hr5 1).2;have q2:=(row_cell hr5 2).2;have q3:=(row_cell hr5 3).2;simp only[List.getElem?_toArray,List.getElem?_cons_zero,List.getElem?_cons_succ] at l0 l1 l2 l3;obtain⟨u0,u1,u2,u3,u4,u5⟩:=HSG.out (1+m+m');have nz0:¬ z0=z1:=by have:=HZ0.out;have:=HZ1.out;omega
     have nz1:¬ bb=z1:=by have:=HBO.out;have:=HZ1.out;omega
     have nz2:¬ cb=z1:=by have:=HCO.out;have:=HZ1.out;omega
     have hf7:Fr (fun k=>k=z1) (w1.drewN (1+m+m')) _:=((((Fr.refl (fun k=>k=z1) (w1.drewN (1+m+m'))).setCell (p:=⟨z1,0,none⟩) (fun _=>rfl) (.int .i64 i.op)).setCell (p:=⟨z1,1,none⟩) (fun _=>rfl) (.int .i64 i.a)).setCell (p:=⟨z1,2,none⟩) (fun _=>rfl) (.int .i64 i.b)).setCell (p:=⟨z1,3,none⟩) (fun _=>rfl) (.int .i64 i.c);have hS7:=And.intro (hf7.cell u0 nz0) (And.intro (hf7.cell u1 nz1) (And.intro (hf7.cell u2 nz2) (And.intro (hf7.cell u3 nz2) (And.intro (hf7.cell u4 nz2) (hf7.cell u5 nz2)))));have he:=(HBD.out (1+m+m')).trans (hf7.below (HBD.out (1+m+m')).size (fun k hk=>by have hk:k=z1:=hk;have:=HZ1.out;omega));have hrs:=row_set (row_set (row_set (row_set hr5 0 (.int .i64 i.op)) 1 (.int .i64 i.a)) 2 (.int .i64 i.b)) 3 (.int .i64 i.c);have HE:=k_ he;have HRS:=k_ hrs;clear u0 u1 u2 u3 u4 u5 hf7 he hrs hr5))
 all_goals
  go_wp2_with fail;refine bodyPost_ret ?_ rfl (And.intro rfl HE.out);have k0:=(row_cell HRS.out 0).1;have k1:=(row_cell HRS.out 1).1;have k2:=(row_cell HRS.out 2).1;have k3:=(row_cell HRS.out 3).1
  simp at k0 k1 k2 k3
  simp[results,Tryz.results114,go_sem,k0,k1,k2,k3]
theorem safeT_not (w:World) (tb:Nat) (a0 a1 a2:Option Addr) (n0 m0 n1 m1 n2 m2:Nat)
  (AT:∀ wx,Below w.heap.size w wx→Calls Tryz.prog 114 #[.agg #[.slice a0 n0 m0,.slice a1 n1 m1,.slice a2 n2 m2],.pointer (some ⟨tb,0,none⟩)] wx fun e w'=>e=.returned (.tuple #[.agg #[.int .i64 0,.int .i64 0,.int .i64 0,.int .i64 0],.bool false])∧Below wx.heap.size wx w') :
  Calls Tryz.prog 68 #[.agg #[.slice a0 n0 m0,.slice a1 n1 m1,.slice a2 n2 m2],.pointer (some ⟨tb,0,none⟩)] w fun e w'=>e=.returned (.bool true)∧Below w.heap.size w w':=by
 have hb0:=((Below.refl w.heap.size w).alloc (Nat.le_refl _) (.cells #[.slice a0 n0 m0,.slice a1 n1 m1,.slice a2 n2 m2] 40));have ax:=AT _ hb0;clear AT;have HB0:=k_ hb0;clear hb0;have AX:=k_ ax;clear ax
 go_enter Tryz.func68,Tryz.ntmps68
 go_wp2_with fail;refine AX.out.mono ?_;rintro e w1 ⟨rfl,hb⟩;have HB:=k_ ((HB0.out.trans (hb.mono HB0.out.size)).alloc (HB0.out.trans (hb.mono HB0.out.size)).size (.cells #[.int .i64 0,.int .i64 0,.int .i64 0,.int .i64 0] 32));clear hb;go_wp2_with fail
 go_ret
 exact⟨rfl,HB.out⟩
theorem safeT_run (w:World) (tb:Nat) (a0 a1 a2:Option Addr) (n0 m0 n1 m1 n2 m2:Nat) (op ia ib ic:Int)
  (AT:∀ wx,Below w.heap.size w wx→Calls Tryz.prog 114 #[.agg #[.slice a0 n0 m0,.slice a1 n1 m1,.slice a2 n2 m2],.pointer (some ⟨tb,0,none⟩)] wx fun e w'=>e=.returned (.tuple #[.agg #[.int .i64 op,.int .i64 ia,.int .i64 ib,.int .i64 ic],.bool true])∧Below wx.heap.size wx w') :
  Calls Tryz.prog 68 #[.agg #[.slice a0 n0 m0,.slice a1 n1 m1,.slice a2 n2 m2],.pointer (some ⟨tb,0,none⟩)] w fun e w'=>e=.returned (.bool (safeS op))∧Below w.heap.size w w':=by
 have hb0:=((Below.refl w.heap.size w).alloc (Nat.le_refl _) (.cells #[.slice a0 n0 m0,.slice a1 n1 m1,.slice a2 n2 m2] 40));have ax:=AT _ hb0;clear AT;have sx:=fun w=>safe_any w op
 unfold SafeSaid at sx;generalize safeS op=so at *;have SX:=k_ sx;clear sx;have HB0:=k_ hb0;clear hb0;have AX:=k_ ax;clear ax
 go_enter Tryz.func68,Tryz.ntmps68
 go_wp2_with fail;refine AX.out.mono ?_;rintro e w1 ⟨rfl,hb⟩;have HB:=k_ ((HB0.out.trans (hb.mono HB0.out.size)).alloc (HB0.out.trans (hb.mono HB0.out.size)).size (.cells #[.int .i64 op,.int .i64 ia,.int .i64 ib,.int .i64 ic] 32));clear hb;go_wp2_with fail;refine(SX.out _).mono ?_;rintro e w2 ⟨rfl,rfl⟩;go_wp2_with fail
 go_ret
 exact⟨rfl,HB.out⟩
abbrev KF:={ x:Int × Int // i64B x.1∧i64B x.2 }→Option Int
structure MSt where (wb kb tc hb hc tb:Nat) (D De:Nat→Prop) (c0 c1 c2:Value) (mb:Nat) (v:Int) (a:Option Addr) (l:List Ent) (n0 B lo:Nat)
structure MSt.ok (M:MSt):Prop where
 lt:M.wb<M.n0∧M.kb<M.n0∧M.hb<M.n0
 lo:M.lo≤M.wb∧M.lo≤M.hb
 ne:M.wb≠M.kb∧M.wb≠M.hb∧M.kb≠M.hb
 d:∀ q,M.D q→q<M.n0∧q≠M.wb∧q≠M.kb∧q≠M.hb
 e:∀ q,M.De q→q<M.n0∧q≠M.wb∧q≠M.kb∧q≠M.hb
 b:M.wb<M.B∧M.B≤M.n0
 s:∃ a0 n0 m0 a1 n1 m1 a2 n2 m2,M.c0=.slice a0 n0 m0∧M.c1=.slice a1 n1 m1∧M.c2=.slice a2 n2 m2
structure MS (M:MSt) (N:Nat) (wr:World) (L:List Int) (st hs:Int) (T:Tk) (al:List Alarm) (kf:KF) (X:WoD) (F:Nat→Prop) (XT:TB):Prop where
 mach:WoAt wr M.wb X
 cc:X.c0=M.c0∧X.c1=M.c1∧X.c2=M.c2∧X.mb=M.mb
 tk:X.tk=.slice (some ⟨M.kb,0,none⟩) 1 M.tc
 hd:X.hd=.slice (some ⟨M.hb,0,none⟩) 1 M.hc
 stv:X.st=st
 out:Own intE wr M.B X.ot L
 task:TaskAt wr F M.tb qZ T XT
 alv:XT.al=al
 kfv:XT.kf=kf
 xd:XT.D=M.D
 kbc:wr.cell? ⟨M.kb,0,none⟩=some (.pointer (some ⟨M.tb,0,none⟩))
 hand:∃ cs:Array Value,wr.heap[M.hb]?=some (.cells cs 158)∧cs[0]?=some (.int .i64 hs)∧cs[1]?=some (.bool false)
 prg:PrgVal wr M.D (pZ M.v) M.c0 M.c1 M.c2
 ent:EntSl wr M.De M.a M.l
 fn:∀ q,F q→((M.lo≤q∧q<M.n0)∨N≤q)∧q≠M.wb∧q≠M.kb∧q≠M.hb∧¬ M.D q∧¬ M.De q∧X.ot.ownBlock≠some q
 on:∀ q,X.ot.ownBlock=some q→((M.lo≤q∧q<M.n0)∨N≤q)∧q≠M.wb∧q≠M.kb∧q≠M.hb∧¬ M.D q∧¬ M.De q
 big:M.n0≤N∧N≤wr.heap.size
variable {M:MSt} {N:Nat} {wr w2:World} {L:List Int} {st hs:Int} {T:Tk} {al:List Alarm} {kf:KF} {X:WoD} {F:Nat→Prop} {XT:TB}
theorem MS.frame (h:MS M N wr L st hs T al kf X F XT) {G:Nat→Prop} (hf:Fr G wr w2) (hG:∀ q,G q→q≠M.wb∧q≠M.kb∧q≠M.hb∧¬ M.D q∧¬ M.De q∧¬ F q∧X.ot.ownBlock≠some q):MS M N w2 L st hs T al kf X F XT where
 mach:=h.mach.fr hf (fun e=>(hG _ e).1 rfl)
 cc:=h.cc
 tk:=h.tk
 hd:=h.hd
 stv:=h.stv
 out:=h.out.fr hf (fun q hq e=>(hG q e).2.2.2.2.2.2 hq)
 task:=h.task.fr hf (fun q hq e=>(hG q e).2.2.2.2.2.1 hq) (fun q hq e=>by rw[h.xd] at hq;exact(hG q e).2.2.2.1 hq)
 alv:=h.alv
 kfv:=h.kfv
 xd:=h.xd
 kbc:=hf.cell h.kbc (fun e=>(hG _ e).2.1 rfl)
 hand:=by obtain⟨cs,h1,h2,h3⟩:=h.hand;exact⟨cs,hf.heap h1 (fun e=>(hG _ e).2.2.1 rfl),h2,h3⟩
 prg:=h.prg.fr hf (fun q hq e=>(hG q e).2.2.2.1 hq)
 ent:=h.ent.fr hf (fun q hq e=>(hG q e).2.2.2.2.1 hq)
 fn:=h.fn
 on:=h.on
 big:=⟨h.big.1,Nat.le_trans h.big.2 hf.size⟩
theorem MS.below (h:MS M N wr L st hs T al kf X F XT) (hb:Below wr.heap.size wr w2):MS M N w2 L st hs T al kf X F XT:=h.frame (Fr.of_below hb (fun _=>False)) (fun q e=>e.elim)
theorem MS.one (h:MS M N wr L st 0 T al kf X F XT) (hM:M.ok):One wr M.wb X M.kb M.tc M.hb M.hc M.tb false :=
 ⟨h.mach,h.tk,h.kbc,h.hd,h.hand,hM.ne.2.1,hM.ne.2.2⟩
def Mid (M:MSt) (N:Nat) (wr:World) (L:List Int) (T':Tk) (al':List Alarm) (kf':KF) (X:WoD) (n:Nat) (w':World):Prop :=
 ∃ F' XT',MS M N w' L 0 0 T' al' kf' X F' XT'∧(∀ q,F' q→q<wr.heap.size∨n≤q)∧wr.heap.size≤n∧n≤w'.heap.size∧Fr (fun q=>(M.lo≤q∧q<M.n0)∨N≤q) wr w'
theorem mid_of (hM:M.ok) (h:MS M N wr L 0 0 T al kf X F XT) (T':Tk) (al':List Alarm) (kf':KF) (k a f x fn:Int) (bb:Bool) (wx:World) (hx:Fr (fun q=>q=M.hb) wr wx) (hh:∃ cs:Array Value,wx.heap[M.hb]?=some (.cells cs 158)∧cs[0]?=some (.int .i64 0)∧cs[1]?=some (.bool false))
  (STEP:∀ wy,TaskAt wy F M.tb qZ T XT→PrgVal wy M.D (pZ M.v) M.c0 M.c1 M.c2→(∀ q,M.D q→¬ F q∧q<wy.heap.size)→Calls Tryz.prog 69 #[.agg #[M.c0,M.c1,M.c2],.pointer (some ⟨M.mb,0,none⟩),.pointer (some ⟨M.tb,0,none⟩)] wy (RunPostG wy F M.tb qZ XT T' al' kf' (actV k a f x fn bb (.slice none 0 0)))) :
  Calls Tryz.prog 69 #[.agg #[X.c0,X.c1,X.c2],.pointer (some ⟨X.mb,0,none⟩),.pointer (some ⟨M.tb,0,none⟩)] wx fun e w'=>e=.returned (actV k a f x fn bb (.slice none 0 0))∧Mid M N wr L T' al' kf' X wx.heap.size w'∧Fr (fun q=>q<wr.heap.size∨wx.heap.size≤q) wx w':=by
 obtain⟨l1,l2,l3⟩:=hM.lt;have hbig:=h.big;have hG:∀ q,q=M.hb→¬ M.D q∧¬ M.De q∧¬ F q∧X.ot.ownBlock≠some q:=fun q e=>⟨fun hq=>(hM.d q hq).2.2.2 e,fun hq=>(hM.e q hq).2.2.2 e,fun hq=>(h.fn q hq).2.2.2.1 e,fun hq=>(h.on q hq).2.2.2.1 e⟩
 have h2:MS M N wx L 0 0 T al kf X F XT:={
  mach:=h.mach.fr hx (fun e=>hM.ne.2.1 e)
  cc:=h.cc
  tk:=h.tk
  hd:=h.hd
  stv:=h.stv
  out:=h.out.fr hx (fun q hq e=>(hG q e).2.2.2 hq)
  task:=h.task.fr hx (fun q hq e=>(hG q e).2.2.1 hq) (fun q hq e=>by rw[h.xd] at hq;exact(hG q e).1 hq)
  alv:=h.alv
  kfv:=h.kfv
  xd:=h.xd
  kbc:=hx.cell h.kbc (fun e=>hM.ne.2.2 e)
  hand:=hh
  prg:=h.prg.fr hx (fun q hq e=>(hG q e).1 hq)
  ent:=h.ent.fr hx (fun q hq e=>(hG q e).2.1 hq)
  fn:=h.fn
  on:=h.on
  big:=⟨h.big.1,Nat.le_trans h.big.2 hx.size⟩ }
 rw[h.cc.1,h.cc.2.1,h.cc.2.2.1,h.cc.2.2.2];refine(STEP wx h2.task h2.prg (fun q hq=>⟨fun hf=>(h.fn q hf).2.2.2.2.1 hq,by have:=(hM.d q hq).1;have:=h2.big;omega⟩)).mono ?_;rintro e w' ⟨rfl,F',XT',hT',hQ,hF',hf'⟩;have hnew:∀ q,F' q→F q∨(wx.heap.size≤q):=hF';have hFlt:∀ q,F q→q<wr.heap.size:=h.task.flt;have hsz:=hx.size;refine⟨rfl,⟨F',XT',?_,fun q hq=>(hF' q hq).imp (hFlt q) id,hx.size,hf'.size,?_⟩,hf'.mono (fun q hq=>.inl (hFlt q hq))⟩
 ·have hg:∀ q,F q→q≠M.wb∧q≠M.kb∧q≠M.hb∧¬ M.D q∧¬ M.De q∧X.ot.ownBlock≠some q:=fun q hq=>(h.fn q hq).2
  exact {
   mach:=h2.mach.fr hf' (fun e=>(hg _ e).1 rfl)
   cc:=h.cc
   tk:=h.tk
   hd:=h.hd
   stv:=h.stv
   out:=h2.out.fr hf' (fun q hq e=>(hg q e).2.2.2.2.2 hq)
   task:=hT'
   alv:=hQ.2.1
   kfv:=hQ.2.2.1
   xd:=by rw[hQ.1];exact h.xd
   kbc:=hf'.cell h2.kbc (fun e=>(hg _ e).2.1 rfl)
   hand:=by obtain⟨cs,g1,g2,g3⟩:=hh;exact⟨cs,hf'.heap g1 (fun e=>(hg _ e).2.2.1 rfl),g2,g3⟩
   prg:=h2.prg.fr hf' (fun q hq e=>(hg q e).2.2.2.1 hq)
   ent:=h2.ent.fr hf' (fun q hq e=>(hg q e).2.2.2.2.1 hq)
   fn:=fun q hq=>by
    rcases hF' q hq with h1 | h1
    ·exact h.fn q h1
    ·have hd:=fun (hq:M.D q)=>(hM.d q hq).1
     have he:=fun (hq:M.De q)=>(hM.e q hq).1
     have ho:=fun (hq:X.ot.ownBlock=some q)=>(h.out.lt hq).2
     have h2b:=h2.big;exact⟨.inr (by omega),by omega,by omega,by omega,fun hq=>by have:=hd hq;omega,fun hq=>by have:=he hq;omega,fun hq=>by have:=ho hq;omega⟩
   on:=h.on
   big:=⟨h.big.1,Nat.le_trans h2.big.2 hf'.size⟩ }
 ·exact(hx.mono (fun q e=>.inl (by have e:q=M.hb:=e;have:=hM.lo.2;omega))).trans (hf'.mono (fun q hq=>(h.fn q hq).1)) (fun q _ hq=>hq)
theorem mid_fr (hM:M.ok) {T':Tk} {al':List Alarm} {kf':KF} {n:Nat} {w1 w2:World} (hb:M.n0≤N∧N≤wr.heap.size) (ho:∀ q,X.ot.ownBlock=some q→q<wr.heap.size) (h:Mid M N wr L T' al' kf' X n w1) (hf:Fr (fun q=>wr.heap.size≤q∧q<n) w1 w2):Mid M N wr L T' al' kf' X n w2:=by
 obtain⟨F',XT',h1,h2,h3,h4,h5⟩:=h;obtain⟨l1,l2,l3⟩:=hM.lt;refine⟨F',XT',h1.frame hf (fun q hq=>⟨by omega,by omega,by omega,fun hd=>by have:=(hM.d q hd).1;omega,fun hd=>by have:=(hM.e q hd).1;omega,fun hd=>by have:=h2 q hd;omega,fun hd=>by have:=ho q hd;omega⟩),h2,h3,Nat.le_trans h4 hf.size,?_⟩;exact h5.trans (hf.mono (G:=fun q=>(M.lo≤q∧q<M.n0)∨N≤q) (fun q hq=>.inr (by have:=hb;omega))) (fun q _ hq=>hq)
end Go.Proofs.YtbkkhmafheimfaaGreatDoor.Tk
namespace Go.Proofs.YtbkkhmafheimfaaGreatDoor.Tk
open Go.ChangeShapes Go.WideShapes Go.ChangeAt Go.RowKit Go.Maps
variable {M:MSt} {N:Nat} {wr w2:World} {L:List Int} {st hs:Int} {T:Tk} {al:List Alarm} {kf:KF} {X:WoD} {F:Nat→Prop} {XT:TB}
def StepC (M:MSt) (F:Nat→Prop) (XT:TB) (T T':Tk) (al':List Alarm) (kf':KF) (k x:Int):Prop:=∀ wy,TaskAt wy F M.tb qZ T XT→PrgVal wy M.D (pZ M.v) M.c0 M.c1 M.c2→(∀ q,M.D q→¬ F q∧q<wy.heap.size)→Calls Tryz.prog 69 #[.agg #[M.c0,M.c1,M.c2],.pointer (some ⟨M.mb,0,none⟩),.pointer (some ⟨M.tb,0,none⟩)] wy (RunPostG wy F M.tb qZ XT T' al' kf' (actV k 0 0 x 0 false (.slice none 0 0)))
def SafeC (M:MSt) (wr:World) (sf:Bool):Prop:=∀ wx,Below wr.heap.size wr wx→Calls Tryz.prog 68 #[.agg #[M.c0,M.c1,M.c2],.pointer (some ⟨M.tb,0,none⟩)] wx fun e w'=>e=.returned (.bool sf)∧Below wx.heap.size wx w'
theorem out_lt (h:MS M N wr L st hs T al kf X F XT):∀ q,X.ot.ownBlock=some q→q<wr.heap.size:=fun q hq=>(h.out.lt hq).2
theorem three_x (hM:M.ok) (h:MS M N wr L st hs T al kf X F XT):∃ a0 n0 m0 a1 n1 m1 a2 n2 m2,X.c0=.slice a0 n0 m0∧X.c1=.slice a1 n1 m1∧X.c2=.slice a2 n2 m2:=by
 obtain⟨a0,n0,m0,a1,n1,m1,a2,n2,m2,h0,h1,h2⟩:=hM.s;exact⟨a0,n0,m0,a1,n1,m1,a2,n2,m2,by rw[h.cc.1,h0],by rw[h.cc.2.1,h1],by rw[h.cc.2.2.1,h2]⟩
theorem go_went (hM:M.ok) (h:MS M N wr L 0 0 T al kf X F XT) {sf:Bool} (sc:SafeC M wr sf) (T':Tk) (al':List Alarm) (kf':KF) (sp:StepC M F XT T T' al' kf' 0 0) :
  Calls Tryz.prog 41 #[.pointer (some ⟨M.wb,0,none⟩),.int .i64 0] wr fun e w'=>e=.returned (.bool true)∧(∃ X' F' XT',MS M N w' L 0 0 T' al' kf' X' F' XT')∧Fr (fun q=>(M.lo≤q∧q<M.n0)∨N≤q) wr w' :=
 task_one wr M.wb X M.kb M.tc M.hb M.hc M.tb false (h.one hM) (three_x hM h) sf (by rw[h.cc.1,h.cc.2.1,h.cc.2.2.1];exact sc) 0 0 0 0 0 false none 0 0 (by decide) (by decide) (Mid M N wr L T' al' kf' X)
  (fun wx hx _ hh=>mid_of hM h T' al' kf' 0 0 0 0 0 false wx hx hh sp) (fun n w1 w2 h1 hf=>mid_fr hM h.big (out_lt h) h1 hf) (fun n wx hm=>by obtain⟨F',XT',h1,_⟩:=hm;exact h1.mach)
  (fun w'=>(∃ X' F' XT',MS M N w' L 0 0 T' al' kf' X' F' XT')∧Fr (fun q=>(M.lo≤q∧q<M.n0)∨N≤q) wr w')
  (fun n wx hm=>(do_went wx M.wb 0 0 0 0 false none 0 0).mono fun e w' he=>by
   obtain⟨rfl,hb⟩:=he;obtain⟨F',XT',h1,_,_,_,h5⟩:=hm;exact⟨rfl,⟨X,F',XT',h1.below hb⟩,h5.trans (Fr.of_below hb _) (fun q _ hq=>hq)⟩)
theorem go_put (hM:M.ok) (h:MS M N wr L 0 0 T al kf X F XT) {sf:Bool} (sc:SafeC M wr sf) (T':Tk) (al':List Alarm) (kf':KF) (x:Int) (sp:StepC M F XT T T' al' kf' 2 x) (hL:L.length<500) :
  Calls Tryz.prog 41 #[.pointer (some ⟨M.wb,0,none⟩),.int .i64 0] wr fun e w'=>e=.returned (.bool true)∧(∃ X' F' XT',MS M N w' (L ++ [x]) 0 0 T' al' kf' X' F' XT')∧Fr (fun q=>(M.lo≤q∧q<M.n0)∨N≤q) wr w' :=
 task_one wr M.wb X M.kb M.tc M.hb M.hc M.tb false (h.one hM) (three_x hM h) sf (by rw[h.cc.1,h.cc.2.1,h.cc.2.2.1];exact sc) 2 0 0 x 0 false none 0 0 (by decide) (by decide) (Mid M N wr L T' al' kf' X)
  (fun wx hx _ hh=>mid_of hM h T' al' kf' 2 0 0 x 0 false wx hx hh sp) (fun n w1 w2 h1 hf=>mid_fr hM h.big (out_lt h) h1 hf) (fun n wx hm=>by obtain⟨F',XT',h1,_⟩:=hm;exact h1.mach)
  (fun w'=>(∃ X' F' XT',MS M N w' (L ++ [x]) 0 0 T' al' kf' X' F' XT')∧Fr (fun q=>(M.lo≤q∧q<M.n0)∨N≤q) wr w')
  (fun n wx hm=>by
   obtain⟨F',XT',h1,h2,h3,h4,h5⟩:=hm;refine(do_put wx M.wb X h1.mach M.B (by have:=hM.b.2;have:=h1.big;omega) hM.b.1 L h1.out hL 0 0 x 0 false none 0 0).mono fun e w' he=>?_
   obtain⟨rfl,v,hw,ho,hf,hfr⟩:=he;have hlt:=hM.lt;have hG:∀ q,(q=M.wb∨X.ot.ownBlock=some q)→q≠M.kb∧q≠M.hb∧¬ M.D q∧¬ M.De q∧¬ F' q:=fun q hq=>by
    rcases hq with rfl | hq
    ·exact⟨hM.ne.1,hM.ne.2.1,fun hd=>(hM.d _ hd).2.1 rfl,fun hd=>(hM.e _ hd).2.1 rfl,fun hd=>(h1.fn _ hd).2.1 rfl⟩
    ·have:=h1.on q hq
     exact⟨this.2.2.1,this.2.2.2.1,this.2.2.2.2.1,this.2.2.2.2.2,fun hd=>(h1.fn q hd).2.2.2.2.2.2 hq⟩
   have hnew:∀ q,v.ownBlock=some q→((M.lo≤q∧q<M.n0)∨N≤q)∧q≠M.wb∧q≠M.kb∧q≠M.hb∧¬ M.D q∧¬ M.De q∧¬ F' q:=fun q hq=>by
    rcases hfr q hq with h6 | h6
    ·have:=h1.on q h6
     exact⟨this.1,this.2.1,this.2.2.1,this.2.2.2.1,this.2.2.2.2.1,this.2.2.2.2.2,fun hd=>(h1.fn q hd).2.2.2.2.2.2 h6⟩
    ·have hb:=h1.big
     exact⟨.inr (by omega),by omega,by omega,by omega,fun hd=>by have:=(hM.d q hd).1;omega,fun hd=>by have:=(hM.e q hd).1;omega,fun hd=>by have:=h1.task.flt q hd;omega⟩
   refine⟨rfl,⟨{ X with ot:=v },F',XT',?_⟩,h5.trans (hf.mono (G:=fun q=>(M.lo≤q∧q<M.n0)∨N≤q) (fun q hq=>?_)) (fun q _ hq=>hq)⟩
   ·exact {
     mach:=hw
     cc:=h1.cc
     tk:=h1.tk
     hd:=h1.hd
     stv:=h1.stv
     out:=ho
     task:=h1.task.fr hf (fun q hq e=>(hG q e).2.2.2.2 hq) (fun q hq e=>by rw[h1.xd] at hq;exact(hG q e).2.2.1 hq)
     alv:=h1.alv
     kfv:=h1.kfv
     xd:=h1.xd
     kbc:=hf.cell h1.kbc (fun e=>(hG _ e).1 rfl)
     hand:=by obtain⟨cs,g1,g2,g3⟩:=h1.hand;exact⟨cs,hf.heap g1 (fun e=>(hG _ e).2.1 rfl),g2,g3⟩
     prg:=h1.prg.fr hf (fun q hq e=>(hG q e).2.2.1 hq)
     ent:=h1.ent.fr hf (fun q hq e=>(hG q e).2.2.2.1 hq)
     fn:=fun q hq=>by have:=h1.fn q hq;exact⟨this.1,this.2.1,this.2.2.1,this.2.2.2.1,this.2.2.2.2.1,this.2.2.2.2.2.1,fun e=>(hnew q e).2.2.2.2.2.2 hq⟩
     on:=fun q hq=>by have:=hnew q hq;exact⟨this.1,this.2.1,this.2.2.1,this.2.2.2.1,this.2.2.2.2.1,this.2.2.2.2.2.1⟩
     big:=⟨h1.big.1,Nat.le_trans h1.big.2 hf.size⟩ }
   ·rcases hq with rfl | hq
    ·exact .inl ⟨hM.lo.1,hlt.1⟩
    ·exact(h1.on q hq).1)
def Fin (M:MSt) (w:World) (L:List Int):Prop:=∃ X,WoAt w M.wb X∧X.st=1∧Own intE w M.B X.ot L∧EntSl w M.De M.a M.l
theorem Fin.below {w:World} (h:Fin M w L) (hb:Below w.heap.size w w2):Fin M w2 L:=by
 obtain⟨X,h1,h2,h3,h4⟩:=h;exact⟨X,h1.below hb,h2,h3.below hb,h4.below hb⟩
theorem go_end (hM:M.ok) (h:MS M N wr L 0 0 T al kf X F XT) {sf:Bool} (sc:SafeC M wr sf) (T':Tk) (al':List Alarm) (kf':KF) (sp:StepC M F XT T T' al' kf' 10 0) :
  Calls Tryz.prog 41 #[.pointer (some ⟨M.wb,0,none⟩),.int .i64 0] wr fun e w'=>e=.returned (.bool true)∧Fin M w' L∧Fr (fun q=>(M.lo≤q∧q<M.n0)∨N≤q) wr w' :=
 task_one wr M.wb X M.kb M.tc M.hb M.hc M.tb false (h.one hM) (three_x hM h) sf (by rw[h.cc.1,h.cc.2.1,h.cc.2.2.1];exact sc) 10 0 0 0 0 false none 0 0 (by decide) (by decide) (Mid M N wr L T' al' kf' X)
  (fun wx hx _ hh=>mid_of hM h T' al' kf' 10 0 0 0 0 false wx hx hh sp) (fun n w1 w2 h1 hf=>mid_fr hM h.big (out_lt h) h1 hf) (fun n wx hm=>by obtain⟨F',XT',h1,_⟩:=hm;exact h1.mach)
  (fun w'=>Fin M w' L∧Fr (fun q=>(M.lo≤q∧q<M.n0)∨N≤q) wr w')
  (fun n wx hm=>by
   obtain⟨F',XT',h1,h2,h3,h4,h5⟩:=hm;obtain⟨cs,g1,g2,g3⟩:=h1.hand;refine(do_end wx M.wb X h1.mach M.hb M.hc h1.hd 0 false cs g1 g2 g3 hM.ne.2.1 0 0 0 0 false none 0 0).mono fun e w' he=>?_
   obtain⟨rfl,hw,hf⟩:=he;have hlt:=hM.lt;refine⟨rfl,⟨{ X with st:=1 },hw,rfl,h1.out.fr hf (fun q hq e=>?_),h1.ent.fr hf (fun q hq e=>?_)⟩,h5.trans (hf.mono (G:=fun q=>(M.lo≤q∧q<M.n0)∨N≤q) (fun q hq=>?_)) (fun q _ hq=>hq)⟩
   ·have:=h1.on q hq
    rcases e with e | e
    ·exact this.2.1 e
    ·exact this.2.2.2.1 e
   ·have:=hM.e q hq
    rcases e with e | e
    ·exact this.2.1 e
    ·exact this.2.2.2 e
   ·rcases hq with rfl | rfl
    ·exact .inl ⟨hM.lo.1,hlt.1⟩
    ·exact .inl ⟨hM.lo.2,hlt.2.2⟩)
end Go.Proofs.YtbkkhmafheimfaaGreatDoor.Tk
namespace Go.Proofs.YtbkkhmafheimfaaGreatDoor.Tk
open Go.ChangeShapes Go.WideShapes Go.ChangeAt Go.RowKit Go.Maps
variable {M:MSt} {N:Nat} {wr w2:World} {L:List Int} {st hs:Int} {T:Tk} {al:List Alarm} {kf:KF} {X:WoD} {F:Nat→Prop} {XT:TB}
def kf0:KF:=fun _=>none
def SM (M:MSt) (N k:Nat) (wr:World):Prop:=match k with
 | 0=>∃ X F XT,MS M N wr [] 0 0 (TZ 0 0) [] kf0 X F XT
 | 1=>∃ X F XT,MS M N wr [] 0 0 (TZ 1 M.v) [] kf0 X F XT
 | 2=>∃ X F XT,MS M N wr [M.v] 0 0 (TZ 2 M.v) [] kf0 X F XT
 | 3=>∃ X F XT,MS M N wr [M.v] 0 0 (TZ 2 M.v) [alZ] kf0 X F XT
 | 4=>∃ X F XT,MS M N wr [M.v] 0 0 (TZ0 M.v) [alZ] (delK kf0 0) X F XT
 | _=>Fin M wr [M.v]
def stZ (k:Nat):Int:=if k<5 then 0 else 1
theorem safe_run (hM:M.ok) (pc:Nat) (hpc:pc<3) (x:Int) (h:MS M N wr L st hs (TZ pc x) [] kf X F XT):∃ sf,SafeC M wr sf:=by
 obtain⟨a0,n0,m0,a1,n1,m1,a2,n2,m2,e0,e1,e2⟩:=hM.s;have hp:=h.prg;rw[e0,e1,e2] at hp;unfold SafeC;rw[e0,e1,e2];obtain⟨⟨iop,ia,ib,ic⟩,hi⟩:∃ i:Ins,((pZ M.v).funcs[0]'(by show 0<1;decide)).code[pc]'hpc=i:=⟨_,rfl⟩;refine⟨safeS iop,fun wx hx=>safeT_run wx M.tb a0 a1 a2 n0 m0 n1 m1 n2 m2 iop ia ib ic (fun wy hy=>?_)⟩;have hxy:=hx.trans (hy.mono hx.size);exact at_run wy F M.tb qZ (TZ pc x) XT (h.task.below hxy) (by show 1≤1000;decide) (by rw[h.alv];rfl) (by show 1≤10000;decide) (by rw[h.alv];decide) [] ⟨0,pc,0,-1,none,0,0⟩ rfl M.D (fun q hq=>by have:=(hM.d q hq).1;have:=h.big;have:=hxy.size;omega) (pZ M.v) _ _ _ (hp.fr (Fr.of_below hxy (fun _=>False)) (fun _ _ h=>h)) 0 (by show 0<1;decide) rfl pc rfl hpc ⟨iop,ia,ib,ic⟩ hi
theorem safe_not (hM:M.ok) (h:MS M N wr L st hs T [alZ] kf X F XT) (hT:T.parts=[]∨nextU T.marks [alZ]≠0) (hml:T.marks.length≤10000):∃ sf,SafeC M wr sf:=by
 obtain⟨a0,n0,m0,a1,n1,m1,a2,n2,m2,e0,e1,e2⟩:=hM.s;unfold SafeC;rw[e0,e1,e2];refine⟨_,fun wx hx=>safeT_not wx M.tb a0 a1 a2 n0 m0 n1 m1 n2 m2 (fun wy hy=>?_)⟩;have hxy:=hx.trans (hy.mono hx.size);exact at_not wy F M.tb qZ T XT (h.task.below hxy) (by rw[h.alv];exact hT) hml (by rw[h.alv];decide) a0 a1 a2 n0 m0 n1 m1 n2 m2
theorem SM.below {k:Nat} (h:SM M N k wr) (hb:Below wr.heap.size wr w2):SM M N k w2:=by
 unfold SM at *
 split at h
 ·obtain⟨X,F,XT,h⟩:=h;exact⟨X,F,XT,h.below hb⟩
 ·obtain⟨X,F,XT,h⟩:=h;exact⟨X,F,XT,h.below hb⟩
 ·obtain⟨X,F,XT,h⟩:=h;exact⟨X,F,XT,h.below hb⟩
 ·obtain⟨X,F,XT,h⟩:=h;exact⟨X,F,XT,h.below hb⟩
 ·obtain⟨X,F,XT,h⟩:=h;exact⟨X,F,XT,h.below hb⟩
 ·exact h.below hb
theorem SM.ent {k:Nat} (h:SM M N k wr):EntSl wr M.De M.a M.l:=by
 unfold SM at h
 split at h
 ·obtain⟨X,F,XT,h⟩:=h;exact h.ent
 ·obtain⟨X,F,XT,h⟩:=h;exact h.ent
 ·obtain⟨X,F,XT,h⟩:=h;exact h.ent
 ·obtain⟨X,F,XT,h⟩:=h;exact h.ent
 ·obtain⟨X,F,XT,h⟩:=h;exact h.ent
 ·obtain⟨X,_,_,_,h⟩:=h;exact h
theorem SM.wo {k:Nat} (h:SM M N k wr):∃ X,WoAt wr M.wb X∧X.st=stZ k:=by
 unfold SM at h
 split at h
 ·obtain⟨X,F,XT,h⟩:=h;exact⟨X,h.mach,h.stv⟩
 ·obtain⟨X,F,XT,h⟩:=h;exact⟨X,h.mach,h.stv⟩
 ·obtain⟨X,F,XT,h⟩:=h;exact⟨X,h.mach,h.stv⟩
 ·obtain⟨X,F,XT,h⟩:=h;exact⟨X,h.mach,h.stv⟩
 ·obtain⟨X,F,XT,h⟩:=h;exact⟨X,h.mach,h.stv⟩
 ·rename_i h0 h1 h2 h3 h4
  obtain⟨X,h5,h6,_⟩:=h;refine⟨X,h5,?_⟩;rw[h6];unfold stZ;rw[if_neg (fun hk=>by
   have h7:k=0∨k=1∨k=2∨k=3∨k=4:=by omega
   rcases h7 with e | e | e | e | e
   ·exact h0 e
   ·exact h1 e
   ·exact h2 e
   ·exact h3 e
   ·exact h4 e)]
theorem SM.go (hM:M.ok) (hv:wrap32 M.v=M.v) {k:Nat} (hk:k<5) (h:SM M N k wr) :
  Calls Tryz.prog 41 #[.pointer (some ⟨M.wb,0,none⟩),.int .i64 0] wr fun e w'=>e=.returned (.bool true)∧SM M N (k+1) w'∧Fr (fun q=>(M.lo≤q∧q<M.n0)∨N≤q) wr w':=by
 have h5:k=0∨k=1∨k=2∨k=3∨k=4:=by omega
 rcases h5 with rfl | rfl | rfl | rfl | rfl
 ·obtain⟨X,F,XT,h⟩:=h
  obtain⟨sf,sc⟩:=safe_run hM 0 (by decide) 0 h;refine(go_went hM h sc (TZ 1 M.v) XT.al XT.kf (fun wy hT hp hd=>stepZ_0 M.v hv hT h.alv M.D hd _ _ _ _ hp)).mono fun e w' he=>?_
  obtain⟨e1,⟨X',F',XT',h'⟩,hf⟩:=he;rw[h.alv,h.kfv] at h';exact⟨e1,⟨X',F',XT',h'⟩,hf⟩
 ·obtain⟨X,F,XT,h⟩:=h
  obtain⟨sf,sc⟩:=safe_run hM 1 (by decide) M.v h;refine(go_put hM h sc (TZ 2 M.v) XT.al XT.kf M.v (fun wy hT hp hd=>stepZ_1 M.v hT h.alv M.D hd _ _ _ _ hp) (by decide)).mono fun e w' he=>?_
  obtain⟨e1,⟨X',F',XT',h'⟩,hf⟩:=he;rw[h.alv,h.kfv] at h';exact⟨e1,⟨X',F',XT',h'⟩,hf⟩
 ·obtain⟨X,F,XT,h⟩:=h
  obtain⟨sf,sc⟩:=safe_run hM 2 (by decide) M.v h;refine(go_went hM h sc (TZ 2 M.v) [alZ] XT.kf (fun wy hT hp hd=>stepZ_2 M.v hT h.alv M.D hd _ _ _ _ hp)).mono fun e w' he=>?_
  obtain⟨e1,⟨X',F',XT',h'⟩,hf⟩:=he;rw[h.kfv] at h';exact⟨e1,⟨X',F',XT',h'⟩,hf⟩
 ·obtain⟨X,F,XT,h⟩:=h
  obtain⟨sf,sc⟩:=safe_not hM h (.inr (by show nextU [⟨false,false,0⟩] [alZ]≠0;decide)) (by show 1≤10000;decide);refine(go_went hM h sc (TZ0 M.v) [alZ] (delK XT.kf 0) (fun wy hT hp hd=>stepZ_3 M.v hT h.alv h.kfv M.D hd _ _ _ _ hp)).mono fun e w' he=>?_
  obtain⟨e1,⟨X',F',XT',h'⟩,hf⟩:=he;rw[h.kfv] at h';exact⟨e1,⟨X',F',XT',h'⟩,hf⟩
 ·obtain⟨X,F,XT,h⟩:=h
  obtain⟨sf,sc⟩:=safe_not hM h (.inl rfl) (by show 0≤10000;decide);exact go_end hM h sc (TZ0 M.v) XT.al XT.kf (fun wy hT hp hd=>stepZ_4 M.v hT h.alv _ _ _ hM.s _)
theorem SM.big {k:Nat} (hk:k<5) (h:SM M N k wr):M.n0≤N:=by
 have h5:k=0∨k=1∨k=2∨k=3∨k=4:=by omega
 rcases h5 with rfl | rfl | rfl | rfl | rfl <;> (obtain⟨X,F,XT,h⟩:=h;exact h.big.1)
theorem run_z (hM:M.ok) (hv:wrap32 M.v=M.v) (w:World) (hn0:M.n0=w.heap.size) (hall:∀ x ∈ M.l,x=⟨0,0⟩) (hln:M.l.length≤10000) (hl5:5≤M.l.length) (c:Nat) (h0:∃ X F XT,MS M w.heap.size w [] 0 0 (TZ 0 0) [] kf0 X F XT∧(∀ q,F q→M.lo≤q)∧∀ q,X.ot.ownBlock=some q→M.lo≤q) :
  Calls Tryz.prog 25 #[.pointer (some ⟨M.wb,0,none⟩),.slice M.a M.l.length c] w fun e w'=>e=.returned (.int .i64 (cntS stZ M.l.length:Nat))∧Fin M w' [M.v]∧Below M.lo w w':=by
 obtain⟨X0,F0,XT0,hms,hFlo,hot⟩:=h0;have hlo:M.lo≤w.heap.size:=by have:=hM.lo.1;have:=hM.lt.1;omega
 refine(steps_any w M.wb M.a M.l c hall M.De hln (fun N k wr=>SM M N k wr∧Below M.lo w wr) stZ (fun w' hb=>?_) (fun N k wr w' h hb=>⟨h.1.below hb,h.2.trans (hb.mono (Nat.le_trans hlo h.2.size))⟩) (fun N k wr h=>h.1.ent) (fun N k wr h=>h.1.wo) (fun N k hk h0 wr h=>?_) (fun N k hk h0 wr h=>?_)).mono fun e w' he=>?_
 ·have h1:=hms.below hb
  exact⟨⟨X0,F0,XT0,{ h1 with
   fn:=fun q hq=>by have:=h1.fn q hq;exact⟨.inl ⟨hFlo q hq,by have:=hms.task.flt q hq;omega⟩,this.2⟩
   on:=fun q hq=>by have:=h1.on q hq;exact⟨.inl ⟨hot q hq,by have:=(hms.out.lt hq).2;omega⟩,this.2⟩
   big:=⟨by have:=hb.size;omega,Nat.le_refl _⟩ }⟩,hb.mono hlo⟩
 ·rw[← hn0]
  have hk5:k<5:=by
   rcases Nat.lt_or_ge k 5 with h5 | h5
   ·exact h5
   ·unfold stZ at h0;rw[if_neg (by omega)] at h0;cases h0
  have hbig:=h.1.big hk5;refine(h.1.go hM hv hk5).mono fun e w' he=>?_
  obtain⟨e1,e2,e3⟩:=he;have hb2:Below M.lo wr w':=e3.below (Nat.le_trans hlo h.2.size) (fun q hq=>by have:=hM.lo.1;have:=hM.lt.1;rcases hq with hq | hq <;> omega);exact⟨e1,⟨e2,h.2.trans hb2⟩,e3.mono (fun q hq=>by rcases hq with hq | hq;exact .inl hq.2;exact .inr hq)⟩
 ·have hk5:5≤k:=by
   rcases Nat.lt_or_ge k 5 with h5 | h5
   ·unfold stZ at h0;rw[if_pos h5] at h0;exact absurd rfl h0
   ·exact h5
  obtain⟨j,rfl⟩:∃ j,k=j+5:=⟨k - 5,by omega⟩;exact h
 ·obtain⟨he,N,h⟩:=he
  obtain⟨j,hj⟩:∃ j,M.l.length=j+5:=⟨M.l.length - 5,by omega⟩;rw[hj] at h;exact⟨he,h⟩
end Go.Proofs.YtbkkhmafheimfaaGreatDoor.Tk
