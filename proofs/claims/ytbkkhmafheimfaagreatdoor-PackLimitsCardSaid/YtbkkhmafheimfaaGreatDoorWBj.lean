/- Walks: a step that turns the task's kept values too. Walk: a machine's steps, one entry after the other (entries of the first task alone). -/
import Derived.Test.YtbkkhmafheimfaaGreatDoorWBi
set_option linter.unusedVariables false
set_option linter.unusedSimpArgs false
set_option maxRecDepth 100000
set_option maxHeartbeats 3200000
namespace Go.Proofs.YtbkkhmafheimfaaGreatDoor.Tk
open Go.ChangeShapes Go.WideShapes Go.ChangeAt Go.RowKit Go.Maps
theorem step_runX (w:World) (F:Nat→Prop) (tb:Nat) (p:TPrg) (T:Tk) (X:TB) (h:TaskAt w F tb p T X) (hn:T.parts.length≤1000) (hm:nextU T.marks X.al=0) (hml:T.marks.length≤10000) (hal:X.al.length≤10000) (P:List Part) (q:Part) (hP:T.parts=P ++ [q])
  (D:Nat→Prop) (hD:∀ k,D k→¬ F k∧k<w.heap.size) (pr:Prg) (c0 c1 c2:Value) (ma:Option Addr) (hv:PrgVal w D pr c0 c1 c2) (j:Nat) (hj:j<pr.funcs.length) (hfj:q.fn=j) (pc:Nat) (hpc:q.pc=pc) (hpl:pc<pr.funcs[j].code.length) (i:Ins) (hi:pr.funcs[j].code[pc]=i)
  (X1:TB) (hX1:X1.D=X.D) (T':Tk) (al:List Alarm) (kf:{ x:Int × Int // i64B x.1∧i64B x.2 }→Option Int) (k a f v fn:Int) (b:Bool) (r0:Option Addr) (r1 r2:Nat) (RUN:∀ wr,Below w.heap.size w wr→Calls Tryz.prog 122 #[.agg (stepV c0 c1 c2 (.pointer ma) tb i.op i.a i.b i.c)] wr (RunPostG wr F tb p X1 T' al kf (actV k a f v fn b (.slice r0 r1 r2)))) :
  Calls Tryz.prog 69 #[.agg #[c0,c1,c2],.pointer ma,.pointer (some ⟨tb,0,none⟩)] w (RunPostG w F tb p X1 T' al kf (actV k a f v fn b (.slice r0 r1 r2))):=by
 have hv0:=hv;obtain⟨⟨a0,m0,rfl,_⟩,⟨a1,m1,rfl,_⟩,a2,m2,rfl,hfn⟩:=hv;have hb0:=((Below.refl w.heap.size w).alloc (Nat.le_refl _) (.cells #[.slice a0 pr.globals.length m0,.slice a1 pr.shapes.length m1,.slice a2 pr.funcs.length m2] 40));have hb1:=hb0.alloc hb0.size act0;have hr0:=row_alloc (heap_new w (.cells #[.slice a0 pr.globals.length m0,.slice a1 pr.shapes.length m1,.slice a2 pr.funcs.length m2] 40)) act0;have hr1:=heap_new (w.alloc (.cells #[.slice a0 pr.globals.length m0,.slice a1 pr.shapes.length m1,.slice a2 pr.funcs.length m2] 40)) act0;rw[show (w.alloc (.cells #[.slice a0 pr.globals.length m0,.slice a1 pr.shapes.length m1,.slice a2 pr.funcs.length m2] 40)).heap.size=w.heap.size+1 from by simp] at hr1;obtain⟨W,hW⟩:∃ W,W=(w.alloc (.cells #[.slice a0 pr.globals.length m0,.slice a1 pr.shapes.length m1,.slice a2 pr.funcs.length m2] 40)).alloc act0:=⟨_,rfl⟩;rw[← hW] at hb1 hr0 hr1;have hT:=h.below hb1;have hl:T.parts.length=P.length+1:=by rw[hP];simp
 have e0:(T.parts[P.length]'(by omega))=q:=by simp only[hP];simp
 have nx:=tkNext_any W F tb p T X hT hml hal;rw[hm] at nx;have fnc:=fun wr (hw:Below w.heap.size w wr)=>fn_some wr F tb p T X (h.below hw) hn P.length hl
 have pcc:=fun wr (hw:Below w.heap.size w wr)=>pc_some wr F tb p T X (h.below hw) hn P.length hl
 rw[e0,hfj] at fnc;rw[e0,hpc] at pcc;obtain⟨bb,o,rfl,hdb,y0,y1,y2,y3,y4,g0,g1,g2,g3,g4,hfv⟩:=hfn j hj;obtain⟨_,_,_,_,ac,cc,rfl,hcode⟩:=hfv;obtain⟨cb,co,rfl,hdc,x0,x1,x2,x3⟩:=hcode pc hpl;rw[hi] at x0 x1 x2 x3;have hbo:=hD _ hdb;have hco:=hD _ hdc;have hflt:=h.flt;have hout:=fun k (hk:X.D k)=>(h.out k hk).2
 have hcs:∀ wx,Below w.heap.size w wx→wx.cell? ⟨bb,o+j * 5+4,none⟩=some (.slice (some ⟨cb,co,none⟩) pr.funcs[j].code.length cc)∧wx.cell? ⟨cb,co+pc * 4,none⟩=some (.int .i64 i.op)∧wx.cell? ⟨cb,co+pc * 4+1,none⟩=some (.int .i64 i.a)∧wx.cell? ⟨cb,co+pc * 4+2,none⟩=some (.int .i64 i.b)∧wx.cell? ⟨cb,co+pc * 4+3,none⟩=some (.int .i64 i.c):=fun wx hw=>⟨below_cell hw g4,below_cell hw x0,below_cell hw x1,below_cell hw x2,below_cell hw x3⟩
 have hj0:(0:Int)≤(j:Int):=by omega
 have hj1:(j:Int)<(pr.funcs.length:Int):=by omega
 have hp0:(0:Int)≤(pc:Int):=by omega
 have hp1:(pc:Int)<(pr.funcs[j].code.length:Int):=by omega
 unfold act0 at hW hr1;have HW:=k_ hW;clear hb0 hW hT hl e0 h hn hm hml hP hfj hpc hi hv0 hfn g0 g1 g2 g3 g4 x0 x1 x2 x3 hdb hdc hD hpl;generalize pr.funcs[j].code.length=cl at *;have FNC:=k_ fnc;clear fnc;have PCC:=k_ pcc;clear pcc;have RUNX:=k_ RUN;clear RUN;have NX:=k_ nx;clear nx;have HB1:=k_ hb1;clear hb1;have HR1:=k_ hr1;clear hr1;have HR0:=k_ hr0;clear hr0;have HBO:=k_ hbo;clear hbo;have HCO:=k_ hco;clear hco;have HFLT:=k_ hflt;clear hflt;have HOUT:=k_ hout;clear hout;have HCS:=k_ hcs;clear hcs;unfold stepV at RUNX
 go_enter Tryz.func69,Tryz.ntmps69
 go_upto_region 1 with fail
 rw[← HW.out];go_wp2_with fail;refine NX.out.mono ?_;rintro e w3 ⟨rfl,hb3⟩;have hb13:=HB1.out.trans (hb3.mono HB1.out.size);have hsz:w.heap.size+2≤w3.heap.size:=Nat.le_trans (heap_lt HR1.out) hb3.size;have HBD:=k_ (fun k=>below_drewN hb13 k);have hro3:=(Fr.of_below hb3 (fun _=>False)).heap HR0.out (fun h=>h);have hr3:=(Fr.of_below hb3 (fun _=>False)).heap HR1.out (fun h=>h);have HRG:=k_ (fun k=>(Fr.of_below (below_drewN (Below.refl w3.heap.size w3) k) (fun _=>False)).heap hr3 (fun h=>h));have HSZ:=k_ (fun k=>Nat.le_trans hsz (below_drewN (Below.refl w3.heap.size w3) k).size);have HSG:=k_ (show ∀ k,(w3.drewN k).cell? ⟨w.heap.size,0,none⟩=some (.slice a0 pr.globals.length m0)∧(w3.drewN k).cell? ⟨w.heap.size,1,none⟩=some (.slice a1 pr.shapes.length m1)∧(w3.drewN k).cell? ⟨w.heap.size,2,none⟩=some (.slice (some ⟨bb,o,none⟩) pr.funcs.length m2)∧(w3.drewN k).cell? ⟨bb,o+j * 5+4,none⟩=some (.slice (some ⟨cb,co,none⟩) cl cc)∧(w3.drewN k).cell? ⟨cb,co+pc * 4,none⟩=some (.int .i64 i.op)∧(w3.drewN k).cell? ⟨cb,co+pc * 4+1,none⟩=some (.int .i64 i.a)∧(w3.drewN k).cell? ⟨cb,co+pc * 4+2,none⟩=some (.int .i64 i.b)∧(w3.drewN k).cell? ⟨cb,co+pc * 4+3,none⟩=some (.int .i64 i.c) from fun k=>by
  have hk:=(Fr.of_below (below_drewN (Below.refl w3.heap.size w3) k) (fun _=>False)).heap hro3 (fun h=>h);exact⟨(row_cell hk 0).1,(row_cell hk 1).1,(row_cell hk 2).1,HCS.out _ (below_drewN hb13 k)⟩)
 have hSd:=HSG.out 1;rw[show w3.drewN 1=w3.drew from rfl] at hSd;have HR0:=k_ (show Below w.heap.size w w3.drew from HBD.out 1);have k3:w3.cell? ⟨w.heap.size,2,none⟩=some (.slice (some ⟨bb,o,none⟩) pr.funcs.length m2):=(row_cell hro3 2).1;clear hb3 hb13 hsz hro3 hr3 NX
 go_upto_region 11 with fail
 clear k3
 go_region_held3 (fun w'=>w'.cell? ⟨w.heap.size,0,none⟩=some (.slice a0 pr.globals.length m0)∧w'.cell? ⟨w.heap.size,1,none⟩=some (.slice a1 pr.shapes.length m1)∧w'.cell? ⟨w.heap.size,2,none⟩=some (.slice (some ⟨bb,o,none⟩) pr.funcs.length m2)∧w'.cell? ⟨bb,o+j * 5+4,none⟩=some (.slice (some ⟨cb,co,none⟩) cl cc)∧w'.cell? ⟨cb,co+pc * 4,none⟩=some (.int .i64 i.op)∧w'.cell? ⟨cb,co+pc * 4+1,none⟩=some (.int .i64 i.a)∧w'.cell? ⟨cb,co+pc * 4+2,none⟩=some (.int .i64 i.b)∧w'.cell? ⟨cb,co+pc * 4+3,none⟩=some (.int .i64 i.c)) (first | with_reducible exact HSG.out _ | with_reducible exact hSd | with_reducible exact hS5 | with_reducible exact hS7 | go_keep) (first
  | (go_at_call 120
     refine(FNC.out _ HR0.out).mono ?_;rintro e w4 ⟨rfl,m,rfl⟩)
  | (go_at_call 121
     refine(PCC.out _ (HBD.out _)).mono ?_;rintro e w4 ⟨rfl,m',rfl⟩)
  | (go_at_call 122
     refine(RUNX.out _ (HBD.out _)).mono ?_;rintro e w5 ⟨rfl,F',X',hT',hXD,hF',hf5⟩;have hlow:=HSZ.out (1+m+m');have hr5:=hf5.heap (HRG.out _) (fun e=>by have:=HFLT.out (w.heap.size+1) e;omega);obtain⟨u0,u1,u2,u3,u4,u5,u6,u7⟩:=HSG.out (1+m+m');have hS5:=And.intro (hf5.cell u0 (fun e=>Nat.lt_irrefl _ (HFLT.out w.heap.size e))) (And.intro (hf5.cell u1 (fun e=>Nat.lt_irrefl _ (HFLT.out w.heap.size e))) (And.intro (hf5.cell u2 (fun e=>Nat.lt_irrefl _ (HFLT.out w.heap.size e))) (And.intro (hf5.cell u3 HBO.out.1) (And.intro (hf5.cell u4 HCO.out.1) (And.intro (hf5.cell u5 HCO.out.1) (And.intro (hf5.cell u6 HCO.out.1) (hf5.cell u7 HCO.out.1)))))));have HFW:=k_ ((Fr.of_below (HBD.out (1+m+m')) F).trans hf5 (fun _ _ h=>h));have hfs:=seven_fr w5 (.int .i64 k) (.int .i64 a) (.int .i64 f) (.int .i64 v) (.int .i64 fn) (.bool b) (.slice r0 r1 r2) (w.heap.size+1);have nz0:¬ w.heap.size=w.heap.size+1:=by omega
     have nz1:¬ bb=w.heap.size+1:=by have:=HBO.out.2;omega
     have nz2:¬ cb=w.heap.size+1:=by have:=HCO.out.2;omega
     have hS7:=And.intro (hfs.cell hS5.1 nz0) (And.intro (hfs.cell hS5.2.1 nz0) (And.intro (hfs.cell hS5.2.2.1 nz0) (And.intro (hfs.cell hS5.2.2.2.1 nz1) (And.intro (hfs.cell hS5.2.2.2.2.1 nz2) (And.intro (hfs.cell hS5.2.2.2.2.2.1 nz2) (And.intro (hfs.cell hS5.2.2.2.2.2.2.1 nz2) (hfs.cell hS5.2.2.2.2.2.2.2 nz2)))))));clear u0 u1 u2 u3 u4 u5 u6 u7 hf5 hfs;obtain⟨⟨z0,z1,z2,z3,z4,z5,z6⟩,n0,n1,n2,n3,n4,n5,n6⟩:=seven_cells hr5;unfold actV))
 all_goals
  have hfs:=seven_fr w5 (.int .i64 k) (.int .i64 a) (.int .i64 f) (.int .i64 v) (.int .i64 fn) (.bool b) (.slice r0 r1 r2) (w.heap.size+1);have hrs:=seven_row hr5 (.int .i64 k) (.int .i64 a) (.int .i64 f) (.int .i64 v) (.int .i64 fn) (.bool b) (.slice r0 r1 r2);have hFz:∀ q,F' q→q≠w.heap.size+1:=fun q hq e=>by
   rcases hF' q hq with h1 | h1
   ·have:=HFLT.out q h1;omega
   ·omega
  have hT5:=hT'.fr hfs (fun q hq e=>hFz q hq e) (fun q hq e=>by rw[hXD.1,hX1] at hq;have:=HOUT.out q hq;have e:q=w.heap.size+1:=e;omega);have hf6:=HFW.out.trans hfs (fun q hq e=>by have e:q=w.heap.size+1:=e;omega);have hF6:∀ q,F' q→F q∨w.heap.size≤q:=fun q hq=>by
   rcases hF' q hq with h1 | h1
   ·exact .inl h1
   ·exact .inr (by omega)
  have HPP:=k_ (show RunPostG w F tb p X1 T' al kf (actV k a f v fn b (.slice r0 r1 r2)) _ _ from⟨rfl,F',X',hT5,hXD,hF6,hf6⟩);clear hfs hr5 hT' hT5 hf6 hF6 hFz hF' hS5 hS7 hXD hlow z0 z1 z2 z3 z4 z5 z6 n0 n1 n2 n3 n4 n5 n6;have HRS:=k_ hrs;clear hrs;go_wp2_with fail;refine bodyPost_ret ?_ rfl HPP.out;have k0:=(row_cell HRS.out 0).1;have k1:=(row_cell HRS.out 1).1;have k2:=(row_cell HRS.out 2).1;have k3:=(row_cell HRS.out 3).1;have k4:=(row_cell HRS.out 4).1;have k5:=(row_cell HRS.out 5).1;have k6:=(row_cell HRS.out 6).1;simp at k0 k1 k2 k3 k4 k5 k6;simp[results,Tryz.results69,go_sem,k0,k1,k2,k3,k4,k5,k6,actV]
abbrev I1:={ x:Int // i64B x }
def i1 (a:Int) (h:0≤a∧a≤100):I1:=⟨a,i64s a h⟩
def wayF (wb:Nat) (k:Nat):Value:=.func (.func k) #[.pointer (some ⟨wb,0,none⟩)] #[]
def tabW:List (Nat × I1 × Nat):=[(4,i1 0 (by omega),41),(8,i1 1 (by omega),42),(12,i1 2 (by omega),43),(16,i1 3 (by omega),44),(20,i1 4 (by omega),45),(24,i1 5 (by omega),46)]
def cntS (st:Nat→Int) (k:Nat):Nat:=((List.range k).filter fun i=>decide (st i=0)).length
theorem cntS_succ (st:Nat→Int) (k:Nat):cntS st (k+1)=cntS st k+(if st k=0 then 1 else 0):=by
 unfold cntS;rw[List.range_succ,List.filter_append,List.length_append]
 by_cases h:st k=0 <;> simp[h]
theorem cntS_le (st:Nat→Int) (k:Nat):cntS st k≤k:=by
 unfold cntS;exact Nat.le_trans (List.length_filter_le _ _) (by simp)
theorem steps_any (w:World) (wb:Nat) (a:Option Addr) (l:List Ent) (c:Nat) (hall:∀ x ∈ l,x=⟨0,0⟩) (D:Nat→Prop) (hln:l.length≤10000) (S:Nat→Nat→World→Prop) (st:Nat→Int)
  (h0:∀ w',Below w.heap.size w w'→S w'.heap.size 0 w') (hS:∀ N k wr w',S N k wr→Below wr.heap.size wr w'→S N k w') (hE:∀ N k wr,S N k wr→EntSl wr D a l) (hX:∀ N k wr,S N k wr→∃ X,WoAt wr wb X∧X.st=st k)
  (hgo:∀ N k,k<l.length→st k=0→∀ wr,S N k wr→Calls Tryz.prog 41 #[.pointer (some ⟨wb,0,none⟩),.int .i64 0] wr fun e w'=>e=.returned (.bool true)∧S N (k+1) w'∧Fr (fun q=>q<w.heap.size∨N≤q) wr w')
  (hno:∀ N k,k<l.length→st k≠0→∀ wr,S N k wr→S N (k+1) wr) :
  Calls Tryz.prog 25 #[.pointer (some ⟨wb,0,none⟩),.slice a l.length c] w fun e w'=>e=.returned (.int .i64 (cntS st l.length:Nat))∧∃ N,S N l.length w':=by
 obtain⟨X0,hX0,hX0s⟩:=hX _ _ _ (h0 w (Below.refl _ _));have nn:=none_any w wb X0 hX0;have hz:∀ w,(zeroValue 116).run Tryz.prog w=.ok Value.nilFunc w:=fun w=>by kernel_rfl
 have hzz:∀ (f:Fn) (x y:Array Value) (w:World),(Instr.makeFunc f x y).run Tryz.prog w=.ok (.func f x y) w:=fun _ _ _ _=>rfl
 clear hX0s hX0 X0;have HH0:=k_ h0;clear h0;have HHS:=k_ hS;clear hS;have HHE:=k_ hE;clear hE;have HHX:=k_ hX;clear hX;have HGO:=k_ hgo;clear hgo;have HNO:=k_ hno;clear hno;have NN:=k_ nn;clear nn;have HALL:=k_ hall;clear hall
 go_enter Tryz.func25,Tryz.ntmps25
 go_wp2_with fail;refine NN.out.mono ?_;rintro e w1 ⟨rfl,rfl⟩
 go_upto_region 3 with fail
 refine wp_region_noPanic ?_;refine wp_region_held_drew (S:=fun w'=>Below w.heap.size w w') (by kernel_rfl) (Below.refl _ _).drew (fun _=>?_);have HR1:=k_ (Below.refl w.heap.size w).drew;have hs1:w.drew.heap.size=w.heap.size:=rfl;have HS1:=k_ hs1;clear hs1;generalize w.drew=r1 at *;refine wpAnyH_take (i:=1) (v:=?_) rfl (by kernel_rfl) (by kernel_rfl) (by kernel_rfl) (fun _ _ _ h=>h) (Or.inl ⟨by kernel_rfl,?tq1⟩) HR1.out ?_
 case tq1=>(intro wq hq;go_simp;first | done | with_reducible rfl)
 refine wpAnyH_take (i:=2) (v:=?_) rfl (by kernel_rfl) (by kernel_rfl) (by kernel_rfl) (fun _ _ _ h=>h) (Or.inl ⟨by kernel_rfl,?tq2⟩) HR1.out ?_
 case tq2=>(intro wq hq;go_simp;first | done | with_reducible rfl)
 refine wpAnyH_take (i:=3) (v:=?_) rfl (by kernel_rfl) (by kernel_rfl) (by kernel_rfl) (fun _ _ _ h=>h) (Or.inl ⟨by kernel_rfl,?tq3⟩) HR1.out ?_
 case tq3=>(intro wq hq;go_simp;first | done | with_reducible rfl)
 refine wpAnyH_take (i:=5) (v:=?_) rfl (by kernel_rfl) (by kernel_rfl) (by kernel_rfl) (fun _ _ _ h=>h) (Or.inl ⟨by kernel_rfl,?tq5⟩) HR1.out ?_
 case tq5=>(intro wq hq;go_simp;first | done | with_reducible rfl)
 refine wpAnyH_take (i:=6) (v:=?_) rfl (by kernel_rfl) (by kernel_rfl) (by kernel_rfl) (fun _ _ _ h=>h) (Or.inl ⟨by kernel_rfl,?tq6⟩) HR1.out ?_
 case tq6=>(intro wq hq;go_simp;first | done | with_reducible rfl)
 refine wpAnyH_take (i:=7) (v:=?_) rfl (by kernel_rfl) (by kernel_rfl) (by kernel_rfl) (fun _ _ _ h=>h) (Or.inl ⟨by kernel_rfl,?tq7⟩) HR1.out ?_
 case tq7=>(intro wq hq;go_simp;first | done | with_reducible rfl)
 refine wpAnyH_take (i:=9) (v:=?_) rfl (by kernel_rfl) (by kernel_rfl) (by kernel_rfl) (fun _ _ _ h=>h) (Or.inl ⟨by kernel_rfl,?tq9⟩) HR1.out ?_
 case tq9=>(intro wq hq;go_simp;first | done | with_reducible rfl)
 refine wpAnyH_take (i:=10) (v:=?_) rfl (by kernel_rfl) (by kernel_rfl) (by kernel_rfl) (fun _ _ _ h=>h) (Or.inl ⟨by kernel_rfl,?tq10⟩) HR1.out ?_
 case tq10=>(intro wq hq;go_simp;first | done | with_reducible rfl)
 refine wpAnyH_take (i:=11) (v:=?_) rfl (by kernel_rfl) (by kernel_rfl) (by kernel_rfl) (fun _ _ _ h=>h) (Or.inl ⟨by kernel_rfl,?tq11⟩) HR1.out ?_
 case tq11=>(intro wq hq;go_simp;first | done | with_reducible rfl)
 refine wpAnyH_take (i:=13) (v:=?_) rfl (by kernel_rfl) (by kernel_rfl) (by kernel_rfl) (fun _ _ _ h=>h) (Or.inl ⟨by kernel_rfl,?tq13⟩) HR1.out ?_
 case tq13=>(intro wq hq;go_simp;first | done | with_reducible rfl)
 refine wpAnyH_take (i:=14) (v:=?_) rfl (by kernel_rfl) (by kernel_rfl) (by kernel_rfl) (fun _ _ _ h=>h) (Or.inl ⟨by kernel_rfl,?tq14⟩) HR1.out ?_
 case tq14=>(intro wq hq;go_simp;first | done | with_reducible rfl)
 refine wpAnyH_take (i:=15) (v:=?_) rfl (by kernel_rfl) (by kernel_rfl) (by kernel_rfl) (fun _ _ _ h=>h) (Or.inl ⟨by kernel_rfl,?tq15⟩) HR1.out ?_
 case tq15=>(intro wq hq;go_simp;first | done | with_reducible rfl)
 refine wpAnyH_take (i:=17) (v:=?_) rfl (by kernel_rfl) (by kernel_rfl) (by kernel_rfl) (fun _ _ _ h=>h) (Or.inl ⟨by kernel_rfl,?tq17⟩) HR1.out ?_
 case tq17=>(intro wq hq;go_simp;first | done | with_reducible rfl)
 refine wpAnyH_take (i:=18) (v:=?_) rfl (by kernel_rfl) (by kernel_rfl) (by kernel_rfl) (fun _ _ _ h=>h) (Or.inl ⟨by kernel_rfl,?tq18⟩) HR1.out ?_
 case tq18=>(intro wq hq;go_simp;first | done | with_reducible rfl)
 refine wpAnyH_take (i:=19) (v:=?_) rfl (by kernel_rfl) (by kernel_rfl) (by kernel_rfl) (fun _ _ _ h=>h) (Or.inl ⟨by kernel_rfl,?tq19⟩) HR1.out ?_
 case tq19=>(intro wq hq;go_simp;first | done | with_reducible rfl)
 refine wpAnyH_take (i:=21) (v:=?_) rfl (by kernel_rfl) (by kernel_rfl) (by kernel_rfl) (fun _ _ _ h=>h) (Or.inl ⟨by kernel_rfl,?tq21⟩) HR1.out ?_
 case tq21=>(intro wq hq;go_simp;first | done | with_reducible rfl)
 refine wpAnyH_take (i:=22) (v:=?_) rfl (by kernel_rfl) (by kernel_rfl) (by kernel_rfl) (fun _ _ _ h=>h) (Or.inl ⟨by kernel_rfl,?tq22⟩) HR1.out ?_
 case tq22=>(intro wq hq;go_simp;first | done | with_reducible rfl)
 refine wpAnyH_take (i:=23) (v:=?_) rfl (by kernel_rfl) (by kernel_rfl) (by kernel_rfl) (fun _ _ _ h=>h) (Or.inl ⟨by kernel_rfl,?tq23⟩) HR1.out ?_
 case tq23=>(intro wq hq;go_simp;first | done | with_reducible rfl)
 refine wpAnyH_ready (rs:=[0]) (by kernel_rfl) (by simp) ?_;refine(AllReadyH.cons rfl (fun K hK=>?_) AllReadyH.nil);go_simp;have hb2:Below w.heap.size w (r1.alloc (.map #[] 0)):=HR1.out.alloc HR1.out.size _;refine hK.out _ _ hb2 (fun _=>?_);clear hK K;refine inserts_go (K:=acK) (val:=wayF wb) Tryz.underlying117 _ r1.heap.size (fun w'=>Below w.heap.size w w') (fun _ h=>h) (fun w1 w2 h1 h2=>h1.trans ((turned_fr h2).below (N:=w.heap.size) h1.size (fun q hq=>by have:=HS1.out;have hq:q=r1.heap.size:=hq;omega))) 2 6 tabW rfl _ _ (by kernel_rfl) (fun x hx=>?_) (by decide) (by decide) (by kernel_rfl) (MapIs.made acK _ r1) (by decide) hb2 (fun w3 n g hn hm h1 h2 hb3=>?_)
 ·simp only[tabW,List.mem_cons,List.not_mem_nil,or_false] at hx
  rcases hx with rfl | rfl | rfl | rfl | rfl | rfl <;> exact⟨⟨_,_,_,rfl,rfl,rfl,rfl⟩,trivial⟩
 have hg:g (i1 0 (by omega))=some 41:=h1 _ (List.mem_cons_self ..);have HM:=k_ hm;have HB3:=k_ hb3;have HG:=k_ hg;clear hm h1 h2 hb3 hg;refine wpAnyH_take (i:=25) (v:=?_) rfl (by kernel_rfl) (by kernel_rfl) (by kernel_rfl) (fun _ _ _ h=>h) (Or.inl ⟨by kernel_rfl,?tq25⟩) HB3.out ?_
 case tq25=>(intro wq hq;go_simp;first | done | with_reducible rfl)
 refine wpAnyH_take (i:=26) (v:=?_) rfl (by kernel_rfl) (by kernel_rfl) (by kernel_rfl) (fun _ _ _ h=>h) (Or.inl ⟨by kernel_rfl,?tq26⟩) HB3.out ?_
 case tq26=>(intro wq hq;go_simp;first | done | with_reducible rfl)
 refine wpAnyH_done (by kernel_rfl) ?_ _;refine NoPanic.normal ?_;have hs0:=HH0.out w3 HB3.out;have hmb:w.heap.size≤r1.heap.size∧r1.heap.size<w3.heap.size:=⟨HR1.out.size,HM.out.lt⟩;clear HB3 HR1 HS1 hb2;generalize r1.heap.size=mb at *;obtain⟨N1,hN1⟩:∃ N1,N1=w3.heap.size:=⟨_,rfl⟩;rw[← hN1] at hs0 hmb;have HS0:=k_ hs0;have HMB:=k_ hmb;have HN1:=k_ hN1;clear hs0 hmb hN1 hn;go_wp2_with fail
 go_loopw [6,35] (fun n i wr=>∃ k:Nat,k≤l.length∧i=.int .i64 k∧n=.int .i64 (cntS st k:Nat)∧S N1 k wr∧(∃ m,MapIs acK (wayF wb) wr mb m g)∧N1≤wr.heap.size) (fun _ i _=>l.length - (intOf i).toNat)
 case atStart=>exact⟨0,Nat.zero_le _,rfl,rfl,HS0.out,⟨_,HM.out⟩,Nat.le_of_eq HN1.out⟩
 case round =>
  clear HM HS0;obtain⟨k,hk,rfl,rfl,hs,⟨m,hm⟩,hN⟩:=hrel
  by_cases hlt:k<l.length
  ·obtain⟨b,o,rfl,hd,e0,e1⟩:=HHE.out _ _ _ hs k hlt
   rw[HALL.out _ (List.getElem_mem hlt)] at e0 e1;have e0:wr.cell? ⟨b,o+k * 2,none⟩=some (.int .i64 0):=e0;have e1:wr.cell? ⟨b,o+k * 2+1,none⟩=some (.int .i64 0):=e1;obtain⟨w7,hw7⟩:∃ w7,w7=wr.alloc (.cells #[.int .i64 0,.int .i64 0] 42):=⟨_,rfl⟩;have hb7:Below wr.heap.size wr w7:=by rw[hw7];exact(Below.refl _ _).alloc (Nat.le_refl _) _
   have hr7:w7.heap[wr.heap.size]?=some (.cells #[.int .i64 0,.int .i64 0] 42):=by rw[hw7];exact heap_new _ _
   have hs7:=HHS.out _ _ _ _ hs hb7;have hm7:=hm.below hb7;obtain⟨X,hx,hst⟩:=HHX.out _ _ _ hs7;have q20:w7.cell? ⟨wb,20,none⟩=some (.int .i64 X.st):=(hx.cell 20).1;rw[hst] at q20;have hN7:=Nat.le_trans hN hb7.size;obtain⟨z,hz7⟩:∃ z,z=wr.heap.size:=⟨_,rfl⟩;rw[← hz7] at hr7;have z0:=(row_cell hr7 0).1;have z1:=(row_cell hr7 1).1;simp only[List.getElem?_toArray,List.getElem?_cons_zero,List.getElem?_cons_succ] at z0 z1;obtain⟨k1,hk1⟩:∃ k1,k1=k+1:=⟨_,rfl⟩;have iw:IntKind.i64.wrap ((k:Int)+1)=(k1:Int):=by rw[show ((k:Int)+1)=(k1:Int) from by omega];exact IntWalk.i64_in _ (by omega)
   have hcs:=cntS_succ st k;have hcl:=cntS_le st k;rw[← hk1] at hcs;have hle:k1≤l.length:=by omega
   have hdl:l.length - k1<l.length - k:=by omega
   obtain⟨cn,hcn⟩:∃ cn,cn=cntS st k:=⟨_,rfl⟩;rw[← hcn] at hcs hcl ⊢;obtain⟨cn1,hcn1⟩:∃ cn1,cn1=cn+1:=⟨_,rfl⟩;have jw:IntKind.i64.wrap ((cn:Int)+1)=(cn1:Int):=by rw[show ((cn:Int)+1)=(cn1:Int) from by omega];exact IntWalk.i64_in _ (by omega)
   have HW7:=k_ hw7;have HZ7:=k_ hz7;have HK1:=k_ hk1;clear hw7 hz7 hr7 hs hm hb7 hN hx hst X hcn hcl hk1 hd;have HS7:=k_ hs7;clear hs7;have HM7:=k_ hm7;clear hm7;have HN7:=k_ hN7;clear hN7;have HCS:=k_ hcs;clear hcs;have HLE:=k_ hle;clear hle;have HDL:=k_ hdl;clear hdl;have HCN1:=k_ hcn1;clear hcn1
   go_upto_region 8 with fail
   rw[← HW7.out,← HZ7.out];clear e0 e1
   by_cases h0:st k=0
   ·have go7:=HGO.out N1 k hlt h0 w7 HS7.out
    rw[h0] at q20;have GO7:=k_ go7;clear go7
    go_upto_region 9 with (refine look_some_ok rfl (.tmp 40) (.tmp 43) 117 116 rfl HM7.out Tryz.underlying117 (hz _) (i1 0 (by omega)) trivial rfl rfl _ HG.out ?_)
    unfold wayF;go_wp2_with fail;refine GO7.out.mono ?_;rintro e w8 ⟨rfl,hs8,hf8⟩;have hm8:=HM7.out.fr hf8 (fun h=>by have:=HMB.out;omega);have hN8:=Nat.le_trans HN7.out hf8.size;rw[← HK1.out] at hs8;clear hf8 z0 z1 q20;have HS8:=k_ hs8;clear hs8;have HM8:=k_ hm8;clear hm8;have HN8:=k_ hN8;clear hN8;go_wp2_with fail
    go_roundw
    case rel=>exact⟨k1,HLE.out,by go_num,by rw[HCS.out,if_pos h0,← HCN1.out],HS8.out,⟨m,HM8.out⟩,HN8.out⟩
    case measure=>have:=HDL.out;simp[intOf];omega
   ·have d20:(st k == 0)=false:=by rw[beq_eq_false_iff_ne];exact h0
    have hs8:=HNO.out N1 k hlt h0 w7 HS7.out;rw[← HK1.out] at hs8;have HS8:=k_ hs8;clear hs8
    go_upto_region 9 with (refine look_some_ok rfl (.tmp 40) (.tmp 43) 117 116 rfl HM7.out Tryz.underlying117 (hz _) (i1 0 (by omega)) trivial rfl rfl _ HG.out ?_)
    unfold wayF;go_wp2_with fail
    go_roundw
    case rel=>exact⟨k1,HLE.out,by go_num,by rw[HCS.out,if_neg h0];rfl,HS8.out,⟨m,HM7.out⟩,HN7.out⟩
    case measure=>have:=HDL.out;simp[intOf];omega
  ·have hk':k=l.length:=by omega
   subst hk';have HSE:=k_ hs;clear hs hm hN;go_wp2_with fail
   go_ret
   exact⟨rfl,N1,HSE.out⟩
end Go.Proofs.YtbkkhmafheimfaaGreatDoor.Tk
