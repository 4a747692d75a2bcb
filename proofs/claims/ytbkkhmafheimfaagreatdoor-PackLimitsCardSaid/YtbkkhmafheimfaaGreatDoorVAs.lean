/- Walks: a step that turns the task's kept values too. Walk: check.code: the instructions by their places. Walks: check.look's quiet, .. -/
import Derived.Test.YtbkkhmafheimfaaGreatDoorVAr
set_option linter.unusedVariables false
set_option linter.unusedSimpArgs false
set_option maxRecDepth 100000
set_option maxHeartbeats 3200000
namespace Go.Proofs.YtbkkhmafheimfaaGreatDoor.Tk
open Go.ChangeShapes Go.WideShapes Go.ChangeAt Go.RowKit Go.Maps
theorem step_runX (w:World) (F:Nat→Prop) (tb:Nat) (p:TPrg) (T:Tk) (X:TB) (h:TaskAt w F tb p T X) (hn:T.parts.length≤1000) (hm:nextU T.marks X.al=0) (hml:T.marks.length≤10000) (hal:X.al.length≤10000) (P:List Part) (q:Part) (hP:T.parts=P ++ [q])
  (D:Nat→Prop) (hD:∀ k,D k→¬ F k∧k<w.heap.size) (pr:Prg) (c0 c1 c2:Value) (ma:Option Addr) (hv:PrgVal w D pr c0 c1 c2) (j:Nat) (hj:j<pr.funcs.length) (hfj:q.fn=j) (pc:Nat) (hpc:q.pc=pc) (hpl:pc<pr.funcs[j].code.length) (i:Ins) (hi:pr.funcs[j].code[pc]=i)
  (X1:TB) (hX1:X1.D=X.D) (T':Tk) (al:List Alarm) (kf:{ x:Int × Int // i64B x.1∧i64B x.2 }→Option Int) (k a f v fn:Int) (b:Bool) (r0:Option Addr) (r1 r2:Nat) (RUN:∀ wr,Below w.heap.size w wr→Calls Tryz.prog 122 #[.agg (stepV c0 c1 c2 (.pointer ma) tb i.op i.a i.b i.c)] wr (RunPostG wr F tb p X1 T' al kf (actV k a f v fn b (.slice r0 r1 r2)))) :
  Calls Tryz.prog 69 #[.agg #[c0,c1,c2],.pointer ma,.pointer (some ⟨tb,0,none⟩)] w (RunPostG w F tb p X1 T' al kf (actV k a f v fn b (.slice r0 r1 r2))):=by
 have hv0:=hv;obtain⟨⟨a0,m0,rfl,_⟩,⟨a1,m1,rfl,_⟩,a2,m2,rfl,hfn⟩:=hv;have hb0:=((Below.refl w.heap.size w).alloc (Nat.le_refl _) (.cells #[.slice a0 pr.globals.length m0,.slice a1 pr.shapes.length m1,.slice a2 pr.funcs.length m2] 40));have hb1:=hb0.alloc hb0.size act0;have hr0:=row_alloc (heap_new w (.cells #[.slice a0 pr.globals.length m0,.slice a1 pr.shapes.length m1,.slice a2 pr.funcs.length m2] 40)) act0;have hr1:=heap_new (w.alloc (.cells #[.slice a0 pr.globals.length m0,.slice a1 pr.shapes.length m1,.slice a2 pr.funcs.length m2] 40)) act0;rw[show (w.alloc (.cells #[.slice a0 pr.globals.length m0,.slice a1 pr.shapes.length m1,.slice a2 pr.funcs.length m2] 40)).heap.size=w.heap.size+1 from by simp] at hr1;obtain⟨W,hW⟩:∃ W,W=(w.alloc (.cells #[.slice a0 pr.globals.length m0,.slice a1 pr.shapes.length m1,.slice a2 pr.funcs.length m2] 40)).alloc act0:=⟨_,rfl⟩;rw[← hW] at hb1 hr0 hr1;have hT:=h.below hb1;have hl:T.parts.length=P.length+1:=by rw[hP];simp
 have e0:(T.parts[P.length]'(by omega))=q:=by simp only[hP];simp
 have nx:=tkNext_any W F tb p T X hT hml hal;rw[hm] at nx;have fnc:=fun wr (hw:Below w.heap.size w wr)=>fn_some wr F tb p T X (h.below hw) hn P.length hl
 have pcc:=fun wr (hw:Below w.heap.size w wr)=>pc_some wr F tb p T X (h.below hw) hn P.length hl
 rw[e0,hfj] at fnc;rw[e0,hpc] at pcc;obtain⟨bb,o,rfl,hdb,y0,y1,y2,y3,y4,g0,g1,g2,g3,g4,hfv⟩:=hfn j hj;obtain⟨_,_,_,_,ac,cc,rfl,hcode⟩:=hfv;obtain⟨cb,co,rfl,hdc,x0,x1,x2,x3⟩:=hcode pc hpl;rw[hi] at x0 x1 x2 x3;have hbo:=hD _ hdb;have hco:=hD _ hdc;have hflt:=h.flt;have hout:=fun k (hk:X.D k)=>(h.out k hk).2
 have hcs:∀ wx,Below w.heap.size w wx→wx.cell? ⟨bb,o+j * 5+4,none⟩=some (.slice (some ⟨cb,co,none⟩) pr.funcs[j].code.length cc)∧wx.cell? ⟨cb,co+pc * 4,none⟩=some (.int .i64 i.op)∧wx.cell? ⟨cb,co+pc * 4+1,none⟩=some (.int .i64 i.a)∧wx.cell? ⟨cb,co+pc * 4+2,none⟩=some (.int .i64 i.b)∧wx.cell? ⟨cb,co+pc * 4+3,none⟩=some (.int .i64 i.c):=fun wx hw=>⟨below_cell hw g4,below_cell hw x0,below_cell hw x1,below_cell hw x2,below_cell hw x3⟩
 have hj0:(0:Int)≤(j:Int):=by omega
 have hj1:(j:Int)<(pr.funcs.length:Int):=by omega
 have hp0:(0:Int)≤(pc:Int):=by omega
 have hp1:(pc:Int)<(pr.funcs[j].code.length:Int):=by omega
 unfold act0 at hW hr1;have HW:=k_ hW;clear hb0 hW hT hl e0 h hn hm hml hP hfj hpc hi hv0 hfn g0 g1 g2 g3 g4 x0 x1 x2 x3 hdb hdc hD hpl;generalize pr.funcs[j].code.length=cl at *;have FNC:=k_ fnc;clear fnc;have PCC:=k_ pcc;clear pcc;have RUNX:=k_ RUN;clear RUN;have NX:=k_ nx;clear nx;have HB1:=k_ hb1;clear hb1;have HR1:=k_ hr1;clear hr1;have HR0:=k_ hr0;clear hr0;have HBO:=k_ hbo;clear hbo;have HCO:=k_ hco;clear hco;have HFLT:=k_ hflt;clear hflt;have HOUT:=k_ hout;clear hout;have HCS:=k_ hcs;clear hcs;unfold stepV at RUNX
 go_enter Tryz.func69,Tryz.ntmps69
 go_upto_region 1 with fail
 rw[← HW.out];go_wp2_with fail;refine NX.out.mono ?_;rintro e w3 ⟨rfl,hb3⟩;have hb13:=HB1.out.trans (hb3.mono HB1.out.size);have hsz:w.heap.size+2≤w3.heap.size:=Nat.le_trans (heap_lt HR1.out) hb3.size;have HBD:=k_ (fun k=>below_drewN hb13 k);have hro3:=(Fr.of_below hb3 (fun _=>False)).heap HR0.out (fun h=>h);have hr3:=(Fr.of_below hb3 (fun _=>False)).heap HR1.out (fun h=>h);have HRG:=k_ (fun k=>(Fr.of_below (below_drewN (Below.refl w3.heap.size w3) k) (fun _=>False)).heap hr3 (fun h=>h));have HSZ:=k_ (fun k=>Nat.le_trans hsz (below_drewN (Below.refl w3.heap.size w3) k).size);have HSG:=k_ (show ∀ k,(w3.drewN k).cell? ⟨w.heap.size,0,none⟩=some (.slice a0 pr.globals.length m0)∧(w3.drewN k).cell? ⟨w.heap.size,1,none⟩=some (.slice a1 pr.shapes.length m1)∧(w3.drewN k).cell? ⟨w.heap.size,2,none⟩=some (.slice (some ⟨bb,o,none⟩) pr.funcs.length m2)∧(w3.drewN k).cell? ⟨bb,o+j * 5+4,none⟩=some (.slice (some ⟨cb,co,none⟩) cl cc)∧(w3.drewN k).cell? ⟨cb,co+pc * 4,none⟩=some (.int .i64 i.op)∧(w3.drewN k).cell? ⟨cb,co+pc * 4+1,none⟩=some (.int .i64 i.a)∧(w3.drewN k).cell? ⟨cb,co+pc * 4+2,none⟩=some (.int .i64 i.b)∧(w3.drewN k).cell? ⟨cb,co+pc * 4+3,none⟩=some (.int .i64 i.c) from fun k=>by
  have hk:=(Fr.of_below (below_drewN (Below.refl w3.heap.size w3) k) (fun _=>False)).heap hro3 (fun h=>h);exact⟨(row_cell hk 0).1,(row_cell hk 1).1,(row_cell hk 2).1,HCS.out _ (below_drewN hb13 k)⟩)
 have hSd:=HSG.out 1;rw[show w3.drewN 1=w3.drew from rfl] at hSd;have HR0:=k_ (show Below w.heap.size w w3.drew from HBD.out 1);have k3:w3.cell? ⟨w.heap.size,2,none⟩=some (.slice (some ⟨bb,o,none⟩) pr.funcs.length m2):=(row_cell hro3 2).1;clear hb3 hb13 hsz hro3 hr3 NX
 go_upto_region 11 with fail
 clear k3
 go_region_held3 (fun w'=>w'.cell? ⟨w.heap.size,0,none⟩=some (.slice a0 pr.globals.length m0)∧w'.cell? ⟨w.heap.size,1,none⟩=some (.slice a1 pr.shapes.length m1)∧w'.cell? ⟨w.heap.size,2,none⟩=some (.slice (some ⟨bb,o,none⟩) pr.funcs.length m2)∧w'.cell? ⟨bb,o+j * 5+4,none⟩=some (.slice (some ⟨cb,co,none⟩) cl cc)∧w'.cell? ⟨cb,co+pc * 4,none⟩=some (.int .i64 i.op)∧w'.cell? ⟨cb,co+pc * 4+1,none⟩=some (.int .i64 i.a)∧w'.cell? ⟨cb,co+pc * 4+2,none⟩=some (.int .i64 i.b)∧w'.cell? ⟨cb,co+pc * 4+3,none⟩=some (.int .i64 i.c)) (first | with_reducible exact HSG.out _ | with_reducible exact hSd | with_reducible exact hS5 | with_reducible exact hS7 | go_keep) (first
  | (go_at_call 120
     refine(FNC.out _ HR0.out).mono ?_;rintro e w4 ⟨rfl,m,rfl⟩)
  | (go_at_call 121
     refine(PCC.out _ (HBD.out _)).mono ?_;rintro e w4 ⟨rfl,m',rfl⟩)
  | (go_at_call 122
     refine(RUNX.out _ (HBD.out _)).mono ?_;rintro e w5 ⟨rfl,F',X',hT',hXD,hF',hf5⟩;have hlow:=HSZ.out (1+m+m');have hr5:=hf5.heap (HRG.out _) (fun e=>by have:=HFLT.out (w.heap.size+1) e;omega);obtain⟨u0,u1,u2,u3,u4,u5,u6,u7⟩:=HSG.out (1+m+m');have hS5:=And.intro (hf5.cell u0 (fun e=>Nat.lt_irrefl _ (HFLT.out w.heap.size e))) (And.intro (hf5.cell u1 (fun e=>Nat.lt_irrefl _ (HFLT.out w.heap.size e))) (And.intro (hf5.cell u2 (fun e=>Nat.lt_irrefl _ (HFLT.out w.heap.size e))) (And.intro (hf5.cell u3 HBO.out.1) (And.intro (hf5.cell u4 HCO.out.1) (And.intro (hf5.cell u5 HCO.out.1) (And.intro (hf5.cell u6 HCO.out.1) (hf5.cell u7 HCO.out.1)))))));have HFW:=k_ ((Fr.of_below (HBD.out (1+m+m')) F).trans hf5 (fun _ _ h=>h));have hfs:=seven_fr w5 (.int .i64 k) (.int .i64 a) (.int .i64 f) (.int .i64 v) (.int .i64 fn) (.bool b) (.slice r0 r1 r2) (w.heap.size+1);have nz0:¬ w.heap.size=w.heap.size+1:=by omega
     have nz1:¬ bb=w.heap.size+1:=by have:=HBO.out.2;omega
     have nz2:¬ cb=w.heap.size+1:=by have:=HCO.out.2;omega
     have hS7:=And.intro (hfs.cell hS5.1 nz0) (And.intro (hfs.cell hS5.2.1 nz0) (And.intro (hfs.cell hS5.2.2.1 nz0) (And.intro (hfs.cell hS5.2.2.2.1 nz1) (And.intro (hfs.cell hS5.2.2.2.2.1 nz2) (And.intro (hfs.cell hS5.2.2.2.2.2.1 nz2) (And.intro (hfs.cell hS5.2.2.2.2.2.2.1 nz2) (hfs.cell hS5.2.2.2.2.2.2.2 nz2)))))));clear u0 u1 u2 u3 u4 u5 u6 u7 hf5 hfs;obtain⟨⟨z0,z1,z2,z3,z4,z5,z6⟩,n0,n1,n2,n3,n4,n5,n6⟩:=seven_cells hr5;unfold actV))
 all_goals
  have hfs:=seven_fr w5 (.int .i64 k) (.int .i64 a) (.int .i64 f) (.int .i64 v) (.int .i64 fn) (.bool b) (.slice r0 r1 r2) (w.heap.size+1);have hrs:=seven_row hr5 (.int .i64 k) (.int .i64 a) (.int .i64 f) (.int .i64 v) (.int .i64 fn) (.bool b) (.slice r0 r1 r2);have hFz:∀ q,F' q→q≠w.heap.size+1:=fun q hq e=>by
   rcases hF' q hq with h1 | h1
   ·have:=HFLT.out q h1;omega
   ·omega
  have hT5:=hT'.fr hfs (fun q hq e=>hFz q hq e) (fun q hq e=>by rw[hXD.1,hX1] at hq;have:=HOUT.out q hq;have e:q=w.heap.size+1:=e;omega);have hf6:=HFW.out.trans hfs (fun q hq e=>by have e:q=w.heap.size+1:=e;omega);have hF6:∀ q,F' q→F q∨w.heap.size≤q:=fun q hq=>by
   rcases hF' q hq with h1 | h1
   ·exact .inl h1
   ·exact .inr (by omega)
  have HPP:=k_ (show RunPostG w F tb p X1 T' al kf (actV k a f v fn b (.slice r0 r1 r2)) _ _ from⟨rfl,F',X',hT5,hXD,hF6,hf6⟩);clear hfs hr5 hT' hT5 hf6 hF6 hFz hF' hS5 hS7 hXD hlow z0 z1 z2 z3 z4 z5 z6 n0 n1 n2 n3 n4 n5 n6;have HRS:=k_ hrs;clear hrs;go_wp2_with fail;refine bodyPost_ret ?_ rfl HPP.out;have k0:=(row_cell HRS.out 0).1;have k1:=(row_cell HRS.out 1).1;have k2:=(row_cell HRS.out 2).1;have k3:=(row_cell HRS.out 3).1;have k4:=(row_cell HRS.out 4).1;have k5:=(row_cell HRS.out 5).1;have k6:=(row_cell HRS.out 6).1;simp at k0 k1 k2 k3 k4 k5 k6;simp[results,Tryz.results69,go_sem,k0,k1,k2,k3,k4,k5,k6,actV]
end Go.Proofs.YtbkkhmafheimfaaGreatDoor.Tk
namespace Go.Proofs.YtbkkhmafheimfaaGreatDoor
open Go.ChangeShapes Go.WideShapes Go.ChangeAt Go.RowKit Go.Maps
abbrev Pl:={ x:Int × Int // i64B x.1∧i64B x.2 }
def cF (fn:Int) (C:List Ins) (k:Nat) (x:Pl):Option Ins:=if x.1.1=fn∧0≤x.1.2∧x.1.2<k then C[x.1.2.toNat]? else none
def codeOf (p:Prg) (fn:Int):List Ins:=if withinB fn p.funcs.length=true then ((p.funcs[fn.toNat]?).map Fun.code).getD [] else []
theorem cF_zero (fn:Int) (C:List Ins) (x:Pl):(none:Option Ins)=cF fn C 0 x:=by
 unfold cF;rw[if_neg (by omega)]
theorem cF_succ (fn:Int) (C:List Ins) (k:Nat) (hk:k<C.length) (h:i64B fn∧i64B (k:Int)) (x:Pl):upd (cF fn C k) ⟨(fn,(k:Int)),h⟩ (some C[k]) x=cF fn C (k+1) x:=by
 unfold upd
 by_cases he:x=⟨(fn,(k:Int)),h⟩
 ·rw[if_pos he,he]
  unfold cF;rw[if_pos ⟨rfl,by simp,by show (k:Int)<((k+1:Nat):Int);omega⟩]
  simp[hk]
 ·rw[if_neg he]
  unfold cF
  by_cases h2:x.1.1=fn∧0≤x.1.2∧x.1.2<k
  ·rw[if_pos h2,if_pos ⟨h2.1,h2.2.1,by omega⟩]
  ·rw[if_neg h2,if_neg]
   rintro⟨h3,h4,h5⟩
   by_cases h6:x.1.2=k
   ·apply he
    obtain⟨⟨x1,x2⟩,hx⟩:=x
    simp at h3 h6
    subst h3 h6
    rfl
   ·exact h2 ⟨h3,h4,by omega⟩
def insVal (i:Ins):Value:=.agg #[.int .i64 i.op,.int .i64 i.a,.int .i64 i.b,.int .i64 i.c]
def CodeMap (w:World) (b m:Nat) (f:Pl→Option Ins):Prop:=MapIs plK insVal w b m f
def CodePost (p:Prg) (fn:Int) (w:World) (e:Ending) (w':World):Prop :=
 ∃ b m,e=.returned (.map (some b))∧CodeMap w' b m (cF fn (codeOf p fn) (codeOf p fn).length)∧w.heap.size≤b∧Below w.heap.size w w'
theorem code_any (w:World) (D:Nat→Prop) (p:Prg) (c0 c1 c2:Value) (fn:Int) (hD:∀ k,D k→k<w.heap.size) (hv:PrgVal w D p c0 c1 c2) (hfn:i64B fn) (hln:(codeOf p fn).length≤3000) :
  Calls Tryz.prog 236 #[.agg #[c0,c1,c2],.int .i64 fn] w (CodePost p fn w):=by
 obtain⟨⟨a0,m0,rfl,_⟩,⟨a1,m1,rfl,_⟩,a2,m2,rfl,hfs⟩:=hv;have hb0:=((Below.refl w.heap.size w).alloc (Nat.le_refl _) (.cells #[.slice a0 p.globals.length m0,.slice a1 p.shapes.length m1,.slice a2 p.funcs.length m2] 40));have hmk:CodeMap ((w.alloc (.cells #[.slice a0 p.globals.length m0,.slice a1 p.shapes.length m1,.slice a2 p.funcs.length m2] 40)).alloc (.map #[] 0)) (w.alloc (.cells #[.slice a0 p.globals.length m0,.slice a1 p.shapes.length m1,.slice a2 p.funcs.length m2] 40)).heap.size 0 (fun _=>none):=MapIs.made plK _ _;have hz1:(w.alloc (.cells #[.slice a0 p.globals.length m0,.slice a1 p.shapes.length m1,.slice a2 p.funcs.length m2] 40)).heap.size=w.heap.size+1:=by simp
 rw[hz1] at hmk;have hb1:=hb0.alloc (by simp) (.map #[] 0);have hmake:∀ w,(Instr.makeMap 308 none).run Tryz.prog w=.ok (.map (some w.heap.size)) (w.alloc (.map #[] 0)):=fun w=>run_makeMap _ w
 have ht:Tryz.prog.underlying 308=some (.map plK.k 32):=Tryz.underlying308;have q2:((w.alloc (.cells #[.slice a0 p.globals.length m0,.slice a1 p.shapes.length m1,.slice a2 p.funcs.length m2] 40)).alloc (.map #[] 0)).cell? ⟨w.heap.size,2,none⟩=some (.slice a2 p.funcs.length m2):=by
  rw[cell_under _ _ (by simp),cell_new];rfl
 obtain⟨W,hW⟩:∃ W,W=(w.alloc (.cells #[.slice a0 p.globals.length m0,.slice a1 p.shapes.length m1,.slice a2 p.funcs.length m2] 40)).alloc (.map #[] 0):=⟨_,rfl⟩;rw[← hW] at hmk hb1 q2;have hfs:=hfs.fr (Fr.of_below hb1 (fun _=>False)) (fun _ _ h=>h);have hm0:CodeMap W (w.heap.size+1) 0 (cF fn (codeOf p fn) 0):=hmk.congr (fun a _=>cF_zero fn (codeOf p fn) a);have HW:=k_ hW;clear hW hb0 hz1 hmk
 by_cases hin:withinB fn p.funcs.length=true
 case neg =>
  have hc:codeOf p fn=[]:=by unfold codeOf;rw[if_neg hin]
  have hP:CodePost p fn w (.returned (.map (some (w.heap.size+1)))) W:=by
   refine⟨_,0,rfl,?_,by omega,hb1⟩;rw[hc] at hm0 ⊢;exact hm0
  clear hm0 hc hfs hb1;have HP:=k_ hP;clear hP
  by_cases h0:0≤fn
  ·have h1:¬ fn<p.funcs.length:=fun h=>hin (by simp[withinB];omega)
   clear hin
   go_enter Tryz.func236,Tryz.ntmps236
   go_upto_region 2 with fail
   rw[← HW.out];go_wp2_with fail
   go_ret
   exact HP.out
  ·clear hin
   go_enter Tryz.func236,Tryz.ntmps236
   go_upto_region 2 with fail
   rw[← HW.out];go_wp2_with fail
   go_ret
   exact HP.out
 obtain⟨j,rfl,hj⟩:∃ j:Nat,fn=j∧j<p.funcs.length:=by
  simp[withinB] at hin
  exact⟨fn.toNat,by omega,by omega⟩
 have hc:codeOf p (j:Int)=p.funcs[j].code:=by unfold codeOf;rw[if_pos hin];simp[hj]
 obtain⟨b,o,rfl,_,y0,y1,y2,y3,y4,g0,g1,g2,g3,g4,hfv⟩:=hfs j hj;obtain⟨_,_,_,_,e0,e1,rfl,hsc⟩:=hfv;rw[hc] at hln hm0;unfold CodePost;rw[hc];clear hc hfs hin g0 g1 g2 g3;generalize p.funcs[j].code=C at *;have hj1:(j:Int)<p.funcs.length:=by omega
 have HM0:=k_ hm0;clear hm0;have HSC:=k_ hsc;clear hsc;have HT:=k_ ht;clear ht;have HB1:=k_ hb1;clear hb1;have HD:=k_ hD;clear hD
 go_enter Tryz.func236,Tryz.ntmps236
 go_upto_region 2 with fail
 rw[← HW.out];go_wp2_with fail
 go_loopw [25] (fun i wr=>∃ k m:Nat,k≤C.length∧i=.int .i64 k∧CodeMap wr (w.heap.size+1) m (cF j C k)∧m≤k∧Fr (fun q=>q=w.heap.size+1) W wr) (fun i _=>C.length - (intOf i).toNat)
 case atStart=>exact⟨0,0,Nat.zero_le _,rfl,HM0.out,Nat.le_refl _,Fr.refl _ _⟩
 case round =>
  obtain⟨k,m,hk,rfl,hm,hmk,hf⟩:=hrel
  by_cases hlt:k<C.length
  ·obtain⟨b',o',rfl,_,x0,x1,x2,x3⟩:=(HSC.out.fr hf (fun q hq e=>by have:=HD.out q hq;omega)) k hlt
   have hcs:=fun h=>cF_succ j C k hlt h
   have hk64:i64B (k:Int):=⟨by omega,by omega⟩;generalize C[k]=x at *;have hbs:=(Below.refl wr.heap.size wr).alloc (Nat.le_refl _) (.cells #[.int .i64 x.op,.int .i64 x.a,.int .i64 x.b,.int .i64 x.c] 32);have hly:=heap_new wr (.cells #[.int .i64 x.op,.int .i64 x.a,.int .i64 x.b,.int .i64 x.c] 32);have hmS:=hm.below hbs;obtain⟨y,hy⟩:∃ y,y=wr.heap.size:=⟨_,rfl⟩;obtain⟨wS,hwS⟩:∃ wS,wS=wr.alloc (.cells #[.int .i64 x.op,.int .i64 x.a,.int .i64 x.b,.int .i64 x.c] 32):=⟨_,rfl⟩;rw[← hwS] at hbs hmS;rw[← hwS,← hy] at hly;have z0:=(row_cell hly 0).1;have z1:=(row_cell hly 1).1;have z2:=(row_cell hly 2).1;have z3:=(row_cell hly 3).1;have z0:wS.cell? ⟨y,0,none⟩=some (.int .i64 x.op):=z0;have z1:wS.cell? ⟨y,1,none⟩=some (.int .i64 x.a):=z1;have z2:wS.cell? ⟨y,2,none⟩=some (.int .i64 x.b):=z2;have z3:wS.cell? ⟨y,3,none⟩=some (.int .i64 x.c):=z3;have hfS:=hf.trans (Fr.of_below hbs (fun q=>q=w.heap.size+1)) (fun _ _ h=>h);have HWS:=k_ hwS;have HY:=k_ hy;clear hwS hy hly hm hf hbs;have HMS:=k_ hmS;clear hmS;have HFS:=k_ hfS;clear hfS;have HCS:=k_ hcs;clear hcs
   go_upto_region 6 with fail
   rw[← HWS.out,← HY.out];clear x0 x1 x2 x3
   go_wp2_with (refine put_map rfl (.tmp 30) (.tmp 33) (.tmp 34) 308 32 rfl HMS.out HT.out (by unfold maxLen;omega) ⟨((j:Int),(k:Int)),hfn,hk64⟩ trivial x rfl rfl rfl ?_;intro w1 hm1 ht1)
   have hm3:CodeMap w1 (w.heap.size+1) _ (cF j C (k+1)):=hm1.congr (fun a _=>HCS.out ⟨hfn,hk64⟩ a);have hn3:(if (cF j C k ⟨((j:Int),(k:Int)),hfn,hk64⟩).isSome then m else m+1)≤k+1:=by split <;> omega
   have hf3:=HFS.out.trans (turned_fr ht1) (fun _ _ h=>h);clear hm1 ht1;have HM3:=k_ hm3;clear hm3;have HN3:=k_ hn3;clear hn3;have HF3:=k_ hf3;clear hf3;go_wp2_with fail
   go_roundw
   case rel=>exact⟨k+1,_,by omega,by go_num,HM3.out,HN3.out,HF3.out⟩
   case measure=>simp[intOf];omega
  ·have hk':k=C.length:=by omega
   subst hk';have hbf:Below w.heap.size w wr:=HB1.out.trans (hf.below HB1.out.size (fun q hq=>by omega));have HM:=k_ hm;clear hm;have HBF:=k_ hbf;clear hbf;clear hf;go_wp2_with fail
   go_ret
   exact⟨_,_,rfl,HM.out,by omega,HBF.out⟩
end Go.Proofs.YtbkkhmafheimfaaGreatDoor
namespace Go.Proofs.YtbkkhmafheimfaaGreatDoor
open Go.ChangeShapes Go.WideShapes Go.ChangeAt Go.RowKit
def quietV (p:Prg) (r:Int) (i:Ins):Bool:=(i.op == 22 && r == 0) || (i.op == 21 && (calleeF p i).isSome && (calleeG p i).result == 0)
theorem quiet_eq (p:Prg) (f:Fun) (i:Ins):quietV p f.result i=quietB p f i:=by
 unfold quietV quietB calleeG
 cases calleeF p i with
 | none=>simp
 | some g=>simp
theorem quiet_any (w:World) (D:Nat→Prop) (hD:∀ k,D k→k<w.heap.size) (p:Prg) (c0 c1 c2 d0 d3 d4:Value) (r s:Int) (i:Ins) (fn pc:Int) (hv:PrgVal w D p c0 c1 c2) (hd0:d0.oneCell'=true) (hd3:d3.oneCell'=true) (hd4:d4.oneCell'=true) :
  Calls Tryz.prog 292 #[.agg (lookC c0 c1 c2 d0 d3 d4 r s i fn pc)] w fun e w'=>e=.returned (.bool (quietV p r i))∧Below w.heap.size w w':=by
 obtain⟨op,a,b,c⟩:=i;have ca:=fun W h1 h2=>callee_any W D h1 p c0 c1 c2 d0 d3 d4 r s ⟨op,a,b,c⟩ fn pc h2
 unfold CalleePost at ca;have hC0:=(Below.refl w.heap.size w).alloc (Nat.le_refl _) (.cells (lookC c0 c1 c2 d0 d3 d4 r s ⟨op,a,b,c⟩ fn pc) 311);have hbx:=box1 w (lookC c0 c1 c2 d0 d3 d4 r s ⟨op,a,b,c⟩ fn pc) 311 _ (Below.refl _ _);have hz0:(w.alloc (.cells (lookC c0 c1 c2 d0 d3 d4 r s ⟨op,a,b,c⟩ fn pc) 311)).heap.size=w.heap.size+1:=by simp
 obtain⟨W,hW⟩:∃ W,W=w.alloc (.cells (lookC c0 c1 c2 d0 d3 d4 r s ⟨op,a,b,c⟩ fn pc) 311):=⟨_,rfl⟩;rw[← hW] at hC0 hbx hz0;have q:∀ W',Below W.heap.size W W'→∀ j u,(lookC c0 c1 c2 d0 d3 d4 r s ⟨op,a,b,c⟩ fn pc)[j]?=some u→W'.cell? ⟨w.heap.size,j,none⟩=some u:=fun W' h j u hj=>below_cell h (hbx.1 j u hj)
 clear hbx;have HW:=k_ hW;clear hW;have hvW:∀ W',Below W.heap.size W W'→PrgVal W' D p c0 c1 c2:=fun W' h=>hv.fr (Fr.of_below (hC0.trans (h.mono hC0.size)) (fun _=>False)) (fun _ _ h=>h)
 have hDW:∀ k,D k→k<W.heap.size:=fun k hk=>by have:=hD k hk;omega
 have HQQ:=k_ q;clear q;have HC0:=k_ hC0;clear hC0;have HVW:=k_ hvW;clear hvW;have HDW:=k_ hDW;clear hDW;have HZ0:=k_ hz0;clear hz0;unfold quietV
 dsimp only
 generalize (calleeG p ⟨op,a,b,c⟩)=G at *;generalize (calleeF p ⟨op,a,b,c⟩).isSome=is at *;generalize hgr:G.result=gr at *;generalize hgs:G.slots=gs at *;clear hgr hgs;have CA:=k_ (ca W HDW.out (HVW.out W (Below.refl _ _)));clear ca hv hD;unfold lookC at *
 go_enter Tryz.func292,Tryz.ntmps292
 go_upto_region 1 with fail
 rw[← HW.out];have p0:W.cell? ⟨w.heap.size,0,none⟩=some c0:=HQQ.out _ (Below.refl _ _) 0 _ rfl;have p1:W.cell? ⟨w.heap.size,1,none⟩=some c1:=HQQ.out _ (Below.refl _ _) 1 _ rfl;have p2:W.cell? ⟨w.heap.size,2,none⟩=some c2:=HQQ.out _ (Below.refl _ _) 2 _ rfl;have p3:W.cell? ⟨w.heap.size,3,none⟩=some d0:=HQQ.out _ (Below.refl _ _) 3 _ rfl;have p4:W.cell? ⟨w.heap.size,4,none⟩=some (.int .i64 r):=HQQ.out _ (Below.refl _ _) 4 _ rfl;have p5:W.cell? ⟨w.heap.size,5,none⟩=some (.int .i64 s):=HQQ.out _ (Below.refl _ _) 5 _ rfl;have p6:W.cell? ⟨w.heap.size,6,none⟩=some d3:=HQQ.out _ (Below.refl _ _) 6 _ rfl;have p7:W.cell? ⟨w.heap.size,7,none⟩=some d4:=HQQ.out _ (Below.refl _ _) 7 _ rfl;have p8:W.cell? ⟨w.heap.size,8,none⟩=some (.int .i64 op):=HQQ.out _ (Below.refl _ _) 8 _ rfl;have p9:W.cell? ⟨w.heap.size,9,none⟩=some (.int .i64 a):=HQQ.out _ (Below.refl _ _) 9 _ rfl;have p10:W.cell? ⟨w.heap.size,10,none⟩=some (.int .i64 b):=HQQ.out _ (Below.refl _ _) 10 _ rfl;have p11:W.cell? ⟨w.heap.size,11,none⟩=some (.int .i64 c):=HQQ.out _ (Below.refl _ _) 11 _ rfl;have p12:W.cell? ⟨w.heap.size,12,none⟩=some (.int .i64 fn):=HQQ.out _ (Below.refl _ _) 12 _ rfl;have p13:W.cell? ⟨w.heap.size,13,none⟩=some (.int .i64 pc):=HQQ.out _ (Below.refl _ _) 13 _ rfl;go_wp2_with fail;refine CA.out.mono ?_;rintro e w1 ⟨x0,x3,x4,rfl,hfv,hb1⟩;obtain⟨hq1,hq2,⟨g0,g1,rfl,_⟩,⟨g2,g3,rfl,_⟩,g4,g5,rfl,_⟩:=hfv;clear hq1 hq2;clear p0 p1 p2 p3 p4 p5 p6 p7 p8 p9 p10 p11 p12 p13;have p0:w1.cell? ⟨w.heap.size,0,none⟩=some c0:=HQQ.out _ hb1 0 _ rfl;have p1:w1.cell? ⟨w.heap.size,1,none⟩=some c1:=HQQ.out _ hb1 1 _ rfl;have p2:w1.cell? ⟨w.heap.size,2,none⟩=some c2:=HQQ.out _ hb1 2 _ rfl;have p3:w1.cell? ⟨w.heap.size,3,none⟩=some d0:=HQQ.out _ hb1 3 _ rfl;have p4:w1.cell? ⟨w.heap.size,4,none⟩=some (.int .i64 r):=HQQ.out _ hb1 4 _ rfl;have p5:w1.cell? ⟨w.heap.size,5,none⟩=some (.int .i64 s):=HQQ.out _ hb1 5 _ rfl;have p6:w1.cell? ⟨w.heap.size,6,none⟩=some d3:=HQQ.out _ hb1 6 _ rfl;have p7:w1.cell? ⟨w.heap.size,7,none⟩=some d4:=HQQ.out _ hb1 7 _ rfl;have p8:w1.cell? ⟨w.heap.size,8,none⟩=some (.int .i64 op):=HQQ.out _ hb1 8 _ rfl;have p9:w1.cell? ⟨w.heap.size,9,none⟩=some (.int .i64 a):=HQQ.out _ hb1 9 _ rfl;have p10:w1.cell? ⟨w.heap.size,10,none⟩=some (.int .i64 b):=HQQ.out _ hb1 10 _ rfl;have p11:w1.cell? ⟨w.heap.size,11,none⟩=some (.int .i64 c):=HQQ.out _ hb1 11 _ rfl;have p12:w1.cell? ⟨w.heap.size,12,none⟩=some (.int .i64 fn):=HQQ.out _ hb1 12 _ rfl;have p13:w1.cell? ⟨w.heap.size,13,none⟩=some (.int .i64 pc):=HQQ.out _ hb1 13 _ rfl;have z0:=World.block_lt p0;have hB2:=HC0.out.trans (((hb1.trans ((Below.refl w1.heap.size w1).alloc (Nat.le_refl _) (.cells #[.slice g0 G.args.length g1,.int .i64 gr,.int .i64 gs,.slice g2 G.objects.length g3,.slice g4 G.code.length g5] 36) |>.mono hb1.size))).mono HC0.out.size);clear hb1;have HB2:=k_ hB2;clear hB2
 go_upto_region 2 with fail
 by_cases h1:op=22
 ·subst h1
  by_cases h2:r=0
  ·subst h2
   go_wp2_with fail
   go_ret
   exact⟨by simp[*],HB2.out⟩
  ·have h2':(r == 0)=false:=by simpa using h2
   clear h2;go_wp2_with fail
   go_ret
   exact⟨by simp[*],HB2.out⟩
 ·have h1':(op == 22)=false:=by simpa using h1
  clear h1
  by_cases h3:op=21
  ·subst h3
   cases is
   ·skip
    go_wp2_with fail
    go_ret
    exact⟨by simp[*],HB2.out⟩
   ·by_cases h4:gr=0
    ·subst h4
     go_wp2_with fail
     go_ret
     exact⟨by simp[*],HB2.out⟩
    ·have h4':(gr == 0)=false:=by simpa using h4
     clear h4;go_wp2_with fail
     go_ret
     exact⟨by simp[*],HB2.out⟩
  ·have h3':(op == 21)=false:=by simpa using h3
   clear h3;go_wp2_with fail
   go_ret
   exact⟨by simp[*],HB2.out⟩
theorem form_any (w:World) (D:Nat→Prop) (hD:∀ k,D k→k<w.heap.size) (p:Prg) (c0 c1 c2 d0 d3 d4:Value) (r s:Int) (i:Ins) (fn pc:Int) (hv:PrgVal w D p c0 c1 c2) (hd0:d0.oneCell'=true) (hd3:d3.oneCell'=true) (hd4:d4.oneCell'=true) :
  Calls Tryz.prog 237 #[.agg (lookC c0 c1 c2 d0 d3 d4 r s i fn pc)] w fun e w'=>e=.returned (.bool (knownS i.op && mayB i.a ((usesS i.op).1 && !quietV p r i) && mayB i.b (usesS i.op).2.1 && mayB i.c (usesS i.op).2.2))∧Below w.heap.size w w':=by
 obtain⟨op,a,b,c⟩:=i;have qu:=fun W h1 h2=>quiet_any W D h1 p c0 c1 c2 d0 d3 d4 r s ⟨op,a,b,c⟩ fn pc h2 hd0 hd3 hd4
 have hC0:=(Below.refl w.heap.size w).alloc (Nat.le_refl _) (.cells (lookC c0 c1 c2 d0 d3 d4 r s ⟨op,a,b,c⟩ fn pc) 311);have hbx:=box1 w (lookC c0 c1 c2 d0 d3 d4 r s ⟨op,a,b,c⟩ fn pc) 311 _ (Below.refl _ _);have hz0:(w.alloc (.cells (lookC c0 c1 c2 d0 d3 d4 r s ⟨op,a,b,c⟩ fn pc) 311)).heap.size=w.heap.size+1:=by simp
 obtain⟨W,hW⟩:∃ W,W=w.alloc (.cells (lookC c0 c1 c2 d0 d3 d4 r s ⟨op,a,b,c⟩ fn pc) 311):=⟨_,rfl⟩;rw[← hW] at hC0 hbx hz0;have q:∀ W',Below W.heap.size W W'→∀ j u,(lookC c0 c1 c2 d0 d3 d4 r s ⟨op,a,b,c⟩ fn pc)[j]?=some u→W'.cell? ⟨w.heap.size,j,none⟩=some u:=fun W' h j u hj=>below_cell h (hbx.1 j u hj)
 clear hbx;have HW:=k_ hW;clear hW;have hvW:∀ W',Below W.heap.size W W'→PrgVal W' D p c0 c1 c2:=fun W' h=>hv.fr (Fr.of_below (hC0.trans (h.mono hC0.size)) (fun _=>False)) (fun _ _ h=>h)
 have hDW:∀ k,D k→k<W.heap.size:=fun k hk=>by have:=hD k hk;omega
 have HQQ:=k_ q;clear q;have HC0:=k_ hC0;clear hC0;have HVW:=k_ hvW;clear hvW;have HDW:=k_ hDW;clear hDW;have HZ0:=k_ hz0;clear hz0
 dsimp only
 have us:=fun W=>uses_any W op
 unfold UsesSaid at us;have kn:=known_any op;generalize usesS op=U at *;obtain⟨v0,v1,v2⟩:=U;generalize knownS op=kb at *;generalize quietV p r ⟨op,a,b,c⟩=qb at *
 dsimp only at us ⊢
 have QU:=k_ (qu W HDW.out (HVW.out W (Below.refl _ _)));clear qu hv hD;have US:=k_ us;clear us;have KN:=k_ kn;clear kn;unfold lookC mayB at *
 go_enter Tryz.func237,Tryz.ntmps237
 go_upto_region 1 with fail
 rw[← HW.out];have p0:W.cell? ⟨w.heap.size,0,none⟩=some c0:=HQQ.out _ (Below.refl _ _) 0 _ rfl;have p1:W.cell? ⟨w.heap.size,1,none⟩=some c1:=HQQ.out _ (Below.refl _ _) 1 _ rfl;have p2:W.cell? ⟨w.heap.size,2,none⟩=some c2:=HQQ.out _ (Below.refl _ _) 2 _ rfl;have p3:W.cell? ⟨w.heap.size,3,none⟩=some d0:=HQQ.out _ (Below.refl _ _) 3 _ rfl;have p4:W.cell? ⟨w.heap.size,4,none⟩=some (.int .i64 r):=HQQ.out _ (Below.refl _ _) 4 _ rfl;have p5:W.cell? ⟨w.heap.size,5,none⟩=some (.int .i64 s):=HQQ.out _ (Below.refl _ _) 5 _ rfl;have p6:W.cell? ⟨w.heap.size,6,none⟩=some d3:=HQQ.out _ (Below.refl _ _) 6 _ rfl;have p7:W.cell? ⟨w.heap.size,7,none⟩=some d4:=HQQ.out _ (Below.refl _ _) 7 _ rfl;have p8:W.cell? ⟨w.heap.size,8,none⟩=some (.int .i64 op):=HQQ.out _ (Below.refl _ _) 8 _ rfl;have p9:W.cell? ⟨w.heap.size,9,none⟩=some (.int .i64 a):=HQQ.out _ (Below.refl _ _) 9 _ rfl;have p10:W.cell? ⟨w.heap.size,10,none⟩=some (.int .i64 b):=HQQ.out _ (Below.refl _ _) 10 _ rfl;have p11:W.cell? ⟨w.heap.size,11,none⟩=some (.int .i64 c):=HQQ.out _ (Below.refl _ _) 11 _ rfl;have p12:W.cell? ⟨w.heap.size,12,none⟩=some (.int .i64 fn):=HQQ.out _ (Below.refl _ _) 12 _ rfl;have p13:W.cell? ⟨w.heap.size,13,none⟩=some (.int .i64 pc):=HQQ.out _ (Below.refl _ _) 13 _ rfl;go_wp2_with fail;refine(US.out _).mono ?_;rintro e w1 ⟨rfl,rfl⟩
 cases v0
 ·have HB2:=k_ HC0.out
  go_wp2_with fail
  cases kb
  ·skip
   refine(KN.out _).mono ?_;rintro e wq ⟨rfl,rfl⟩;go_wp2_with fail
   go_ret
   exact⟨by simp[*],HB2.out⟩
  ·skip
   by_cases ha:a=0
   ·subst ha
    cases v1
    ·by_cases hb:b=0
     ·subst hb
      cases v2
      ·by_cases hc:c=0
       ·subst hc
        refine(KN.out _).mono ?_;rintro e wq ⟨rfl,rfl⟩;go_wp2_with fail
        go_ret
        exact⟨by simp[*],HB2.out⟩
       ·have hc':(c == 0)=false:=by simpa using hc
        clear hc;refine(KN.out _).mono ?_;rintro e wq ⟨rfl,rfl⟩;go_wp2_with fail
        go_ret
        exact⟨by simp[*],HB2.out⟩
      ·skip
       refine(KN.out _).mono ?_;rintro e wq ⟨rfl,rfl⟩;go_wp2_with fail
       go_ret
       exact⟨by simp[*],HB2.out⟩
     ·have hb':(b == 0)=false:=by simpa using hb
      clear hb;refine(KN.out _).mono ?_;rintro e wq ⟨rfl,rfl⟩;go_wp2_with fail
      go_ret
      exact⟨by simp[*],HB2.out⟩
    ·skip
     cases v2
     ·by_cases hc:c=0
      ·subst hc
       refine(KN.out _).mono ?_;rintro e wq ⟨rfl,rfl⟩;go_wp2_with fail
       go_ret
       exact⟨by simp[*],HB2.out⟩
      ·have hc':(c == 0)=false:=by simpa using hc
       clear hc;refine(KN.out _).mono ?_;rintro e wq ⟨rfl,rfl⟩;go_wp2_with fail
       go_ret
       exact⟨by simp[*],HB2.out⟩
     ·skip
      refine(KN.out _).mono ?_;rintro e wq ⟨rfl,rfl⟩;go_wp2_with fail
      go_ret
      exact⟨by simp[*],HB2.out⟩
   ·have ha':(a == 0)=false:=by simpa using ha
    clear ha;refine(KN.out _).mono ?_;rintro e wq ⟨rfl,rfl⟩;go_wp2_with fail
    go_ret
    exact⟨by simp[*],HB2.out⟩
 ·go_wp2_with fail
  refine QU.out.mono ?_;rintro e w1 ⟨rfl,hb1⟩;have HB2:=k_ (HC0.out.trans (hb1.mono HC0.out.size));clear p0 p1 p2 p3 p4 p5 p6 p7 p8 p9 p10 p11 p12 p13;have p0:w1.cell? ⟨w.heap.size,0,none⟩=some c0:=HQQ.out _ hb1 0 _ rfl;have p1:w1.cell? ⟨w.heap.size,1,none⟩=some c1:=HQQ.out _ hb1 1 _ rfl;have p2:w1.cell? ⟨w.heap.size,2,none⟩=some c2:=HQQ.out _ hb1 2 _ rfl;have p3:w1.cell? ⟨w.heap.size,3,none⟩=some d0:=HQQ.out _ hb1 3 _ rfl;have p4:w1.cell? ⟨w.heap.size,4,none⟩=some (.int .i64 r):=HQQ.out _ hb1 4 _ rfl;have p5:w1.cell? ⟨w.heap.size,5,none⟩=some (.int .i64 s):=HQQ.out _ hb1 5 _ rfl;have p6:w1.cell? ⟨w.heap.size,6,none⟩=some d3:=HQQ.out _ hb1 6 _ rfl;have p7:w1.cell? ⟨w.heap.size,7,none⟩=some d4:=HQQ.out _ hb1 7 _ rfl;have p8:w1.cell? ⟨w.heap.size,8,none⟩=some (.int .i64 op):=HQQ.out _ hb1 8 _ rfl;have p9:w1.cell? ⟨w.heap.size,9,none⟩=some (.int .i64 a):=HQQ.out _ hb1 9 _ rfl;have p10:w1.cell? ⟨w.heap.size,10,none⟩=some (.int .i64 b):=HQQ.out _ hb1 10 _ rfl;have p11:w1.cell? ⟨w.heap.size,11,none⟩=some (.int .i64 c):=HQQ.out _ hb1 11 _ rfl;have p12:w1.cell? ⟨w.heap.size,12,none⟩=some (.int .i64 fn):=HQQ.out _ hb1 12 _ rfl;have p13:w1.cell? ⟨w.heap.size,13,none⟩=some (.int .i64 pc):=HQQ.out _ hb1 13 _ rfl;clear hb1;go_wp2_with fail
  cases qb
  ·skip
   cases kb
   ·skip
    refine(KN.out _).mono ?_;rintro e wq ⟨rfl,rfl⟩;go_wp2_with fail
    go_ret
    exact⟨by simp[*],HB2.out⟩
   ·skip
    cases v1
    ·by_cases hb:b=0
     ·subst hb
      cases v2
      ·by_cases hc:c=0
       ·subst hc
        refine(KN.out _).mono ?_;rintro e wq ⟨rfl,rfl⟩;go_wp2_with fail
        go_ret
        exact⟨by simp[*],HB2.out⟩
       ·have hc':(c == 0)=false:=by simpa using hc
        clear hc;refine(KN.out _).mono ?_;rintro e wq ⟨rfl,rfl⟩;go_wp2_with fail
        go_ret
        exact⟨by simp[*],HB2.out⟩
      ·skip
       refine(KN.out _).mono ?_;rintro e wq ⟨rfl,rfl⟩;go_wp2_with fail
       go_ret
       exact⟨by simp[*],HB2.out⟩
     ·have hb':(b == 0)=false:=by simpa using hb
      clear hb;refine(KN.out _).mono ?_;rintro e wq ⟨rfl,rfl⟩;go_wp2_with fail
      go_ret
      exact⟨by simp[*],HB2.out⟩
    ·skip
     cases v2
     ·by_cases hc:c=0
      ·subst hc
       refine(KN.out _).mono ?_;rintro e wq ⟨rfl,rfl⟩;go_wp2_with fail
       go_ret
       exact⟨by simp[*],HB2.out⟩
      ·have hc':(c == 0)=false:=by simpa using hc
       clear hc;refine(KN.out _).mono ?_;rintro e wq ⟨rfl,rfl⟩;go_wp2_with fail
       go_ret
       exact⟨by simp[*],HB2.out⟩
     ·skip
      refine(KN.out _).mono ?_;rintro e wq ⟨rfl,rfl⟩;go_wp2_with fail
      go_ret
      exact⟨by simp[*],HB2.out⟩
  ·skip
   cases kb
   ·skip
    refine(KN.out _).mono ?_;rintro e wq ⟨rfl,rfl⟩;go_wp2_with fail
    go_ret
    exact⟨by simp[*],HB2.out⟩
   ·skip
    by_cases ha:a=0
    ·subst ha
     cases v1
     ·by_cases hb:b=0
      ·subst hb
       cases v2
       ·by_cases hc:c=0
        ·subst hc
         refine(KN.out _).mono ?_;rintro e wq ⟨rfl,rfl⟩;go_wp2_with fail
         go_ret
         exact⟨by simp[*],HB2.out⟩
        ·have hc':(c == 0)=false:=by simpa using hc
         clear hc;refine(KN.out _).mono ?_;rintro e wq ⟨rfl,rfl⟩;go_wp2_with fail
         go_ret
         exact⟨by simp[*],HB2.out⟩
       ·skip
        refine(KN.out _).mono ?_;rintro e wq ⟨rfl,rfl⟩;go_wp2_with fail
        go_ret
        exact⟨by simp[*],HB2.out⟩
      ·have hb':(b == 0)=false:=by simpa using hb
       clear hb;refine(KN.out _).mono ?_;rintro e wq ⟨rfl,rfl⟩;go_wp2_with fail
       go_ret
       exact⟨by simp[*],HB2.out⟩
     ·skip
      cases v2
      ·by_cases hc:c=0
       ·subst hc
        refine(KN.out _).mono ?_;rintro e wq ⟨rfl,rfl⟩;go_wp2_with fail
        go_ret
        exact⟨by simp[*],HB2.out⟩
       ·have hc':(c == 0)=false:=by simpa using hc
        clear hc;refine(KN.out _).mono ?_;rintro e wq ⟨rfl,rfl⟩;go_wp2_with fail
        go_ret
        exact⟨by simp[*],HB2.out⟩
      ·skip
       refine(KN.out _).mono ?_;rintro e wq ⟨rfl,rfl⟩;go_wp2_with fail
       go_ret
       exact⟨by simp[*],HB2.out⟩
    ·have ha':(a == 0)=false:=by simpa using ha
     clear ha;refine(KN.out _).mono ?_;rintro e wq ⟨rfl,rfl⟩;go_wp2_with fail
     go_ret
     exact⟨by simp[*],HB2.out⟩
end Go.Proofs.YtbkkhmafheimfaaGreatDoor
