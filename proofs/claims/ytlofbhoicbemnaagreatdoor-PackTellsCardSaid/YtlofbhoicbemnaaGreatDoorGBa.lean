/- Walks: a step that turns the task's kept values too. Walk: Task.Life of any task without deferred calls, frame by frame. -/
import Derived.Test.YtlofbhoicbemnaaGreatDoorGAz
set_option linter.unusedVariables false
set_option linter.unusedSimpArgs false
set_option maxRecDepth 100000
set_option maxHeartbeats 3200000
namespace Go.Proofs.YtlofbhoicbemnaaGreatDoor.Tk
open Go.ChangeShapes Go.WideShapes Go.ChangeAt Go.RowKit Go.Maps
theorem C9 (w:World) (F:Nat→Prop) (tb:Nat) (p:TPrg) (T:Tk) (X:TB) (h:TaskAt w F tb p T X) (hn:T.parts.length≤1000) (hm:iK T.marks X.al=0) (hml:T.marks.length≤10000) (hal:X.al.length≤10000) (P:List Part) (q:Part) (hP:T.parts=P ++ [q])
  (D:Nat→Prop) (hD:∀ k,D k→¬ F k∧k<w.heap.size) (pr:Prg) (c0 c1 c2:Value) (ma:Option Addr) (hv:aD w D pr c0 c1 c2) (j:Nat) (hj:j<pr.funcs.length) (hfj:q.fn=j) (pc:Nat) (hpc:q.pc=pc) (hpl:pc<pr.funcs[j].code.length) (i:Ins) (hi:pr.funcs[j].code[pc]=i)
  (X1:TB) (hX1:X1.D=X.D) (T':Tk) (al:List Alarm) (kf:{ x:Int × Int // aJ x.1∧aJ x.2 }→Option Int) (k a f v fn:Int) (b:Bool) (r0:Option Addr) (r1 r2:Nat) (RUN:∀ wr,Below w.heap.size w wr→Calls Tryz.prog 177 #[.agg (aV c0 c1 c2 (.pointer ma) tb i.op i.a i.b i.c)] wr (aW wr F tb p X1 T' al kf (bA k a f v fn b (.slice r0 r1 r2)))) :
  Calls Tryz.prog 126 #[.agg #[c0,c1,c2],.pointer ma,.pointer (some ⟨tb,0,none⟩)] w (aW w F tb p X1 T' al kf (bA k a f v fn b (.slice r0 r1 r2))):=by
 have hv0:=hv;obtain⟨⟨a0,m0,rfl,_⟩,⟨a1,m1,rfl,_⟩,a2,m2,rfl,hfn⟩:=hv;have hb0:=((Below.refl w.heap.size w).alloc (Nat.le_refl _) (.cells #[.slice a0 pr.globals.length m0,.slice a1 pr.shapes.length m1,.slice a2 pr.funcs.length m2] 48));have hb1:=hb0.alloc hb0.size bB;have hr0:=aU (ai w (.cells #[.slice a0 pr.globals.length m0,.slice a1 pr.shapes.length m1,.slice a2 pr.funcs.length m2] 48)) bB;have hr1:=ai (w.alloc (.cells #[.slice a0 pr.globals.length m0,.slice a1 pr.shapes.length m1,.slice a2 pr.funcs.length m2] 48)) bB;rw[show (w.alloc (.cells #[.slice a0 pr.globals.length m0,.slice a1 pr.shapes.length m1,.slice a2 pr.funcs.length m2] 48)).heap.size=w.heap.size+1 from by simp] at hr1;obtain⟨W,hW⟩:∃ W,W=(w.alloc (.cells #[.slice a0 pr.globals.length m0,.slice a1 pr.shapes.length m1,.slice a2 pr.funcs.length m2] 48)).alloc bB:=⟨_,rfl⟩;rw[← hW] at hb1 hr0 hr1;have hT:=h.below hb1;have hl:T.parts.length=P.length+1:=by rw[hP];simp
 have e0:(T.parts[P.length]'(by omega))=q:=by simp only[hP];simp
 have nx:=iA W F tb p T X hT hml hal;rw[hm] at nx;have fnc:=fun wr (hw:Below w.heap.size w wr)=>qX wr F tb p T X (h.below hw) hn P.length hl
 have pcc:=fun wr (hw:Below w.heap.size w wr)=>qV wr F tb p T X (h.below hw) hn P.length hl
 rw[e0,hfj] at fnc;rw[e0,hpc] at pcc;obtain⟨bb,o,rfl,hdb,y0,y1,y2,y3,y4,g0,g1,g2,g3,g4,hfv⟩:=hfn j hj;obtain⟨_,_,_,_,ac,cc,rfl,hcode⟩:=hfv;obtain⟨cb,co,rfl,hdc,x0,x1,x2,x3⟩:=hcode pc hpl;rw[hi] at x0 x1 x2 x3;have hbo:=hD _ hdb;have hco:=hD _ hdc;have hflt:=h.flt;have hout:=fun k (hk:X.D k)=>(h.out k hk).2
 have hcs:∀ wx,Below w.heap.size w wx→wx.cell? ⟨bb,o+j * 5+4,none⟩=some (.slice (some ⟨cb,co,none⟩) pr.funcs[j].code.length cc)∧wx.cell? ⟨cb,co+pc * 4,none⟩=some (.int .i64 i.op)∧wx.cell? ⟨cb,co+pc * 4+1,none⟩=some (.int .i64 i.a)∧wx.cell? ⟨cb,co+pc * 4+2,none⟩=some (.int .i64 i.b)∧wx.cell? ⟨cb,co+pc * 4+3,none⟩=some (.int .i64 i.c):=fun wx hw=>⟨ae hw g4,ae hw x0,ae hw x1,ae hw x2,ae hw x3⟩
 have hj0:(0:Int)≤(j:Int):=by omega
 have hj1:(j:Int)<(pr.funcs.length:Int):=by omega
 have hp0:(0:Int)≤(pc:Int):=by omega
 have hp1:(pc:Int)<(pr.funcs[j].code.length:Int):=by omega
 unfold bB at hW hr1;have HW:=k_ hW;clear hb0 hW hT hl e0 h hn hm hml hP hfj hpc hi hv0 hfn g0 g1 g2 g3 g4 x0 x1 x2 x3 hdb hdc hD hpl;generalize pr.funcs[j].code.length=cl at *;have FNC:=k_ fnc;clear fnc;have PCC:=k_ pcc;clear pcc;have RUNX:=k_ RUN;clear RUN;have NX:=k_ nx;clear nx;have HB1:=k_ hb1;clear hb1;have HR1:=k_ hr1;clear hr1;have HR0:=k_ hr0;clear hr0;have HBO:=k_ hbo;clear hbo;have HCO:=k_ hco;clear hco;have HFLT:=k_ hflt;clear hflt;have HOUT:=k_ hout;clear hout;have HCS:=k_ hcs;clear hcs;unfold aV at RUNX
 go_enter Tryz.func126,Tryz.ntmps126
 go_upto_region 1 with fail
 rw[← HW.out];go_wp2_with fail;refine NX.out.mono ?_;rintro e w3 ⟨rfl,hb3⟩;have hb13:=HB1.out.trans (hb3.mono HB1.out.size);have hsz:w.heap.size+2≤w3.heap.size:=Nat.le_trans (aj HR1.out) hb3.size;have HBD:=k_ (fun k=>below_drewN hb13 k);have hro3:=(fb_ hb3).heap HR0.out (fun h=>h);have hr3:=(fb_ hb3).heap HR1.out (fun h=>h);have HRG:=k_ (fun k=>(Fr.of_below (below_drewN (Below.refl w3.heap.size w3) k) (fun _=>False)).heap hr3 (fun h=>h));have HSZ:=k_ (fun k=>Nat.le_trans hsz (below_drewN (Below.refl w3.heap.size w3) k).size);have HSG:=k_ (show ∀ k,(w3.drewN k).cell? ⟨w.heap.size,0,none⟩=some (.slice a0 pr.globals.length m0)∧(w3.drewN k).cell? ⟨w.heap.size,1,none⟩=some (.slice a1 pr.shapes.length m1)∧(w3.drewN k).cell? ⟨w.heap.size,2,none⟩=some (.slice (some ⟨bb,o,none⟩) pr.funcs.length m2)∧(w3.drewN k).cell? ⟨bb,o+j * 5+4,none⟩=some (.slice (some ⟨cb,co,none⟩) cl cc)∧(w3.drewN k).cell? ⟨cb,co+pc * 4,none⟩=some (.int .i64 i.op)∧(w3.drewN k).cell? ⟨cb,co+pc * 4+1,none⟩=some (.int .i64 i.a)∧(w3.drewN k).cell? ⟨cb,co+pc * 4+2,none⟩=some (.int .i64 i.b)∧(w3.drewN k).cell? ⟨cb,co+pc * 4+3,none⟩=some (.int .i64 i.c) from fun k=>by
  have hk:=(Fr.of_below (below_drewN (Below.refl w3.heap.size w3) k) (fun _=>False)).heap hro3 (fun h=>h);exact⟨(aa hk 0).1,(aa hk 1).1,(aa hk 2).1,HCS.out _ (below_drewN hb13 k)⟩)
 have hSd:=HSG.out 1;rw[show w3.drewN 1=w3.drew from rfl] at hSd;have HR0:=k_ (show Below w.heap.size w w3.drew from HBD.out 1);have k3:w3.cell? ⟨w.heap.size,2,none⟩=some (.slice (some ⟨bb,o,none⟩) pr.funcs.length m2):=(aa hro3 2).1;clear hb3 hb13 hsz hro3 hr3 NX
 go_upto_region 11 with fail
 clear k3
 go_region_held3 (fun w'=>w'.cell? ⟨w.heap.size,0,none⟩=some (.slice a0 pr.globals.length m0)∧w'.cell? ⟨w.heap.size,1,none⟩=some (.slice a1 pr.shapes.length m1)∧w'.cell? ⟨w.heap.size,2,none⟩=some (.slice (some ⟨bb,o,none⟩) pr.funcs.length m2)∧w'.cell? ⟨bb,o+j * 5+4,none⟩=some (.slice (some ⟨cb,co,none⟩) cl cc)∧w'.cell? ⟨cb,co+pc * 4,none⟩=some (.int .i64 i.op)∧w'.cell? ⟨cb,co+pc * 4+1,none⟩=some (.int .i64 i.a)∧w'.cell? ⟨cb,co+pc * 4+2,none⟩=some (.int .i64 i.b)∧w'.cell? ⟨cb,co+pc * 4+3,none⟩=some (.int .i64 i.c)) (first | with_reducible exact HSG.out _ | with_reducible exact hSd | with_reducible exact hS5 | with_reducible exact hS7 | go_keep) (first
  | (go_at_call 175
     refine(FNC.out _ HR0.out).mono ?_;rintro e w4 ⟨rfl,m,rfl⟩)
  | (go_at_call 176
     refine(PCC.out _ (HBD.out _)).mono ?_;rintro e w4 ⟨rfl,m',rfl⟩)
  | (go_at_call 177
     refine(RUNX.out _ (HBD.out _)).mono ?_;rintro e w5 ⟨rfl,F',X',hT',hXD,hF',hf5⟩;have hlow:=HSZ.out (1+m+m');have hr5:=hf5.heap (HRG.out _) (fun e=>by have:=HFLT.out (w.heap.size+1) e;omega);obtain⟨u0,u1,u2,u3,u4,u5,u6,u7⟩:=HSG.out (1+m+m');have hS5:=And.intro (hf5.cell u0 (fun e=>Nat.lt_irrefl _ (HFLT.out w.heap.size e))) (And.intro (hf5.cell u1 (fun e=>Nat.lt_irrefl _ (HFLT.out w.heap.size e))) (And.intro (hf5.cell u2 (fun e=>Nat.lt_irrefl _ (HFLT.out w.heap.size e))) (And.intro (hf5.cell u3 HBO.out.1) (And.intro (hf5.cell u4 HCO.out.1) (And.intro (hf5.cell u5 HCO.out.1) (And.intro (hf5.cell u6 HCO.out.1) (hf5.cell u7 HCO.out.1)))))));have HFW:=k_ ((Fr.of_below (HBD.out (1+m+m')) F).trans hf5 (fun _ _ h=>h));have hfs:=bO w5 (.int .i64 k) (.int .i64 a) (.int .i64 f) (.int .i64 v) (.int .i64 fn) (.bool b) (.slice r0 r1 r2) (w.heap.size+1);have nz0:¬ w.heap.size=w.heap.size+1:=by omega
     have nz1:¬ bb=w.heap.size+1:=by have:=HBO.out.2;omega
     have nz2:¬ cb=w.heap.size+1:=by have:=HCO.out.2;omega
     have hS7:=And.intro (hfs.cell hS5.1 nz0) (And.intro (hfs.cell hS5.2.1 nz0) (And.intro (hfs.cell hS5.2.2.1 nz0) (And.intro (hfs.cell hS5.2.2.2.1 nz1) (And.intro (hfs.cell hS5.2.2.2.2.1 nz2) (And.intro (hfs.cell hS5.2.2.2.2.2.1 nz2) (And.intro (hfs.cell hS5.2.2.2.2.2.2.1 nz2) (hfs.cell hS5.2.2.2.2.2.2.2 nz2)))))));clear u0 u1 u2 u3 u4 u5 u6 u7 hf5 hfs;obtain⟨⟨z0,z1,z2,z3,z4,z5,z6⟩,n0,n1,n2,n3,n4,n5,n6⟩:=aX hr5;unfold bA))
 all_goals
  have hfs:=bO w5 (.int .i64 k) (.int .i64 a) (.int .i64 f) (.int .i64 v) (.int .i64 fn) (.bool b) (.slice r0 r1 r2) (w.heap.size+1);have hrs:=bN hr5 (.int .i64 k) (.int .i64 a) (.int .i64 f) (.int .i64 v) (.int .i64 fn) (.bool b) (.slice r0 r1 r2);have hFz:∀ q,F' q→q≠w.heap.size+1:=fun q hq e=>by
   rcases hF' q hq with h1 | h1
   ·have:=HFLT.out q h1;omega
   ·omega
  have hT5:=hT'.fr hfs (fun q hq e=>hFz q hq e) (fun q hq e=>by rw[hXD.1,hX1] at hq;have:=HOUT.out q hq;have e:q=w.heap.size+1:=e;omega);have hf6:=HFW.out.trans hfs (fun q hq e=>by have e:q=w.heap.size+1:=e;omega);have hF6:∀ q,F' q→F q∨w.heap.size≤q:=fun q hq=>by
   rcases hF' q hq with h1 | h1
   ·exact .inl h1
   ·exact .inr (by omega)
  have HPP:=k_ (show aW w F tb p X1 T' al kf (bA k a f v fn b (.slice r0 r1 r2)) _ _ from⟨rfl,F',X',hT5,hXD,hF6,hf6⟩);clear hfs hr5 hT' hT5 hf6 hF6 hFz hF' hS5 hS7 hXD hlow z0 z1 z2 z3 z4 z5 z6 n0 n1 n2 n3 n4 n5 n6;have HRS:=k_ hrs;clear hrs;go_wp2_with fail;refine bodyPost_ret ?_ rfl HPP.out;have k0:=(aa HRS.out 0).1;have k1:=(aa HRS.out 1).1;have k2:=(aa HRS.out 2).1;have k3:=(aa HRS.out 3).1;have k4:=(aa HRS.out 4).1;have k5:=(aa HRS.out 5).1;have k6:=(aa HRS.out 6).1;simp at k0 k1 k2 k3 k4 k5 k6;simp[results,Tryz.results126,go_sem,k0,k1,k2,k3,k4,k5,k6,bA]
noncomputable def lX (kf:{ x:Int × Int // aJ x.1∧aJ x.2 }→Option Int) (d:Nat):Int × Bool:=by
 classical
 exact if h:aJ (d:Int)∧aJ 0 then (match kf ⟨((d:Int),(0:Int)),h⟩ with | some v=>(v,true) | none=>(0,false)) else (0,false)
theorem FH (kf:{ x:Int × Int // aJ x.1∧aJ x.2 }→Option Int) (d:Nat) (h:aJ (d:Int)∧aJ 0):(kf ⟨((d:Int),(0:Int)),h⟩=some (lX kf d).1∧(lX kf d).2=true)∨(kf ⟨((d:Int),(0:Int)),h⟩=none∧(lX kf d).1=0∧(lX kf d).2=false):=by
 unfold lX;rw[dif_pos h]
 cases kf ⟨((d:Int),(0:Int)),h⟩ <;> simp
def SPT (T:Tk) (kf:{ x:Int × Int // aJ x.1∧aJ x.2 }→Option Int) (d:Nat) (s:SpotV):Prop:=∃ q m,T.parts[d]?=some q∧T.marks[d]?=some m∧s.x0=q.fn∧s.x1=q.pc∧s.x2=q.base∧s.b3=m.leaving∧s.b4=decide (0<q.tn)∧s.x5=(lX kf d).1∧s.b6=(lX kf d).2
def Fits (p:TPrg) (T:Tk) (sl:Nat→Nat):Prop:=T.marks.length=T.parts.length∧∀ d (hd:d<T.parts.length),∃ j:Nat,∃ hj:j<p.funcs.length,T.parts[d].fn=j∧p.funcs[j].slots=sl d∧∃ bn:Nat,T.parts[d].base=bn∧bn+aT p j≤T.words.length
def sF (p:TPrg) (T:Tk) (sl:Nat→Nat) (d:Nat):List Int:=kJ T.words ((T.parts[d]?.map Part.base).getD 0).toNat.succ.succ (sl d)
def lS (p:TPrg) (T:Tk) (sl:Nat→Nat) (d:Nat):List Int:=kJ T.words (((T.parts[d]?.map Part.base).getD 0).toNat+(2+sl d)) (aT p ((T.parts[d]?.map Part.fn).getD 0) - (2+sl d))
theorem Cz {w:World} {F:Nat→Prop} {tb:Nat} {p:TPrg} {T:Tk} {X:TB} (h:TaskAt w F tb p T X) (hp:eG p) (ht:jL T) (sl:Nat→Nat) (hf:Fits p T sl) (wr:World) (hw:Below w.heap.size w wr) (d:Nat) (hd:d<T.parts.length) :
  Calls Tryz.prog 240 #[.pointer (some ⟨tb,0,none⟩),.int .i64 d] wr fun e w'=>∃ s:SpotV,SPT T X.kf d ⟨s.x0,s.x1,s.x2,s.b3,s.b4,s.x5,s.b6,s.a7,sl d,s.c7,s.a8,s.n8,s.c8⟩∧e=.returned (.agg #[.int .i64 s.x0,.int .i64 s.x1,.int .i64 s.x2,.bool s.b3,.bool s.b4,.int .i64 s.x5,.bool s.b6,.slice s.a7 (sl d) s.c7,.slice s.a8 s.n8 s.c8])∧Own aG w' (wr.heap.size+1) (.slice s.a7 (sl d) s.c7) (sF p T sl d)∧Own aG w' (wr.heap.size+1) (.slice s.a8 s.n8 s.c8) (lS p T sl d)∧Below wr.heap.size wr w':=by
 obtain⟨hml,hall⟩:=hf;obtain⟨j,hj,hfj,hsl,bn,hbn,hfit⟩:=hall d hd;have hI:aJ (d:Int)∧aJ 0:=by have:=ht.1;constructor <;> unfold aJ <;> omega
 have e0:T.parts[d]?=some T.parts[d]:=List.getElem?_eq_getElem hd;have e1:T.marks[d]?=some (T.marks[d]'(by omega)):=List.getElem?_eq_getElem (by omega);refine(Dx wr F tb p T X (h.below hw) hp ht d hd (by omega) j hj hfj (sl d) hsl bn hbn hfit hI (lX X.kf d).1 (lX X.kf d).2 (FH X.kf d hI)).mono ?_;rintro e w' ⟨a7,c7,a8,n8,c8,rfl,h1,h2,hb⟩;refine⟨⟨j,T.parts[d].pc,bn,(T.marks[d]'(by omega)).leaving,decide (0<T.parts[d].tn),(lX X.kf d).1,(lX X.kf d).2,a7,sl d,c7,a8,n8,c8⟩,⟨T.parts[d],_,e0,e1,hfj.symm,rfl,hbn.symm,rfl,rfl,rfl,rfl⟩,rfl,?_,?_,hb⟩
 ·have e:sF p T sl d=kJ T.words (bn+2) (sl d):=by unfold sF;rw[e0];simp[hbn]
  rw[e];exact h1
 ·have e:lS p T sl d=kJ T.words (bn+(2+sl d)) (aT p j - (2+sl d)):=by unfold lS;rw[e0];simp[hbn,hfj]
  rw[e];exact h2
def G9 (w:World) (p:TPrg) (T:Tk) (X:TB) (sl:Nat→Nat) (e:Ending) (w':World):Prop:=∃ (fr:List SpotV) (v av:Value) (g1:Option Addr) (g2 g3:Nat),e=.returned (.agg #[.int .i64 0,.int .i64 T.base,.int .i64 T.words.length,v,.slice g1 g2 g3,av,.bool false])∧Own bG w' w.heap.size av X.al∧(∀ d (hd:d<fr.length),SPT T X.kf d fr[d])∧Own x9 w' w.heap.size v fr∧fr.length=T.parts.length∧(∀ d (hd:d<fr.length),fr[d].n7=sl d)∧nI w' w.heap.size sl fr (sF p T sl) (lS p T sl)∧Below w.heap.size w w'
theorem yJ (w:World) (F:Nat→Prop) (tb:Nat) (p:TPrg) (T:Tk) (X:TB) (h:TaskAt w F tb p T X) (hp:eG p) (ht:jL T) (sl:Nat→Nat) (hf:Fits p T sl) (hth:∀ q ∈ T.parts,q.tn=0) (hal:X.al.length≤100000) :
  Calls Tryz.prog 172 #[.pointer (some ⟨tb,0,none⟩)] w (G9 w p T X sl) :=
 Dk w F tb p T X h ht.1 hth sl (sF p T sl) (lS p T sl) (SPT T X.kf) hal (fun wr hw d hd=>Cz h hp ht sl hf wr hw d hd)
end Go.Proofs.YtlofbhoicbemnaaGreatDoor.Tk
