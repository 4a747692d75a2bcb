/- Walk: image.Copy: a program with lists of its own. -/
import Derived.Test.YtlofbhoicbemnaaGreatDoorGAj
import Derived.Deep.CutBlock
set_option linter.unusedVariables false
set_option linter.unusedSimpArgs false
set_option maxRecDepth 100000
set_option maxHeartbeats 6400000
namespace Go.Proofs.YtlofbhoicbemnaaGreatDoor
open Go.ChangeShapes Go.WideShapes Go.ChangeAt Go.RowKit
def CpS (q:Nat) (g:Value) (wr:World) (ls:List (List Int)):Prop :=
 ∃ hs n c a,wr.heap[q]?=some (.cells #[g,.slice a n c,.slice none 0 0] 48)∧iY wr q (.slice a n c) hs ls
theorem CpS.step {q:Nat} {g:Value} {wr w3 w4:World} {ls:List (List Int)} {l:List Int} {hs:List Hd} {n c n3 n4 c4:Nat} {a a3 a4:Option Addr}
  (hloc:wr.heap[q]?=some (.cells #[g,.slice a n c,.slice none 0 0] 48)) (hrow:iY wr q (.slice a n c) hs ls) (hb3:Below wr.heap.size wr w3)
  (ho3:Own aG w3 wr.heap.size (.slice a3 l.length n3) l) (ob:Obj) (ho4:Own shE w4 q (.slice a4 n4 c4) (hs ++ [⟨a3,l.length,n3⟩])) (hg4:(w3.alloc ob).grownBy w4 (Value.slice a n c).ownBlock)
  (loc4:w4.heap[q]?=some (.cells #[g,.slice a n c,.slice none 0 0] 48)) :
  CpS q g (w4.setCell ⟨q,1,none⟩ (.slice a4 n4 c4)) (ls ++ [l])∧Fr (fun k=>q≤k) wr (w4.setCell ⟨q,1,none⟩ (.slice a4 n4 c4)):=by
 have hq:=aj hloc;obtain⟨t1,t2,t3,t4,t5,t6,t7,t8,t9,t10⟩:=sJ;have h34:Fr (fun k=>(Value.slice a n c).ownBlock=some k∨k=q) w3 (w4.setCell ⟨q,1,none⟩ (.slice a4 n4 c4)) :=
  ((((Fr.refl _ _).alloc ob).grown hg4 (fun k hk _=>.inl hk)).setCell (p:=⟨q,1,none⟩) (fun _=>.inr rfl) _)
 have row3:=hrow.frT (fb_ hb3) dI.no dI.no;have loc3:=(fb_ hb3).heap hloc (fun h=>h);have ty:dI w3 (fun k=>(Value.slice a n c).ownBlock=some k∨k=q) aG.e:=(dI.own row3.1 (Ne.symm t2)).or (dI.one loc3 (Ne.symm t4));refine⟨⟨_,n4,c4,a4,ag loc4 1 _,ho4.fr (Fr.setAt w4 q 1 _) (fun k hk e=>ho4.off loc4 t9 (by unfold onB at e;rw[← e];exact hk)),by simp[hrow.2.1],?_⟩,?_⟩
 ·exact Dl (R:=fun x l=>x.n=l.length∧Own aG (w4.setCell ⟨q,1,none⟩ (.slice a4 n4 c4)) q x.val l) hrow.2.1 (fun j hj hj'=>⟨(row3.2.2 j hj hj').1,(row3.2.2 j hj hj').2.frT h34 ty⟩) ⟨rfl,(ho3.frT h34 ty).base (fun k hk=>by have:=(ho3.lt hk).1;omega)⟩
 ·exact(Fr.of_below hb3 (fun k=>q≤k)).trans h34 (fun k hk h=>by
   rcases h with h | h
   ·exact(hrow.1.lt h).1
   ·omega)
def CpF (q:Nat) (g sv:Value) (hs:List Hd) (ls:List (List Int)) (wr:World) (fs:List Fun):Prop :=
 ∃ xs n c a,wr.heap[q]?=some (.cells #[g,sv,.slice a n c] 48)∧lC wr q (.slice a n c) xs fs∧iY wr q sv hs ls
theorem CpF.step {q:Nat} {g sv:Value} {wr w3 w4:World} {hs:List Hd} {ls:List (List Int)} {fs:List Fun} {f:Fun} {xs:List FnH} {n c n4 c4:Nat} {a a4:Option Addr} {x:FnH}
  (hloc:wr.heap[q]?=some (.cells #[g,sv,.slice a n c] 48)) (hrow:lC wr q (.slice a n c) xs fs) (hsh:iY wr q sv hs ls) (hb3:Below wr.heap.size wr w3)
  (hx:lw w3 wr.heap.size x f) (ob:Obj) (ho4:Own fnE w4 q (.slice a4 n4 c4) (xs ++ [x])) (hg4:(w3.alloc ob).grownBy w4 (Value.slice a n c).ownBlock)
  (loc4:w4.heap[q]?=some (.cells #[g,sv,.slice a n c] 48)) :
  CpF q g sv hs ls (w4.setCell ⟨q,2,none⟩ (.slice a4 n4 c4)) (fs ++ [f])∧Fr (fun k=>q≤k) wr (w4.setCell ⟨q,2,none⟩ (.slice a4 n4 c4)):=by
 have hq:=aj hloc;obtain⟨t1,t2,t3,t4,t5,t6,t7,t8,t9,t10⟩:=sJ;have h34:Fr (fun k=>(Value.slice a n c).ownBlock=some k∨k=q) w3 (w4.setCell ⟨q,2,none⟩ (.slice a4 n4 c4)) :=
  ((((Fr.refl _ _).alloc ob).grown hg4 (fun k hk _=>.inl hk)).setCell (p:=⟨q,2,none⟩) (fun _=>.inr rfl) _)
 have row3:=hrow.frT (fb_ hb3) dI.no dI.no dI.no;have sh3:=hsh.frT (fb_ hb3) dI.no dI.no;have loc3:=(fb_ hb3).heap hloc (fun h=>h);have tyI:dI w3 (fun k=>(Value.slice a n c).ownBlock=some k∨k=q) aG.e:=(dI.own row3.1 (Ne.symm t3)).or (dI.one loc3 (Ne.symm t4));have tyC:dI w3 (fun k=>(Value.slice a n c).ownBlock=some k∨k=q) ig.e:=(dI.own row3.1 (Ne.symm t6)).or (dI.one loc3 (Ne.symm t7));have tyS:dI w3 (fun k=>(Value.slice a n c).ownBlock=some k∨k=q) shE.e:=(dI.own row3.1 (Ne.symm t8)).or (dI.one loc3 (Ne.symm t9));have hx4:=hx.frT h34 tyI tyC;have hbs:∀ {α:Type} {E:Elem Tryz.prog α} {W:World} {v:Value} {l:List α},Own E W wr.heap.size v l→Own E W q v l:=fun h=>h.base (fun k hk=>by have:=(h.lt hk).1;omega)
 refine⟨⟨_,n4,c4,a4,ag loc4 2 _,⟨ho4.fr (Fr.setAt w4 q 2 _) (fun k hk e=>ho4.off loc4 t10 (by unfold onB at e;rw[← e];exact hk)),by simp[hrow.2.1],?_⟩,sh3.frT h34 tyS tyI⟩,?_⟩
 ·exact yh (R:=fun x f=>lw (w4.setCell ⟨q,2,none⟩ (.slice a4 n4 c4)) q x f) hrow.2.1 (fun j hj hj'=>(row3.2.2 j hj hj').frT h34 tyI tyC) ⟨hx4.1,hx4.2.1,⟨hx4.2.2.1.1,hbs hx4.2.2.1.2⟩,⟨hx4.2.2.2.1.1,hbs hx4.2.2.2.1.2⟩,hx4.2.2.2.2.1,hbs hx4.2.2.2.2.2⟩
 ·exact(Fr.of_below hb3 (fun k=>q≤k)).trans h34 (fun k hk h=>by
   rcases h with h | h
   ·exact(hrow.1.lt h).1
   ·omega)
theorem iY.mono {w:World} {B B':Nat} {v:Value} {hs:List Hd} {ls:List (List Int)} (h:iY w B v hs ls) (hb:B'≤B):iY w B' v hs ls :=
 ⟨h.1.base (fun k hk=>Nat.le_trans hb (h.1.lt hk).1),h.2.1,fun j hj hj'=>⟨(h.2.2 j hj hj').1,(h.2.2 j hj hj').2.base (fun k hk=>Nat.le_trans hb ((h.2.2 j hj hj').2.lt hk).1)⟩⟩
theorem lw.mono {w:World} {B B':Nat} {x:FnH} {f:Fun} (h:lw w B x f) (hb:B'≤B):lw w B' x f :=
 ⟨h.1,h.2.1,⟨h.2.2.1.1,h.2.2.1.2.base (fun k hk=>Nat.le_trans hb (h.2.2.1.2.lt hk).1)⟩,⟨h.2.2.2.1.1,h.2.2.2.1.2.base (fun k hk=>Nat.le_trans hb (h.2.2.2.1.2.lt hk).1)⟩,h.2.2.2.2.1,h.2.2.2.2.2.base (fun k hk=>Nat.le_trans hb (h.2.2.2.2.2.lt hk).1)⟩
theorem lC.mono {w:World} {B B':Nat} {v:Value} {xs:List FnH} {fs:List Fun} (h:lC w B v xs fs) (hb:B'≤B):lC w B' v xs fs :=
 ⟨h.1.base (fun k hk=>Nat.le_trans hb (h.1.lt hk).1),h.2.1,fun j hj hj'=>(h.2.2 j hj hj').mono hb⟩
def ze (p:Prg) (w:World) (e:Ending) (w':World):Prop :=
 ∃ c0 c1 c2,e=.returned (.agg #[c0,c1,c2])∧AU w' w.heap.size p c0 c1 c2∧Below w.heap.size w w'
theorem BL (w:World) (D:Nat→Prop) (p:Prg) (c0 c1 c2:Value) (hv:aD w D p c0 c1 c2) (hbulk:bulk p≤3000) :
  Calls Tryz.prog 97 #[.agg #[c0,c1,c2]] w (ze p w):=by
 have hP:∀ wr,Below w.heap.size w wr→aD wr D p c0 c1 c2:=fun wr hb=>hv.fr (fb_ hb) (fun _ _ h=>h)
 obtain⟨⟨a0,m0,rfl,_⟩,⟨a1,m1,rfl,_⟩,a2,m2,rfl,_⟩:=hv;have hl0:p.globals.length≤3000∧p.shapes.length≤3000∧p.funcs.length≤3000:=by unfold bulk at hbulk;omega
 have hlS:∀ j (hj:j<p.shapes.length),p.shapes[j].length≤3000:=fun j hj=>by
  have:=iL dH p.shapes j hj;unfold bulk at hbulk;unfold dH at this hbulk;omega
 have hlF:∀ j (hj:j<p.funcs.length),cz p.funcs[j]≤3000:=fun j hj=>by
  have:=iL cz p.funcs j hj;unfold bulk at hbulk;omega
 have hb0:Below w.heap.size w ((w.alloc (.cells #[.slice a0 p.globals.length m0,.slice a1 p.shapes.length m1,.slice a2 p.funcs.length m2] 48)).alloc (.cells #[.slice none 0 0,.slice none 0 0,.slice none 0 0] 48)):=((Below.refl _ _).alloc (Nat.le_refl _) _).alloc (by simp) _;have hbx:=nz w #[.slice a0 p.globals.length m0,.slice a1 p.shapes.length m1,.slice a2 p.funcs.length m2] #[.slice none 0 0,.slice none 0 0,.slice none 0 0] 48 48;obtain⟨W0,hW0⟩:∃ W0,W0=(w.alloc (.cells #[.slice a0 p.globals.length m0,.slice a1 p.shapes.length m1,.slice a2 p.funcs.length m2] 48)).alloc (.cells #[.slice none 0 0,.slice none 0 0,.slice none 0 0] 48):=⟨_,rfl⟩;have hres0:W0.heap[w.heap.size+1]?=some (.cells #[.slice none 0 0,.slice none 0 0,.slice none 0 0] 48):=by
  rw[hW0];have:=ai (w.alloc (.cells #[.slice a0 p.globals.length m0,.slice a1 p.shapes.length m1,.slice a2 p.funcs.length m2] 48)) (.cells #[.slice none 0 0,.slice none 0 0,.slice none 0 0] 48);rw[show (w.alloc (.cells #[.slice a0 p.globals.length m0,.slice a1 p.shapes.length m1,.slice a2 p.funcs.length m2] 48)).heap.size=w.heap.size+1 from by simp] at this;exact this
 have hz0:W0.heap.size=w.heap.size+2:=by rw[hW0];simp
 rw[← hW0] at hb0 hbx;have hcl:=bX W0 D a0 p.globals m0 (by obtain⟨⟨a,c,e,h⟩,_⟩:=hP W0 hb0;injection e with e;rw[e];exact h) (by omega);obtain⟨k0,k1,k2⟩:W0.cell? ⟨w.heap.size,0,none⟩=some (.slice a0 p.globals.length m0)∧W0.cell? ⟨w.heap.size,1,none⟩=some (.slice a1 p.shapes.length m1)∧W0.cell? ⟨w.heap.size,2,none⟩=some (.slice a2 p.funcs.length m2):=by
  have h:=(hbx W0 (by rw[← hz0];exact Below.refl _ _)).1;exact⟨h 0 _ rfl,h 1 _ rfl,h 2 _ rfl⟩
 have HP:=k_ hP;clear hP;have HB0:=k_ hb0;clear hb0;have HBX:=k_ hbx;clear hbx;have HCL:=k_ hcl;clear hcl;have HRES0:=k_ hres0;clear hres0;have HLS:=k_ hlS;clear hlS;have HLF:=k_ hlF;clear hlF;have HZ0:=k_ hz0;clear hz0;have HW0:=k_ hW0
 go_enter Tryz.func97,Tryz.ntmps97
 clear hW0
 go_upto_region 1 with fail
 rw[← HW0.out];go_wp2_with fail;refine HCL.out.mono ?_;rintro e w1 ⟨v0,rfl,ho0,hb1⟩;obtain⟨ga,gc,rfl,_⟩:=bI ho0;obtain⟨q,hq⟩:∃ q,q=w1.heap.size:=⟨_,rfl⟩;have hloc:=ai w1 (.cells #[.slice ga p.globals.length gc,.slice none 0 0,.slice none 0 0] 48);have hbq:=(Below.refl w1.heap.size w1).alloc (Nat.le_refl _) (.cells #[.slice ga p.globals.length gc,.slice none 0 0,.slice none 0 0] 48);obtain⟨W2,hW2⟩:∃ W2,W2=w1.alloc (.cells #[.slice ga p.globals.length gc,.slice none 0 0,.slice none 0 0] 48):=⟨_,rfl⟩;rw[← hW2,← hq] at hloc;rw[← hW2] at hbq;have hz1:w.heap.size+2≤q:=by have:=hb1.size;have:=HZ0.out;omega
 have hz2:q<W2.heap.size:=aj hloc;have hB2:Below w.heap.size w W2:=(HB0.out.trans (hb1.mono (by have:=HZ0.out;omega))).trans (hbq.mono (by omega));have hbx2:=HBX.out W2 (by rw[← HZ0.out];exact hb1.trans (hbq.mono (by have:=HZ0.out;omega)));have hres2:W2.heap[w.heap.size+1]?=some (.cells #[.slice none 0 0,.slice none 0 0,.slice none 0 0] 48):=(fb_ hbq).heap ((fb_ hb1).heap HRES0.out (fun h=>h)) (fun h=>h);have ho2:Own aG W2 W0.heap.size (.slice ga p.globals.length gc) p.globals:=ho0.below hbq;have hq0:∀ k,(Value.slice ga p.globals.length gc).ownBlock=some k→k<q:=fun k hk=>by have:=(ho0.lt hk).2;omega
 have d1:=hbx2.1 1 _ rfl;have d2:=hbx2.1 2 _ rfl;have hbel:∀ W,Fr (fun k=>q≤k) W2 W→Below w.heap.size w W:=fun W h=>hB2.trans (h.below (by omega) (fun k hk=>by omega))
 clear hbx2 hb1 hbq ho0 k0 k1 k2;have HW2:=k_ hW2;have HQ:=k_ hq;clear hW2 hq;have HLOC:=k_ hloc;clear hloc;have HB2:=k_ hB2;clear hB2;have HRES2:=k_ hres2;clear hres2;have HO2:=k_ ho2;clear ho2;have HQ0:=k_ hq0;clear hq0;have HBEL:=k_ hbel;clear hbel
 go_upto_region 2 with fail
 rw[← HW2.out,← HQ.out];go_wp2_with fail;clear d1;have HD2:=k_ d2;clear d2
 go_loopw [15] (fun i wr=>∃ k:Nat,k≤p.shapes.length∧i=.int .i64 k∧CpS q (.slice ga p.globals.length gc) wr (p.shapes.take k)∧Fr (fun k=>q≤k) W2 wr) (fun i _=>p.shapes.length - (intOf i).toNat)
 case atStart=>exact⟨0,Nat.zero_le _,rfl,⟨[],0,0,none,HLOC.out,iY.nil _ _⟩,Fr.refl _ _⟩
 case round =>
  obtain⟨k,hk,rfl,⟨hs,n,c,a,hlocr,hrow⟩,hf⟩:=hrel
  by_cases hlt:k<p.shapes.length
  ·have hB:=HBEL.out _ hf
   obtain⟨_,⟨_,_,e1,hsl⟩,_⟩:=HP.out wr hB
   injection e1 with e1 e2 e3
   clear e2 e3;subst e1;obtain⟨b,o,rfl,_,a',c',hcell,hin⟩:=hsl k hlt;have hsn:=aK p.shapes k hlt;have hll:=HLS.out k hlt;generalize p.shapes[k]=l at *;have hlen:(p.shapes.take k).length=k:=by rw[List.length_take];omega
   have hsz:hs.length=k:=by rw[hrow.2.1,hlen]
   obtain⟨y,hy⟩:∃ y,y=wr.heap.size:=⟨_,rfl⟩;have hbs:=(Below.refl wr.heap.size wr).alloc (Nat.le_refl _) (.cells #[.slice a' l.length c'] 82);have hly:=ai wr (.cells #[.slice a' l.length c'] 82);obtain⟨wS,hwS⟩:∃ wS,wS=wr.alloc (.cells #[.slice a' l.length c'] 82):=⟨_,rfl⟩;rw[← hwS] at hbs;rw[← hwS,← hy] at hly;have hinS:=hin.fr (fb_ hbs) (fun _ _ h=>h);have CALL:=bX wS.drew _ a' l c' (hinS.fr ((Fr.refl (fun _=>False) wS).drew) (fun _ _ h=>h)) (by omega);have s0:wS.cell? ⟨y,0,none⟩=some (.slice a' l.length c'):=(aa hly 0).1;have locS:=(fb_ hbs).heap hlocr (fun h=>h);obtain⟨⟨q0,q1,q2⟩,_⟩:=aH locS;have hoS:=hrow.1.below hbs;have hzq:q<wr.heap.size:=aj hlocr;have hzS:=hbs.size;have HWS:=k_ hwS;have HY:=k_ hy;clear hwS hy hin hinS hly hsl hB;have HROW:=k_ hrow;clear hrow;have HF:=k_ hf;clear hf;have HSN:=k_ hsn;clear hsn;have HLEN:=k_ hlen;clear hlen;have HBS:=k_ hbs;clear hbs;have LOCS:=k_ locS;clear locS;have HOS:=k_ hoS;clear hoS;have HLOCR:=k_ hlocr;clear hlocr;have CALL':=k_ CALL;clear CALL q0 q2
   go_upto_region 5 with fail
   rw[← HWS.out,← HY.out];clear hcell
   go_region_law (first | (go_simp;go_at_call 108;refine CALL'.out.mono ?_;rintro e w3 ⟨v3,rfl,ho3,hb3⟩;obtain⟨a3,n3,rfl,_⟩:=bI ho3;have q1':=ae hb3 (show wS.drew.cell? _=_ from q1);have s0':=ae hb3 (show wS.drew.cell? _=_ from s0);have q1'':q<w3.heap.size:=World.block_lt q1';have s0'':y<w3.heap.size:=World.block_lt s0';have loc3:=(fb_ hb3).heap (show wS.drew.heap[q]?=_ from LOCS.out) (fun h=>h)) | (refine aS shE rfl (.tmp 20) (.tmp 25) rfl q hs [⟨a3,l.length,n3⟩] _ rfl ((HOS.out.drew.below hb3).alloc _) w3.heap.size 0 1 rfl (aA.new _ _ _ _) (by simp;omega) (by have:=aj loc3;simp;omega) ?_;intro v4 w4 ho4 hg4 hfr4;have loc4:w4.heap[q]?=some (.cells #[.slice ga p.globals.length gc,.slice a n c,.slice none 0 0] 48):=(by rw[hg4.block _ (by have:=aj loc3;simp;omega) (fun e=>HOS.out.off LOCS.out sJ.2.2.2.2.2.2.2.2.1 e.symm),Below.heap_alloc _ _ _ (aj loc3)];exact loc3);obtain⟨⟨j0,j1,j2⟩,f0,f1,f2⟩:=aH loc4;obtain⟨a4,n4,c4,rfl⟩:=ho4.slice))
   all_goals
    have hb3':Below wr.heap.size wr w3:=HBS.out.trans ((((Below.refl wS.heap.size wS).drew).trans hb3).mono hzS);have hst:=CpS.step HLOCR.out HROW.out hb3' (ho3.base (fun k hk=>by have:=(ho3.lt hk).1;have:wS.drew.heap.size=wS.heap.size:=rfl;omega)) _ ho4 hg4 loc4;have HST:=k_ hst;clear hst;clear hb3' ho3 hb3 ho4 hg4 hfr4 loc4 loc3;go_wp2_with fail
    go_roundw
    case rel=>exact⟨k+1,by omega,by go_num,by rw[HSN.out];exact HST.out.1,HF.out.trans HST.out.2 (fun _ _ h=>h)⟩
    case measure=>simp[intOf];omega
  ·have hk':k=p.shapes.length:=by omega
   subst hk';rw[List.take_length] at hrow;have d2:wr.cell? ⟨w.heap.size,2,none⟩=some (.slice a2 p.funcs.length m2):=hf.cell HD2.out (by show ¬ q≤w.heap.size;omega);have HROW:=k_ hrow;clear hrow;have HF:=k_ hf;clear hf;have HLOCR:=k_ hlocr;clear hlocr;go_wp2_with fail;clear d2
   go_loopw [32] (fun i wx=>∃ k:Nat,k≤p.funcs.length∧i=.int .i64 k∧CpF q (.slice ga p.globals.length gc) (.slice a n c) hs p.shapes wx (p.funcs.take k)∧Fr (fun k=>q≤k) W2 wx) (fun i _=>p.funcs.length - (intOf i).toNat)
   case atStart=>exact⟨0,Nat.zero_le _,rfl,⟨[],0,0,none,HLOCR.out,lC.nil _ _,HROW.out⟩,HF.out⟩
   case round =>
    obtain⟨k,hk,rfl,⟨xs,nf,cf,af,hlocx,hfrow,hsrow⟩,hfx⟩:=hrel
    by_cases hlt:k<p.funcs.length
    ·have hB:=HBEL.out _ hfx
     obtain⟨_,_,_,_,e1,hsl⟩:=HP.out wr hB
     injection e1 with e1 e2 e3
     clear e2 e3;subst e1;obtain⟨b,o,rfl,_,y0,y1,y2,y3,y4,h0,h1,h2,h3,h4,hfv⟩:=hsl k hlt;obtain⟨rfl,rfl,⟨x0,n0,rfl,i0⟩,⟨x3,n3,rfl,i3⟩,x4,n4,rfl,i4⟩:=hfv;have hsn:=aK p.funcs k hlt;have hll:=HLF.out k hlt;generalize p.funcs[k]=f at *;unfold cz at hll;have hlen:(p.funcs.take k).length=k:=by rw[List.length_take];omega
     have hsz:xs.length=k:=by rw[hfrow.2.1,hlen]
     obtain⟨y,hy⟩:∃ y,y=wr.heap.size:=⟨_,rfl⟩;have hbs:=(Below.refl wr.heap.size wr).alloc (Nat.le_refl _) (.cells #[.slice x0 f.args.length n0,.int .i64 f.result,.int .i64 f.slots,.slice x3 f.objects.length n3,.slice x4 f.code.length n4] 66);have hly:=ai wr (.cells #[.slice x0 f.args.length n0,.int .i64 f.result,.int .i64 f.slots,.slice x3 f.objects.length n3,.slice x4 f.code.length n4] 66);have hzs:(wr.alloc (.cells #[.slice x0 f.args.length n0,.int .i64 f.result,.int .i64 f.slots,.slice x3 f.objects.length n3,.slice x4 f.code.length n4] 66)).heap.size=y+1:=by rw[hy];simp
     obtain⟨wS,hwS⟩:∃ wS,wS=wr.alloc (.cells #[.slice x0 f.args.length n0,.int .i64 f.result,.int .i64 f.slots,.slice x3 f.objects.length n3,.slice x4 f.code.length n4] 66):=⟨_,rfl⟩;rw[← hwS] at hbs hzs;rw[← hwS,← hy] at hly;have ca:=fun W (h:Below wr.heap.size wr W)=>bX W _ x0 f.args n0 (i0.fr (fb_ h) (fun _ _ h=>h)) (by omega)
     have cb:=fun W (h:Below wr.heap.size wr W)=>bX W _ x3 f.objects n3 (i3.fr (fb_ h) (fun _ _ h=>h)) (by omega)
     have cc:=fun W (h:Below wr.heap.size wr W)=>qM W _ x4 f.code n4 (i4.fr (fb_ h) (fun _ _ h=>h)) (by omega)
     obtain⟨⟨t0,t1,t2,t3,t4⟩,_⟩:=aB hly;have hzq:q<wr.heap.size:=aj hlocx;have HWS:=k_ hwS;have HY:=k_ hy;clear hwS hy i0 i3 i4 hsl hB;have HFROW:=k_ hfrow;clear hfrow;have HSROW:=k_ hsrow;clear hsrow;have HFX:=k_ hfx;clear hfx;have HSN:=k_ hsn;clear hsn;have HLEN:=k_ hlen;clear hlen;have HBS:=k_ hbs;clear hbs;have HLOCX:=k_ hlocx;clear hlocx;have HLY:=k_ hly;clear hly;have CA:=k_ ca;clear ca;have CB:=k_ cb;clear cb;have CC:=k_ cc;clear cc;have HZS:=k_ hzs;clear hzs
     go_upto_region 10 with fail
     rw[← HWS.out,← HY.out];clear h0 h1 h2 h3 h4
     go_cut [] (fun wq=>∃ u0 u3 u4:Hd,wq.heap[y]?=some (.cells #[u0.val,.int .i64 f.result,.int .i64 f.slots,u3.val,u4.val] 66)∧lw wq wr.heap.size ⟨u0,f.result,f.slots,u3,u4⟩ f∧Below wr.heap.size wr wq)
     case first =>
      have hbd:Below wr.heap.size wr wS.drew:=HBS.out.drew
      go_region_law (first | (go_simp;go_at_call 118;refine(CC.out w4 hc4).mono ?_;rintro e w5 ⟨v5,rfl,oc,hb5⟩;obtain⟨xc,nc,rfl,_⟩:=pI oc;have hc5:=hc4.trans (hb5.mono hc4.size);have ly5:=(fb_ hb5).heap ly4 (fun h=>h);obtain⟨⟨c0',c1',c2',c3',c4'⟩,d0',d1',d2',d3',d4'⟩:=aB ly5) | (go_simp;go_at_call 108;refine(CB.out w3 hc3).mono ?_;rintro e w4 ⟨v4,rfl,ob,hb4⟩;obtain⟨xb,nb,rfl,_⟩:=bI ob;have hc4:=hc3.trans (hb4.mono hc3.size);have ly4:=(fb_ hb4).heap ly3 (fun h=>h);obtain⟨⟨b0',b1',b2',b3',b4'⟩,_⟩:=aB ly4) | (go_simp;go_at_call 108;refine(CA.out wS.drew hbd).mono ?_;rintro e w3 ⟨v3,rfl,oa,hb3⟩;obtain⟨xa,na,rfl,_⟩:=bI oa;have hc3:=hbd.trans (hb3.mono hbd.size);have ly3:=(fb_ hb3).heap (show wS.drew.heap[y]?=_ from HLY.out) (fun h=>h);obtain⟨⟨a0',a1',a2',a3',a4'⟩,_⟩:=aB ly3))
      all_goals
       go_wp2_with fail
       go_meet
       case rel =>
        have l5:=ag (ag (ag ly5 0 (.slice xa f.args.length na)) 3 (.slice xb f.objects.length nb)) 4 (.slice xc f.code.length nc);have hfr:Fr (onB y) w5 _:=(((Fr.refl (onB y) w5).setCell (p:=⟨y,0,none⟩) (fun _=>rfl) (.slice xa f.args.length na)).setCell (p:=⟨y,3,none⟩) (fun _=>rfl) (.slice xb f.objects.length nb)).setCell (p:=⟨y,4,none⟩) (fun _=>rfl) (.slice xc f.code.length nc);have tyI:dI w5 (onB y) aG.e:=dI.one ly5 (Ne.symm sJ.2.2.1);have tyC:dI w5 (onB y) ig.e:=dI.one ly5 (Ne.symm sJ.2.2.2.2.2.1);have zS:=hbd.size;have z3:=hc3.size;have z4:=hc4.size;refine⟨⟨xa,f.args.length,na⟩,⟨xb,f.objects.length,nb⟩,⟨xc,f.code.length,nc⟩,l5,⟨rfl,rfl,⟨rfl,((((oa.below hb4).below hb5).frT hfr tyI).base (fun k hk=>Nat.le_trans zS (oa.lt hk).1))⟩,⟨rfl,(((ob.below hb5).frT hfr tyI).base (fun k hk=>Nat.le_trans z3 (ob.lt hk).1))⟩,rfl,((oc.frT hfr tyC).base (fun k hk=>Nat.le_trans z4 (oc.lt hk).1))⟩,hc5.trans (hfr.below hc5.size (fun k hk=>by unfold onB at hk;have:=HY.out;omega))⟩
     case rest =>
      obtain⟨u0,u3,u4,hlq,hfo,hbc⟩:=hcut;have locQ:=(fb_ hbc).heap HLOCX.out (fun h=>h);clear t0 t1 t2 t3 t4;obtain⟨⟨j0,j1,j2⟩,f0,f1,f2⟩:=aH locQ;obtain⟨⟨v0,v1,v2,v3,v4⟩,_⟩:=aB hlq;unfold Hd.val at v0 v3 v4;have hoQ:=HFROW.out.1.below hbc;have hzw:=hbc.size;have HLQ:=k_ hlq;clear hlq;have HFO:=k_ hfo;clear hfo;have LOCQ:=k_ locQ;clear locQ;have HOQ:=k_ hoQ;clear hoQ;have HBC:=k_ hbc;clear hbc
      go_wp2_with (at_builtin;refine bE fnE rfl (.tmp 49) (.tmp 51) rfl q xs [⟨u0,f.result,f.slots,u3,u4⟩] _ rfl (HOQ.out.alloc _) wc.heap.size 0 1 rfl (aA.new _ _ _ _) ?c1 ?c2 ?_)
      case c1=>simp;omega
      case c2=>simp;omega
      intro v4' w4 ho4 hg4 hfr4;have loc4:w4.heap[q]?=some (.cells #[.slice ga p.globals.length gc,.slice a n c,.slice af nf cf] 48):=by
       rw[hg4.block _ (by simp;omega) (fun e=>HOQ.out.off LOCQ.out sJ.2.2.2.2.2.2.2.2.2 e.symm),Below.heap_alloc _ _ _ (by omega)];exact LOCQ.out
      clear j0 j1 j2 f0 f1 f2 v0 v1 v2 v3 v4;obtain⟨⟨k0,k1,k2⟩,j0,j1,j2⟩:=aH loc4;obtain⟨a4,n4,c4,rfl⟩:=ho4.slice;have hst:=CpF.step HLOCX.out HFROW.out HSROW.out HBC.out HFO.out _ ho4 hg4 loc4;have HST:=k_ hst;clear hst;clear ho4 hg4 hfr4 loc4;go_wp2_with fail
      go_roundw
      case rel=>exact⟨k+1,by omega,by go_num,by rw[HSN.out];exact HST.out.1,HFX.out.trans HST.out.2 (fun _ _ h=>h)⟩
      case measure=>simp[intOf];omega
    ·have hk':k=p.funcs.length:=by omega
     subst hk';rw[List.take_length] at hfrow;have hresx:wr.heap[w.heap.size+1]?=some (.cells #[.slice none 0 0,.slice none 0 0,.slice none 0 0] 48):=hfx.heap HRES2.out (by show ¬ q≤w.heap.size+1;omega);have hrx:=ag (ag (ag hresx 0 (.slice ga p.globals.length gc)) 1 (.slice a n c)) 2 (.slice af nf cf);have hfr:Fr (onB (w.heap.size+1)) wr _:=(((Fr.refl (onB (w.heap.size+1)) wr).setCell (p:=⟨w.heap.size+1,0,none⟩) (fun _=>rfl) (.slice ga p.globals.length gc)).setCell (p:=⟨w.heap.size+1,1,none⟩) (fun _=>rfl) (.slice a n c)).setCell (p:=⟨w.heap.size+1,2,none⟩) (fun _=>rfl) (.slice af nf cf);have hB:=HBEL.out _ hfx;have hty:∀ e,(48:TypeId)≠e→dI wr (onB (w.heap.size+1)) e:=fun e he=>dI.one hresx he
     obtain⟨t1,t2,t3,t4,t5,t6,t7,t8,t9,t10⟩:=sJ;have hox:=HO2.out.fr hfx (fun k hk h=>by have:=HQ0.out k hk;omega);have hfin:ze p w (.returned (.agg #[.slice ga p.globals.length gc,.slice a n c,.slice af nf cf])) _:=⟨_,_,_,rfl,⟨(hox.frT hfr (hty _ (Ne.symm t4))).base (fun k hk=>by have:=(hox.lt hk).1;have:=HZ0.out;omega),⟨hs,(hsrow.frT hfr (hty _ (Ne.symm t9)) (hty _ (Ne.symm t4))).mono (by omega)⟩,xs,(hfrow.frT hfr (hty _ (Ne.symm t10)) (hty _ (Ne.symm t4)) (hty _ (Ne.symm t7))).mono (by omega)⟩,hB.trans (hfr.below hB.size (fun k hk=>by unfold onB at hk;omega))⟩;obtain⟨⟨j0,j1,j2⟩,_⟩:=aH hlocx;obtain⟨_,f0,f1,f2⟩:=aH hresx;clear hox hty hfr hB hfx hsrow hfrow hlocx hresx t1 t2 t3 t4 t5 t6 t7 t8 t9 t10;have HFIN:=k_ hfin;clear hfin;have HRX:=k_ hrx;clear hrx
     go_wp2_with (with_reducible refine bodyPost_ret ?_ rfl HFIN.out;obtain⟨⟨k0,k1,k2⟩,_⟩:=aH HRX.out;simp[results,Tryz.results97,go_sem,k0,k1,k2])
end Go.Proofs.YtlofbhoicbemnaaGreatDoor
