/- Walk: the flow of a program. Walks: what the kinds of a program tell; the first call of chapter 12's statements. A queue onto which rows .. -/
import Derived.Test.YtbkkhmafheimfaaGreatDoorVBh
import Derived.Deep.Upon
set_option linter.unusedVariables false
set_option linter.unusedSimpArgs false
set_option maxRecDepth 100000
set_option maxHeartbeats 6400000
namespace Go.Proofs.YtbkkhmafheimfaaGreatDoor
open Go.ChangeShapes Go.WideShapes Go.ChangeAt Go.RowKit Go.Maps
def allM (k:Nat) (Ms:Nat→Flo):Pl→Option (List Int):=fun x=>if 0≤x.1.1∧x.1.1<k then (if 0≤x.1.2 then Ms x.1.1.toNat x.1.2.toNat else none) else none
theorem allM_zero (Ms:Nat→Flo):allM 0 Ms=fun _=>none:=by
 funext x
 unfold allM;rw[if_neg (by omega)]
theorem allM_succ (k:Nat) (Ms:Nat→Flo) (M:Flo):withM (allM k Ms) k M=allM (k+1) (fun i=>if i=k then M else Ms i):=by
 funext x
 unfold withM allM
 by_cases h:x.1.1=(k:Int)
 ·have e1:0≤x.1.1∧x.1.1<((k+1:Nat):Int):=by omega
  have e2:x.1.1.toNat=k:=by omega
  rw[if_pos h,if_pos e1,e2]
  simp
 ·by_cases h2:0≤x.1.1∧x.1.1<(k:Int)
  ·have e1:0≤x.1.1∧x.1.1<((k+1:Nat):Int):=by omega
   have e2:¬ x.1.1.toNat=k:=by omega
   rw[if_neg h,if_pos h2,if_pos e1];simp only[if_neg e2]
  ·have e1:¬ (0≤x.1.1∧x.1.1<((k+1:Nat):Int)):=by omega
   rw[if_neg h,if_neg h2,if_neg e1]
theorem allM_out (k:Nat) (Ms:Nat→Flo) (x:Pl) (h:x.1.1=(k:Int)):allM k Ms x=none:=by
 unfold allM;rw[if_neg (by omega)]
theorem firstAt_find (A:Nat→Bool) (E:Int) (hE:E≠0) (N:Nat):firstAt (fun q=>if A q then E else 0) N=match (List.range N).find? A with | some q=>(E,q) | none=>(0,0):=by
 unfold firstAt;have h:(fun i=>(if A i=true then E else 0) != 0)=A:=by
  funext i
  cases A i <;> simp[hE]
 rw[h]
 cases hf:(List.range N).find? A with
 | none=>rfl
 | some q =>
   have:=List.find?_some hf
   simp[this]
theorem flowE_out {p:Prg} {f:Fun} {M:Flo} {q:Nat} (h:(List.range f.code.length).find? (outsAt f M)=some q):flowE p f M=(7,q):=by
 unfold flowE;rw[firstAt_find _ 7 (by decide),h]
 rfl
theorem flowE_wrong {p:Prg} {f:Fun} {M:Flo} {q:Nat} (h:(List.range f.code.length).find? (outsAt f M)=none) (h2:(List.range f.code.length).find? (wrongAt p f M)=some q):flowE p f M=(3,q):=by
 unfold flowE;rw[firstAt_find _ 7 (by decide),h,firstAt_find _ 3 (by decide),h2]
 rfl
theorem flowE_ok {p:Prg} {f:Fun} {M:Flo} (h:(List.range f.code.length).find? (outsAt f M)=none) (h2:(List.range f.code.length).find? (wrongAt p f M)=none):(flowE p f M).1=0:=by
 unfold flowE;rw[firstAt_find _ 7 (by decide),h,firstAt_find _ 3 (by decide),h2]
 rfl
def FlowErr (p:Prg) (E:Int) (fn pc:Nat):Prop :=
 E≠0∧(progS p=(E,fn,pc)∨((progS p).1=0∧fn<p.funcs.length∧∃ Ms:Nat→Flo,(∀ i,i≤fn→IsFlow p (fnAt p i) (Ms i))∧(∀ i,i<fn→(flowE p (fnAt p i) (Ms i)).1=0)∧flowE p (fnAt p fn) (Ms fn)=(E,pc)))
def MapsAt (w:World) (B mb b nm:Nat) (V:Nat→Prop) (C:Pl→Option (List Int)):Prop:=w.heap[mb]?=some (.cells #[.map (some b)] 140)∧FlMap w b nm V C∧B≤mb∧B≤b∧∀ q,V q→B≤q∧q<w.heap.size
def FlowPost (p:Prg) (w:World) (e:Ending) (w':World):Prop:=Below w.heap.size w w' ∧
 ((∃ E fn pc,FlowErr p E fn pc∧e=.returned (.tuple #[.pointer none,.int .i64 E,.agg #[.int .i64 (fn:Nat),.int .i64 (pc:Nat)]])) ∨
  ((progS p).1=0∧∃ Ms mb b nm V,(∀ i,i<p.funcs.length→IsFlow p (fnAt p i) (Ms i)∧(flowE p (fnAt p i) (Ms i)).1=0)∧e=.returned (.tuple #[.pointer (some ⟨mb,0,none⟩),.int .i64 0,.agg #[.int .i64 0,.int .i64 0]])∧MapsAt w' w.heap.size mb b nm V (allM p.funcs.length Ms)))
theorem flowPost_err {p:Prg} {E:Int} {fn pc:Nat} {w w':World} (h:FlowErr p E fn pc) (hb:Below w.heap.size w w'):FlowPost p w (.returned (.tuple #[.pointer none,.int .i64 E,.agg #[.int .i64 fn,.int .i64 pc]])) w':=⟨hb,.inl ⟨E,fn,pc,h,rfl⟩⟩
theorem FlowPost.intro_ok {p:Prg} {w w':World} {Ms:Nat→Flo} {mb b nm:Nat} {V:Nat→Prop} (hb:Below w.heap.size w w') (h0:(progS p).1=0) (hms:∀ i,i<p.funcs.length→IsFlow p (fnAt p i) (Ms i)∧(flowE p (fnAt p i) (Ms i)).1=0) (hm:MapsAt w' w.heap.size mb b nm V (allM p.funcs.length Ms)) :
  FlowPost p w (.returned (.tuple #[.pointer (some ⟨mb,0,none⟩),.int .i64 0,.agg #[.int .i64 0,.int .i64 0]])) w':=⟨hb,.inr ⟨h0,Ms,mb,b,nm,V,hms,rfl,hm⟩⟩
theorem flowProg_any (w:World) (D:Nat→Prop) (hD:∀ k,D k→k<w.heap.size) (p:Prg) (c0 c1 c2:Value) (hv:PrgVal w D p c0 c1 c2) (hp:PrgB p) (hq:PrgR p) :
  Calls Tryz.prog 34 #[.agg #[c0,c1,c2]] w (FlowPost p w):=by
 have hP:∀ wr,Below w.heap.size w wr→PrgVal wr D p c0 c1 c2:=fun wr hb=>hv.fr (Fr.of_below hb (fun _=>False)) (fun _ _ h=>h)
 have ck:=fun W' (h:Below w.heap.size w W')=>progC_any W' D (fun k hk=>Nat.lt_of_lt_of_le (hD k hk) h.size) p c0 c1 c2 (hP W' h) hp hq
 unfold ProgPost at ck;obtain⟨⟨a0,m0,rfl,_⟩,⟨a1,m1,rfl,_⟩,a2,m2,rfl,_⟩:=hv;have hbx:=fun wr h=>box2 w #[.slice a0 p.globals.length m0,.slice a1 p.shapes.length m1,.slice a2 p.funcs.length m2] #[.int .i64 0,.int .i64 0] 40 81 wr h
 have hly:=heap_new (w.alloc (.cells #[.slice a0 p.globals.length m0,.slice a1 p.shapes.length m1,.slice a2 p.funcs.length m2] 40)) (.cells #[.int .i64 0,.int .i64 0] 81);have hz0:((w.alloc (.cells #[.slice a0 p.globals.length m0,.slice a1 p.shapes.length m1,.slice a2 p.funcs.length m2] 40)).alloc (.cells #[.int .i64 0,.int .i64 0] 81)).heap.size=w.heap.size+2:=by simp
 obtain⟨y,hy⟩:∃ y,y=w.heap.size+1:=⟨_,rfl⟩;rw[show (w.alloc (.cells #[.slice a0 p.globals.length m0,.slice a1 p.shapes.length m1,.slice a2 p.funcs.length m2] 40)).heap.size=y from by rw[hy];simp] at hly;obtain⟨W,hW⟩:∃ W,W=(w.alloc (.cells #[.slice a0 p.globals.length m0,.slice a1 p.shapes.length m1,.slice a2 p.funcs.length m2] 40)).alloc (.cells #[.int .i64 0,.int .i64 0] 81):=⟨_,rfl⟩;rw[← hW] at hbx hz0 hly;have hs:∀ wr,Below W.heap.size W wr→wr.cell? ⟨w.heap.size,0,none⟩=some (.slice a0 p.globals.length m0)∧wr.cell? ⟨w.heap.size,1,none⟩=some (.slice a1 p.shapes.length m1)∧wr.cell? ⟨w.heap.size,2,none⟩=some (.slice a2 p.funcs.length m2):=fun wr h=>by
  rw[hz0] at h;have hb:=hbx wr h;exact⟨hb.1 0 _ rfl,hb.1 1 _ rfl,hb.1 2 _ rfl⟩
 have hbw:∀ wr,Below W.heap.size W wr→Below w.heap.size w wr:=fun wr h=>by rw[hz0] at h;exact(hbx wr h).2.2.1
 have hck:=ck W (hbw W (Below.refl _ _));obtain⟨⟨E,ea,eb⟩,hps⟩:∃ x:Int × Nat × Nat,x=progS p:=⟨_,rfl⟩;rw[← hps] at hck;have HW:=k_ hW;have HY:=k_ hy;have HLY:=k_ hly;have HBW:=k_ hbw;have HS:=k_ hs;have HPS:=k_ hps;have HCK:=k_ hck;have HZ0:=k_ hz0;have HPP0:=k_ hP;have HD:=k_ hD;have HPB:=k_ hp;have HPR:=k_ hq;obtain⟨k0,k1,k2⟩:=hs W (Below.refl _ _);clear hW hy hly hbw hs hps hck hbx hz0 hP hD hp hq ck
 go_enter Tryz.func34,Tryz.ntmps34
 go_upto_region 1 with fail
 rw[← HY.out,← HW.out];go_wp2_with fail;refine HCK.out.mono ?_;rintro e w1 ⟨rfl,hb1⟩;have HB1:=k_ hb1;clear hb1
 by_cases hE:E=0
 ·subst hE
  have hp0:(progS p).1=0:=by rw[← HPS.out]
  have hfit:=prgFit hp0;have hly2:=heap_new w1 (.cells #[.int .i64 (ea:Nat),.int .i64 (eb:Nat)] 81);have hb2:=HB1.out.alloc HB1.out.size (.cells #[.int .i64 (ea:Nat),.int .i64 (eb:Nat)] 81);obtain⟨w2,hw2⟩:∃ w2,w2=w1.alloc (.cells #[.int .i64 (ea:Nat),.int .i64 (eb:Nat)] 81):=⟨_,rfl⟩;rw[← hw2] at hb2;have hb3:=hb2.alloc hb2.size (.map #[] 0);have hmk:=FlMap.made w2 (fun _=>False);obtain⟨b,hb⟩:∃ b,b=w2.heap.size:=⟨_,rfl⟩;have hsz3:(w2.alloc (.map #[] 0)).heap.size=b+1:=by rw[hb];simp
  obtain⟨w3,hw3⟩:∃ w3,w3=w2.alloc (.map #[] 0):=⟨_,rfl⟩;rw[← hw3] at hb3 hmk hsz3;rw[← hb] at hmk;have HW2:=k_ hw2;have HW3:=k_ hw3;have HHB:=k_ (show b=w1.heap.size+1 from by rw[hb,hw2];simp);have HMK:=k_ hmk;have HS3:=k_ hsz3;have HB3:=k_ hb3;have HP0:=k_ hp0;have HFIT:=k_ hfit;have HY3:=k_ ((Fr.of_below hb3 (fun _=>False)).heap HLY.out (fun h=>h));have HYL:=k_ (show w.heap.size≤y from by have:=HY.out;omega);have HYB:=k_ (show y<b from by have h1:=heap_lt ((Fr.of_below hb2 (fun _=>False)).heap HLY.out (fun h=>h));rw[hb];exact h1);have HBL:=k_ (show w.heap.size≤b from by have:=HY.out;have h1:=heap_lt ((Fr.of_below hb2 (fun _=>False)).heap HLY.out (fun h=>h));omega);clear hw2 hw3 hb hmk hsz3 hp0 hfit hly2 hb2;have hmake:∀ w,(Instr.makeMap 132 none).run Tryz.prog w=.ok (.map (some w.heap.size)) (w.alloc (.map #[] 0)):=fun w=>run_makeMap _ w
  go_upto_region 5 with fail
  rw[← HW2.out,← HHB.out,← HW3.out];clear hmake;clear k0 k1 k2;obtain⟨k0,k1,k2⟩:=HS.out w3 hb3;clear hb3
  go_upto_region 6 with fail
  go_loopw [27] (fun i wr=>∃ k:Nat,k≤p.funcs.length∧i=.int .i64 k∧∃ (Ms:Nat→Flo) (V:Nat→Prop) (nm:Nat),FlMap wr b nm V (allM k Ms)∧(∀ i,i<k→IsFlow p (fnAt p i) (Ms i)∧(flowE p (fnAt p i) (Ms i)).1=0)∧nm≤k * 1088∧(∀ q,V q→b<q∧q<wr.heap.size)∧Fr (onB b) w3 wr) (fun i _=>p.funcs.length - (intOf i).toNat)
  case atStart=>exact⟨0,Nat.zero_le _,rfl,fun _ _=>none,(fun _=>False),0,by rw[allM_zero];exact HMK.out,fun i hi=>absurd hi (Nat.not_lt_zero _),by omega,fun q hq=>absurd hq id,Fr.refl _ _⟩
  case round =>
   obtain⟨k,hk,rfl,Ms,V,nm,hm,hms,hnm,hV,hf3⟩:=hrel;have hwy:=hf3.heap HY3.out (fun e=>by have:=HYB.out;unfold onB at e;omega);have hBb:=HBL.out;have hfb:Below w.heap.size w wr:=(HBW.out w3 HB3.out).trans (hf3.below (HBW.out w3 HB3.out).size (fun q hq=>by unfold onB at hq;omega));replace k0:=hf3.cell k0 (fun e=>by unfold onB at e;dsimp only at e;have:=HYB.out;have:=HY.out;omega);replace k1:=hf3.cell k1 (fun e=>by unfold onB at e;dsimp only at e;have:=HYB.out;have:=HY.out;omega);replace k2:=hf3.cell k2 (fun e=>by unfold onB at e;dsimp only at e;have:=HYB.out;have:=HY.out;omega)
   by_cases hlt:k<p.funcs.length
   ·have hklt:(k:Int)<(p.funcs.length:Int):=by omega
    have i1:IntKind.i64.wrap ((k:Int)+1)=(k:Int)+1:=IntWalk.i64_in _ (by have:=HFIT.out.funcs2;omega);have hb5:=(Below.refl wr.heap.size wr).alloc (Nat.le_refl _) (.cells #[.slice a0 p.globals.length m0,.slice a1 p.shapes.length m1,.slice a2 p.funcs.length m2,.int .i64 k,.map (some b),.slice none 0 0] 135);have hl5:=heap_new wr (.cells #[.slice a0 p.globals.length m0,.slice a1 p.shapes.length m1,.slice a2 p.funcs.length m2,.int .i64 k,.map (some b),.slice none 0 0] 135);obtain⟨wb,hwb⟩:∃ wb,wb=wr.heap.size:=⟨_,rfl⟩;obtain⟨w5,hw5⟩:∃ w5,w5=wr.alloc (.cells #[.slice a0 p.globals.length m0,.slice a1 p.shapes.length m1,.slice a2 p.funcs.length m2,.int .i64 k,.map (some b),.slice none 0 0] 135):=⟨_,rfl⟩;rw[← hw5] at hb5 hl5;rw[← hwb] at hl5;have hbl5:=hm.lt;have hs5:=hb5.size;have hWV:WalkV w5 b wb b nm V _ _ _ (k:Int) (allM k Ms) (.slice none 0 0) []:=⟨hl5,hm.fr (Fr.of_below hb5 (fun _=>False)) (fun h=>h) (fun _ _ h=>h),Que.nil _ _,fun q hq=>by have:=hV q hq;exact⟨by omega,by omega,by omega,by omega,(fun e=>by cases e)⟩,by omega,Nat.le_refl _,by omega,(fun e=>by cases e),(fun e=>by cases e)⟩;have hB5:=hfb.trans (hb5.mono hfb.size);have hpv5:=HPP0.out w5 hB5;have hrun:=run_any w5 b wb b nm V D _ _ _ k (allM k Ms) p hWV (by omega) (fun q hq=>by have:=HD.out q hq;omega) hpv5 HPB.out HPR.out HFIT.out hlt (fun x hx=>allM_out k Ms x hx) (fun x K hx=>by
     unfold allM at hx
     split at hx
     ·next hx1 =>
      split at hx
      ·have h1:=(hms x.1.1.toNat (by omega)).1.1.len _ _ hx
       have h2:=HFIT.out.fn (fnAt p x.1.1.toNat) (by unfold fnAt;rw[List.getElem?_eq_getElem (by omega)];exact List.getElem_mem _);have:=h2.slots
       omega
      ·cases hx
     ·cases hx) (by have:=HFIT.out.funcs2;omega)
    have hfk:fnAt p k=p.funcs[k]:=by unfold fnAt;simp[hlt]
    have HRUN:=k_ hrun;have HWB:=k_ hwb;have HW5:=k_ hw5;have HB5:=k_ hB5;have HBR5:=k_ hb5;have HMS:=k_ hms;have HNM:=k_ hnm;have HF3:=k_ hf3;have HFK:=k_ hfk;have HVV:=k_ hV;have HWY:=k_ hwy;have HLT:=k_ hlt;have HS5:=k_ hs5;clear hrun hwb hw5 hB5 hb5 hms hnm hf3 hfk hm hl5 hWV hpv5 hbl5 hfb hBb hV hs5 hwy
    go_upto_region 9 with fail
    rw[← HWB.out,← HW5.out];go_wp2_with fail;refine HRUN.out.mono ?_;rintro e w6 ⟨rfl,M,n',V',tv',hfl,hW6,hn6,hf6⟩;have hs5:=HS5.out;have hwbe:=HWB.out;have h3r:=HF3.out.size;have hs3:=HS3.out;have hyb:=HYB.out;have hyy:=HY.out;have hbl:=HBL.out;have h56:=hf6.size;have h5w:=HB5.out.size;have hB6:=HB5.out.trans (hf6.below HB5.out.size (fun q hq=>by
     rcases hq with e | e | e
     ·omega
     ·omega
     ·cases e))
    have hf36:Fr (onB b) w3 w6:=(HF3.out.trans (Fr.of_below HBR5.out (onB b)) (fun _ _ h=>h)).trans hf6 (fun q hq e=>by
     rcases e with e | e | e
     ·omega
     ·exact e
     ·cases e)
    have hne:∀ q,q<w3.heap.size→q≠b→¬ onB b q:=fun q _ h=>h
    have hwy6:=hf36.heap HY3.out (fun e=>by unfold onB at e;omega);have hpv6:=HPP0.out w6 hB6;have hD6:∀ W',Below w6.heap.size w6 W'→∀ q,D q→q<W'.heap.size:=fun W' h q hq=>by have:=HD.out q hq;have:=h.size;have:=hB6.size;omega
    have hbl6:=hW6.map.lt;have hB6':∀ W',Below w6.heap.size w6 W'→b≤W'.heap.size:=fun W' h=>by have:=h.size;omega
    have hpvx:=fun W' (h:Below w6.heap.size w6 W')=>HPP0.out W' (hB6.trans (h.mono hB6.size))
    have hMl:=hfl.1.len;have l1:=lookrunsOut_any w6 b wb b n' V' D _ _ _ tv' k (withM (allM k Ms) k M) [] p M (outsAt p.funcs[k] M) hW6 hpv6 HFIT.out HLT.out (fun q h=>withM_at _ _ _ _ h) (fun q hq=>by unfold outsAt;rw[hq];rfl) (fun W' hb q hq hs=>by
     have:=runsOut_any W' b wb b n' V' D _ _ _ tv' k (withM (allM k Ms) k M) [] p (hW6.below hb) (hB6' W' hb) (hD6 W' hb) (hpvx W' hb) HPB.out HPR.out HFIT.out HLT.out q hq;unfold outsAt;rw[hs];exact this)
    have l2:=fun W' (hb0:Below w6.heap.size w6 W')=>lookwrong_any W' b wb b n' V' D _ _ _ tv' k (withM (allM k Ms) k M) [] p M (wrongAt p p.funcs[k] M) (hW6.below hb0) (hpvx W' hb0) HFIT.out HLT.out (fun q h=>withM_at _ _ _ _ h) (fun q hq=>by unfold wrongAt;rw[hq]) (fun W2 hb2 q hq hs=>by
     have hb:=hb0.trans (hb2.mono hb0.size)
     cases hM:M q with
     | none=>rw[hM] at hs;cases hs
     | some K =>
       have:=wrong_any W2 b wb b n' V' D _ _ _ tv' k (withM (allM k Ms) k M) [] p (hW6.below hb) (hB6' W2 hb) (hD6 W2 hb) (hpvx W2 hb) HPB.out HPR.out HFIT.out HLT.out q hq K (fun h=>(withM_at _ _ _ _ h).trans hM) (hMl q K hM).2;unfold wrongAt;rw[hM];exact this)
    have hms':∀ i,i≤k→IsFlow p (fnAt p i) ((fun i=>if i=k then M else Ms i) i):=fun i hi=>by
     by_cases e:i=k
     ·subst e
      dsimp only
      rw[if_pos rfl,HFK.out];exact hfl
     ·dsimp only
      rw[if_neg e];exact(HMS.out i (by omega)).1
    have hms2:∀ i,i<k→(flowE p (fnAt p i) ((fun i=>if i=k then M else Ms i) i)).1=0:=fun i hi=>by
     dsimp only
     rw[if_neg (by omega)];exact(HMS.out i hi).2
    have L2:=k_ l2;have HMS1:=k_ hms';have HMS2:=k_ hms2;have HW6:=k_ hW6;have HF36:=k_ hf36;have HWY6:=k_ hwy6;have HB6:=k_ hB6;have HN6:=k_ hn6;replace k0:=hf36.cell (HS.out w3 HB3.out).1 (fun e=>by unfold onB at e;dsimp only at e;omega);replace k1:=hf36.cell (HS.out w3 HB3.out).2.1 (fun e=>by unfold onB at e;dsimp only at e;omega);replace k2:=hf36.cell (HS.out w3 HB3.out).2.2 (fun e=>by unfold onB at e;dsimp only at e;omega);clear hbl6 hs5 hwbe h3r hs3 hyb hyy hbl h56 h5w hB6 hf36 hne hwy6 hpv6 hD6 hB6' hpvx hMl l2 hms' hms2 hW6 hfl hn6 hf6;have HYL2:=HYL;obtain⟨r1,hr1⟩:∃ r1,r1=(List.range p.funcs[k].code.length).find? (outsAt p.funcs[k] M):=⟨_,rfl⟩;have l1:Calls Tryz.prog 57 #[.pointer (some ⟨wb,0,none⟩),.func (.func 58) #[.pointer (some ⟨wb,0,none⟩)] #[]] w6 (LookPost k r1 w6):=by rw[hr1];exact l1
    cases r1 with
    | some q =>
      have l1:Calls Tryz.prog 57 #[.pointer (some ⟨wb,0,none⟩),.func (.func 58) #[.pointer (some ⟨wb,0,none⟩)] #[]] w6 fun e w'=>e=.returned (.tuple #[.agg #[.int .i64 (k:Nat),.int .i64 (q:Nat)],.bool true])∧Below w6.heap.size w6 w':=l1
      have HER:=k_ (show FlowErr p 7 k q from⟨by decide,.inr ⟨HP0.out,HLT.out,_,HMS1.out,HMS2.out,by rw[HFK.out,if_pos rfl];exact flowE_out hr1.symm⟩⟩);have L1:=k_ l1;clear l1 hr1;go_wp2_with fail;refine L1.out.mono ?_;rintro e w7 ⟨rfl,hb7⟩;have hly2:=heap_new w7 (.cells #[.int .i64 (k:Nat),.int .i64 (q:Nat)] 81);have hb8:=hb7.alloc hb7.size (.cells #[.int .i64 (k:Nat),.int .i64 (q:Nat)] 81);obtain⟨z,hz⟩:∃ z,z=w7.heap.size:=⟨_,rfl⟩;obtain⟨w8,hw8⟩:∃ w8,w8=w7.alloc (.cells #[.int .i64 (k:Nat),.int .i64 (q:Nat)] 81):=⟨_,rfl⟩;rw[← hw8] at hly2 hb8;rw[← hz] at hly2;have HZ:=k_ hz;have HW8:=k_ hw8;have HZZ:=k_ hly2;have HYY:=k_ ((Fr.of_below hb8 (fun _=>False)).heap HWY6.out (fun h=>h));have HBX:=k_ (HB6.out.trans (hb8.mono HB6.out.size));clear hz hw8 hly2 hb8 hb7 k0 k1 k2
      go_upto_region 12 with fail
      rw[← HZ.out,← HW8.out];have x0:=(row_cell HZZ.out 0).1;have x1:=(row_cell HZZ.out 1).1;have v0:=(row_cell HYY.out 0).1;have v1:=(row_cell HYY.out 1).1;have f0:=(row_cell HYY.out 0).2;have f1:=(row_cell HYY.out 1).2;have x0:w8.cell? ⟨z,0,none⟩=some (.int .i64 (k:Nat)):=x0;have x1:w8.cell? ⟨z,1,none⟩=some (.int .i64 (q:Nat)):=x1;have v0:w8.cell? ⟨y,0,none⟩=some (.int .i64 0):=v0;have v1:w8.cell? ⟨y,1,none⟩=some (.int .i64 0):=v1
      go_cut [2,3] (fun s2 s3 wx=>s2=.pointer none∧s3=.int .i64 7∧wx.heap[y]?=some (.cells #[.int .i64 (k:Nat),.int .i64 (q:Nat)] 81)∧Below w.heap.size w wx)
      case first =>
       have hrw:=row_set (row_set (show w8.drew.heap[y]?=_ from HYY.out) 0 (.int .i64 (k:Nat))) 1 (.int .i64 (q:Nat));have hfx:Fr (onB y) w8.drew _:=((Fr.refl (onB y) w8.drew).setCell (p:=⟨y,0,none⟩) (fun _=>rfl) (.int .i64 (k:Nat))).setCell (p:=⟨y,1,none⟩) (fun _=>rfl) (.int .i64 (q:Nat));have hbx:=HBX.out.drew.trans (hfx.below HBX.out.size (fun q hq=>by unfold onB at hq;have:=HYL.out;omega));have HRW:=k_ hrw;have HBB:=k_ hbx;clear hrw hfx hbx
       go_region_law (fail)
       all_goals
        go_wp2_with fail
        go_meet
        exact⟨rfl,rfl,HRW.out,HBB.out⟩
      case rest =>
       obtain⟨rfl,rfl,hrw,hbx⟩:=hcut;have HRR:=k_ hrw;have HPP:=k_ (flowPost_err HER.out hbx);clear hrw hbx x0 x1 v0 v1 f0 f1
       go_wp2_with (with_reducible refine bodyPost_ret ?_ rfl HPP.out;have k0:=(row_cell HRR.out 0).1;have k1:=(row_cell HRR.out 1).1;simp at k0 k1;simp[results,Tryz.results34,go_sem,k0,k1])
    | none =>
      have l1:Calls Tryz.prog 57 #[.pointer (some ⟨wb,0,none⟩),.func (.func 58) #[.pointer (some ⟨wb,0,none⟩)] #[]] w6 fun e w'=>e=.returned (.tuple #[.agg #[.int .i64 0,.int .i64 0],.bool false])∧Below w6.heap.size w6 w':=l1
      have L1:=k_ l1;have HR1:=k_ hr1.symm;clear l1 hr1;go_wp2_with fail;refine L1.out.mono ?_;rintro e w7 ⟨rfl,hb7⟩;have hb8:=hb7.alloc hb7.size (.cells #[.int .i64 0,.int .i64 0] 81);obtain⟨w8,hw8⟩:∃ w8,w8=w7.alloc (.cells #[.int .i64 0,.int .i64 0] 81):=⟨_,rfl⟩;rw[← hw8] at hb8;have HW8:=k_ hw8;have HB68:=k_ hb8;have l2:=L2.out w8 hb8;replace k0:=below_cell hb8 k0;replace k1:=below_cell hb8 k1;replace k2:=below_cell hb8 k2;clear hw8 hb8 hb7 L2
      go_upto_region 13 with fail
      rw[← HW8.out];obtain⟨r2,hr2⟩:∃ r2,r2=(List.range p.funcs[k].code.length).find? (wrongAt p p.funcs[k] M):=⟨_,rfl⟩;have l2:Calls Tryz.prog 57 #[.pointer (some ⟨wb,0,none⟩),.func (.func 59) #[.pointer (some ⟨wb,0,none⟩)] #[]] w8 (LookPost k r2 w8):=by rw[hr2];exact l2
      cases r2 with
      | some q =>
        have l2:Calls Tryz.prog 57 #[.pointer (some ⟨wb,0,none⟩),.func (.func 59) #[.pointer (some ⟨wb,0,none⟩)] #[]] w8 fun e w'=>e=.returned (.tuple #[.agg #[.int .i64 (k:Nat),.int .i64 (q:Nat)],.bool true])∧Below w8.heap.size w8 w':=l2
        have HER:=k_ (show FlowErr p 3 k q from⟨by decide,.inr ⟨HP0.out,HLT.out,_,HMS1.out,HMS2.out,by rw[HFK.out,if_pos rfl];exact flowE_wrong HR1.out hr2.symm⟩⟩);have L3:=k_ l2;clear l2 hr2;go_wp2_with fail;refine L3.out.mono ?_;rintro e w9 ⟨rfl,hb9⟩;have hb9:=HB68.out.trans (hb9.mono HB68.out.size);have hly2:=heap_new w9 (.cells #[.int .i64 (k:Nat),.int .i64 (q:Nat)] 81);have hb10:=hb9.alloc hb9.size (.cells #[.int .i64 (k:Nat),.int .i64 (q:Nat)] 81);obtain⟨z,hz⟩:∃ z,z=w9.heap.size:=⟨_,rfl⟩;obtain⟨w10,hw10⟩:∃ w10,w10=w9.alloc (.cells #[.int .i64 (k:Nat),.int .i64 (q:Nat)] 81):=⟨_,rfl⟩;rw[← hw10] at hly2 hb10;rw[← hz] at hly2;have HZ:=k_ hz;have HW10:=k_ hw10;have HZZ:=k_ hly2;have HYY:=k_ ((Fr.of_below hb10 (fun _=>False)).heap HWY6.out (fun h=>h));have HBX:=k_ (HB6.out.trans (hb10.mono HB6.out.size));clear hz hw10 hly2 hb10 hb9 k0 k1 k2
        go_upto_region 15 with fail
        rw[← HZ.out,← HW10.out];have x0:=(row_cell HZZ.out 0).1;have x1:=(row_cell HZZ.out 1).1;have v0:=(row_cell HYY.out 0).1;have v1:=(row_cell HYY.out 1).1;have f0:=(row_cell HYY.out 0).2;have f1:=(row_cell HYY.out 1).2;have x0:w10.cell? ⟨z,0,none⟩=some (.int .i64 (k:Nat)):=x0;have x1:w10.cell? ⟨z,1,none⟩=some (.int .i64 (q:Nat)):=x1;have v0:w10.cell? ⟨y,0,none⟩=some (.int .i64 0):=v0;have v1:w10.cell? ⟨y,1,none⟩=some (.int .i64 0):=v1
        go_cut [2,3] (fun s2 s3 wx=>s2=.pointer none∧s3=.int .i64 3∧wx.heap[y]?=some (.cells #[.int .i64 (k:Nat),.int .i64 (q:Nat)] 81)∧Below w.heap.size w wx)
        case first =>
         have hrw:=row_set (row_set (show w10.drew.heap[y]?=_ from HYY.out) 0 (.int .i64 (k:Nat))) 1 (.int .i64 (q:Nat));have hfx:Fr (onB y) w10.drew _:=((Fr.refl (onB y) w10.drew).setCell (p:=⟨y,0,none⟩) (fun _=>rfl) (.int .i64 (k:Nat))).setCell (p:=⟨y,1,none⟩) (fun _=>rfl) (.int .i64 (q:Nat));have hbx:=HBX.out.drew.trans (hfx.below HBX.out.size (fun q hq=>by unfold onB at hq;have:=HYL.out;omega));have HRW:=k_ hrw;have HBB:=k_ hbx;clear hrw hfx hbx
         go_region_law (fail)
         all_goals
          go_wp2_with fail
          go_meet
          exact⟨rfl,rfl,HRW.out,HBB.out⟩
        case rest =>
         obtain⟨rfl,rfl,hrw,hbx⟩:=hcut;have HRR:=k_ hrw;have HPP:=k_ (flowPost_err HER.out hbx);clear hrw hbx x0 x1 v0 v1 f0 f1
         go_wp2_with (with_reducible refine bodyPost_ret ?_ rfl HPP.out;have k0:=(row_cell HRR.out 0).1;have k1:=(row_cell HRR.out 1).1;simp at k0 k1;simp[results,Tryz.results34,go_sem,k0,k1])
      | none =>
        have l2:Calls Tryz.prog 57 #[.pointer (some ⟨wb,0,none⟩),.func (.func 59) #[.pointer (some ⟨wb,0,none⟩)] #[]] w8 fun e w'=>e=.returned (.tuple #[.agg #[.int .i64 0,.int .i64 0],.bool false])∧Below w8.heap.size w8 w':=l2
        have hfe:(flowE p p.funcs[k] M).1=0:=flowE_ok HR1.out hr2.symm;have L3:=k_ l2;have HFE:=k_ hfe;clear l2 hr2 hfe;go_wp2_with fail;refine L3.out.mono ?_;rintro e w9 ⟨rfl,hb9⟩;have hb9:=HB68.out.trans (hb9.mono HB68.out.size);have hb10:=hb9.alloc hb9.size (.cells #[.int .i64 0,.int .i64 0] 81);have HB10:=k_ hb10;clear hb9 hb10 k0 k1 k2;go_wp2_with fail
        go_roundw
        case rel =>
         refine⟨k+1,HLT.out,by go_num,_,V',n',by rw[← allM_succ];exact(HW6.out.below HB10.out).map,fun i hi=>?_,by have:=HNM.out;have:=HN6.out;omega,fun q hq=>?_,HF36.out.trans (Fr.of_below HB10.out (onB b)) (fun _ _ h=>h)⟩
         ·by_cases e:i=k
          ·subst e
           refine⟨HMS1.out i (Nat.le_refl _),?_⟩;rw[HFK.out,if_pos rfl];exact HFE.out
          ·exact⟨HMS1.out i (by omega),HMS2.out i (by omega)⟩
         ·have h1:=(HW6.out.below HB10.out).vlo q hq
          exact⟨by have:=h1.1;have:=h1.2.2.2.1;omega,h1.2.1⟩
        case measure=>simp[intOf];omega
   ·have hk':k=p.funcs.length:=by omega
    subst hk';have hb7:=(Below.refl wr.heap.size wr).alloc (Nat.le_refl _) (.cells #[.map (some b)] 140);have hl7:=heap_new wr (.cells #[.map (some b)] 140);obtain⟨mb,hmb⟩:∃ mb,mb=wr.heap.size:=⟨_,rfl⟩;obtain⟨w7,hw7⟩:∃ w7,w7=wr.alloc (.cells #[.map (some b)] 140):=⟨_,rfl⟩;rw[← hw7] at hb7 hl7;rw[← hmb] at hl7;have hy7:=(Fr.of_below hb7 (fun _=>False)).heap hwy (fun h=>h);have v0:w7.cell? ⟨y,0,none⟩=some (.int .i64 0):=(row_cell hy7 0).1;have v1:w7.cell? ⟨y,1,none⟩=some (.int .i64 0):=(row_cell hy7 1).1;have f0:=(row_cell hy7 0).2;have f1:=(row_cell hy7 1).2;have hyl:=HYL.out;have hyb:=HYB.out;have hfx:Fr (onB y) w7 _:=((Fr.refl (onB y) w7).setCell (p:=⟨y,0,none⟩) (fun _=>rfl) (.int .i64 0)).setCell (p:=⟨y,1,none⟩) (fun _=>rfl) (.int .i64 0);have hrw:=row_set (row_set hy7 0 (.int .i64 0)) 1 (.int .i64 0);have hB7:=hfb.trans (hb7.mono hfb.size);have hBx:=hB7.trans (hfx.below hB7.size (fun q hq=>by unfold onB at hq;omega));have hyw:=heap_lt hwy;have hyV:∀ q,V q→q≠y:=fun q hq e=>by have:=(hV q hq).1;omega
    have hfin:=FlowPost.intro_ok (p:=p) hBx HP0.out hms (mb:=mb) (b:=b) (nm:=nm) (V:=V) ⟨hfx.heap hl7 (fun e=>by unfold onB at e;omega),(hm.fr (Fr.of_below hb7 (fun _=>False)) (fun h=>h) (fun _ _ h=>h)).fr hfx (fun e=>by unfold onB at e;omega) (fun q hq e=>hyV q hq e),by have:=hfb.size;omega,hBb,fun q hq=>⟨by have:=(hV q hq).1;omega,by have:=(hV q hq).2;have:=hb7.size;have:=hfx.size;omega⟩⟩;have HRR:=k_ hrw;have HPP:=k_ hfin;subst hw7;subst hmb;clear hb7 hl7 hy7 hfx hrw hB7 hBx hfin hm hms hnm hV hf3 hfb hwy hyV hyw k0 k1 k2
    go_upto_region 17 with fail
    go_wp2_with (first | (with_reducible refine bodyPost_ret ?_ rfl HPP.out;have k0:=(row_cell HRR.out 0).1;have k1:=(row_cell HRR.out 1).1;simp at k0 k1;simp[results,Tryz.results34,go_sem,k0,k1]))
 ·have hEb:(E != 0)=true:=by simpa using hE
  have hly2:=heap_new w1 (.cells #[.int .i64 (ea:Nat),.int .i64 (eb:Nat)] 81);have hb2:=HB1.out.alloc HB1.out.size (.cells #[.int .i64 (ea:Nat),.int .i64 (eb:Nat)] 81);obtain⟨z,hz⟩:∃ z,z=w1.heap.size:=⟨_,rfl⟩;obtain⟨w2,hw2⟩:∃ w2,w2=w1.alloc (.cells #[.int .i64 (ea:Nat),.int .i64 (eb:Nat)] 81):=⟨_,rfl⟩;rw[← hw2] at hly2 hb2;rw[← hz] at hly2;have HZ:=k_ hz;have HW2:=k_ hw2;have HZZ:=k_ hly2;have HYY:=k_ ((Fr.of_below hb2 (fun _=>False)).heap HLY.out (fun h=>h));have HYL:=k_ (show w.heap.size≤y from by have:=HY.out;omega);have HBX:=k_ (HBW.out w2 hb2);have HER:=k_ (show FlowErr p E ea eb from⟨hE,.inl HPS.out.symm⟩);clear hz hw2 hly2 hb2 hE
  go_upto_region 3 with fail
  rw[← HZ.out,← HW2.out];clear k0 k1 k2;have x0:=(row_cell HZZ.out 0).1;have x1:=(row_cell HZZ.out 1).1;have v0:=(row_cell HYY.out 0).1;have v1:=(row_cell HYY.out 1).1;have f0:=(row_cell HYY.out 0).2;have f1:=(row_cell HYY.out 1).2;have x0:w2.cell? ⟨z,0,none⟩=some (.int .i64 (ea:Nat)):=x0;have x1:w2.cell? ⟨z,1,none⟩=some (.int .i64 (eb:Nat)):=x1;have v0:w2.cell? ⟨y,0,none⟩=some (.int .i64 0):=v0;have v1:w2.cell? ⟨y,1,none⟩=some (.int .i64 0):=v1
  go_cut [2,3] (fun s2 s3 wx=>s2=.pointer none∧s3=.int .i64 E∧wx.heap[y]?=some (.cells #[.int .i64 (ea:Nat),.int .i64 (eb:Nat)] 81)∧Below w.heap.size w wx)
  case first =>
   have hrw:=row_set (row_set (show w2.drew.heap[y]?=_ from HYY.out) 0 (.int .i64 (ea:Nat))) 1 (.int .i64 (eb:Nat));have hfx:Fr (onB y) w2.drew _:=((Fr.refl (onB y) w2.drew).setCell (p:=⟨y,0,none⟩) (fun _=>rfl) (.int .i64 (ea:Nat))).setCell (p:=⟨y,1,none⟩) (fun _=>rfl) (.int .i64 (eb:Nat));have hbx:=HBX.out.drew.trans (hfx.below HBX.out.size (fun q hq=>by unfold onB at hq;have:=HYL.out;omega));have HRW:=k_ hrw;have HBB:=k_ hbx;clear hrw hfx hbx
   go_region_law (fail)
   all_goals
    go_wp2_with fail
    go_meet
    exact⟨rfl,rfl,HRW.out,HBB.out⟩
  case rest =>
   obtain⟨rfl,rfl,hrw,hbx⟩:=hcut;have HRR:=k_ hrw;have HPP:=k_ (flowPost_err HER.out hbx);clear hrw hbx x0 x1 v0 v1 f0 f1
   go_wp2_with (with_reducible refine bodyPost_ret ?_ rfl HPP.out;have k0:=(row_cell HRR.out 0).1;have k1:=(row_cell HRR.out 1).1;simp at k0 k1;simp[results,Tryz.results34,go_sem,k0,k1])
def sx:Flo:=fun q=>if q=0 then some [0] else if q=1 then some [1] else if q=2 then some [1] else if q=3 then some [0] else none
end Go.Proofs.YtbkkhmafheimfaaGreatDoor
namespace Go.Proofs.YtbkkhmafheimfaaGreatDoor
def PendAt (more:Bool) (pc:Nat):Nat→Int→Prop:=fun q _=>more=true∨pc≤q
def PendIn (more:Bool) (pc:Nat) (rem:List Int):Nat→Int→Prop:=fun q m=>more=true∨pc<q∨(q=pc∧m ∈ rem)
open Go.ChangeShapes Go.WideShapes Go.ChangeAt Go.RowKit
end Go.Proofs.YtbkkhmafheimfaaGreatDoor
namespace Go.Proofs.YtbkkhmafheimfaaGreatDoor.Tk
open Go.ChangeShapes Go.WideShapes Go.ChangeAt Go.RowKit Go.Maps
theorem run_X27 (w:World) (F:Nat→Prop) (tb:Nat) (p:TPrg) (T:Tk) (X:TB) (h:TaskAt w F tb p T X) (c0 c1 c2 mp:Value) (ia ib ic:Int) (X1:TB) (hX1:X1.D=X.D) (al:List Alarm) (kf:{ x:Int × Int // i64B x.1∧i64B x.2 }→Option Int) (T':Tk) (k a f v fn:Int) (bb:Bool) (r0:Option Addr) (r1 r2:Nat)
  (ASK:∀ wr,Below w.heap.size w wr→Calls Tryz.prog 201 #[.agg (stepV c0 c1 c2 mp tb 27 ia ib ic)] wr (RunPostG wr F tb p X1 T' al kf (actV k a f v fn bb (.slice r0 r1 r2)))) :
  Calls Tryz.prog 122 #[.agg (stepV c0 c1 c2 mp tb 27 ia ib ic)] w (RunPostG w F tb p X1 T' al kf (actV k a f v fn bb (.slice r0 r1 r2))):=by
 have ASKX:=k_ ASK;clear ASK;unfold stepV at ASKX;have hb0:=((Below.refl w.heap.size w).alloc (Nat.le_refl _) (.cells (stepV c0 c1 c2 mp tb 27 ia ib ic) 236));have hb1:=hb0.alloc hb0.size act0;have hr0:=row_alloc (heap_new w (.cells (stepV c0 c1 c2 mp tb 27 ia ib ic) 236)) act0;have hr1:=heap_new (w.alloc (.cells (stepV c0 c1 c2 mp tb 27 ia ib ic) 236)) act0;rw[show (w.alloc (.cells (stepV c0 c1 c2 mp tb 27 ia ib ic) 236)).heap.size=w.heap.size+1 from by simp] at hr1;obtain⟨W,hW⟩:∃ W,W=(w.alloc (.cells (stepV c0 c1 c2 mp tb 27 ia ib ic) 236)).alloc act0:=⟨_,rfl⟩;rw[← hW] at hb1 hr0 hr1;have HFLT:=k_ h.flt;have HOUT:=k_ (fun k (hk:X.D k)=>(h.out k hk).2);have hwz:W.heap.size=w.heap.size+2:=by rw[hW];simp
 unfold act0 at hW hr1;unfold stepV at hW hr0;have HW:=k_ hW;have k4:W.cell? ⟨w.heap.size,4,none⟩=some (.pointer (some ⟨tb,0,none⟩)):=(row_cell hr0 4).1;have k5:W.cell? ⟨w.heap.size,5,none⟩=some (.int .i64 27):=(row_cell hr0 5).1;have k6:W.cell? ⟨w.heap.size,6,none⟩=some (.int .i64 ia):=(row_cell hr0 6).1;have k7:W.cell? ⟨w.heap.size,7,none⟩=some (.int .i64 ib):=(row_cell hr0 7).1;have k8:W.cell? ⟨w.heap.size,8,none⟩=some (.int .i64 ic):=(row_cell hr0 8).1;have HRR:=k_ (Below.refl W.heap.size W);clear hb0 hW;have HB1:=k_ hb1;clear hb1;have HR1:=k_ hr1;clear hr1;have HR0:=k_ hr0;clear hr0;have HWZ:=k_ hwz;clear hwz;unfold stepV
 go_enter Tryz.func122,Tryz.ntmps122
 go_upto_region 1 with fail
 rw[← HW.out]
 go_cut [3,4] (fun x y wx=>∃ z:Nat,x=.pointer (some ⟨z,0,none⟩)∧y=.pointer (some ⟨tb,0,none⟩)∧wx.heap[z]?=some (.cells #[.int .i64 27,.int .i64 ia,.int .i64 ib,.int .i64 ic] 32)∧w.heap.size+2≤z∧Below W.heap.size W wx)
 case first =>
  have bs:=World.block_lt k4
  dsimp only at bs
  go_region
  all_goals
   go_wp2_with fail
   go_meet
   case rel=>exact⟨_,rfl,rfl,heap_new _ _,by have:=HWZ.out;omega,(HRR.out.drew).alloc (HRR.out.size) _⟩
 case rest =>
  obtain⟨z,rfl,rfl,hz,hzl,hR⟩:=hcut;have hbc:=HB1.out.trans (hR.mono HB1.out.size);have hrb:=(Fr.of_below hR (fun _=>False)).heap HR0.out (fun h=>h);have hrc:=(Fr.of_below hR (fun _=>False)).heap HR1.out (fun h=>h);have HBC:=k_ hbc;have HSZ:=k_ (show w.heap.size+2≤wc.heap.size from by have:=hR.size;have:=HWZ.out;omega);have HRW:=k_ (fun wx (hw:Below wc.heap.size wc wx)=>(Fr.of_below hw (fun _=>False)).heap hrc (fun h=>h));have HSS:=k_ (show ∀ wx,Below wc.heap.size wc wx→wx.cell? ⟨w.heap.size,0,none⟩=some (c0)∧wx.cell? ⟨w.heap.size,1,none⟩=some (c1)∧wx.cell? ⟨w.heap.size,2,none⟩=some (c2)∧wx.cell? ⟨w.heap.size,3,none⟩=some (mp)∧wx.cell? ⟨w.heap.size,4,none⟩=some (.pointer (some ⟨tb,0,none⟩))∧wx.cell? ⟨w.heap.size,5,none⟩=some (.int .i64 27)∧wx.cell? ⟨w.heap.size,6,none⟩=some (.int .i64 ia)∧wx.cell? ⟨w.heap.size,7,none⟩=some (.int .i64 ib)∧wx.cell? ⟨w.heap.size,8,none⟩=some (.int .i64 ic)∧wx.cell? ⟨z,0,none⟩=some (.int .i64 27)∧wx.cell? ⟨z,1,none⟩=some (.int .i64 ia)∧wx.cell? ⟨z,2,none⟩=some (.int .i64 ib)∧wx.cell? ⟨z,3,none⟩=some (.int .i64 ic) from fun wx hw=>by
   have g1:=(Fr.of_below hw (fun _=>False)).heap hrb (fun h=>h);have g2:=(Fr.of_below hw (fun _=>False)).heap hz (fun h=>h);exact⟨(row_cell g1 0).1,(row_cell g1 1).1,(row_cell g1 2).1,(row_cell g1 3).1,(row_cell g1 4).1,(row_cell g1 5).1,(row_cell g1 6).1,(row_cell g1 7).1,(row_cell g1 8).1,(row_cell g2 0).1,(row_cell g2 1).1,(row_cell g2 2).1,(row_cell g2 3).1⟩)
  have hSd:=HSS.out wc.drew (Below.refl wc.heap.size wc).drew;have HRC:=k_ (Below.refl wc.heap.size wc);have HRD:=k_ (Below.refl wc.heap.size wc).drew;have z0:wc.cell? ⟨z,0,none⟩=some (.int .i64 27):=(row_cell hz 0).1;clear hR hrb hrc hz k4 k5 k6 k7 k8 hbc;obtain⟨y0,y1,y2,y3,y4,y5,y6,y7,y8,_,_,_,_⟩:=HSS.out _ HRC.out;clear hSd
  go_upto_region 40 with fail
  go_wp2_with fail;refine(ASKX.out _ HBC.out).mono ?_;rintro e w5 ⟨rfl,F',X',hT5,hXD,hF',hf5⟩;have HWD:=HRC;clear y0 y1 y2 y3 y4 y5 y6 y7 y8 z0;have hsz5:w.heap.size+2≤wc.heap.size:=by have:=HSZ.out;omega
  have hr5:=hf5.heap (HRW.out _ HWD.out) (fun e=>by have:=HFLT.out (w.heap.size+1) e;omega);obtain⟨⟨u0,u1,u2,u3,u4,u5,u6⟩,n0,n1,n2,n3,n4,n5,n6⟩:=seven_cells hr5;have hfs:=seven_fr w5 (.int .i64 k) (.int .i64 a) (.int .i64 f) (.int .i64 v) (.int .i64 fn) (.bool bb) (.slice r0 r1 r2) (w.heap.size+1);have hrs:=seven_row hr5 (.int .i64 k) (.int .i64 a) (.int .i64 f) (.int .i64 v) (.int .i64 fn) (.bool bb) (.slice r0 r1 r2);have hFz:∀ q,F' q→q≠w.heap.size+1:=fun q hq e=>by
   rcases hF' q hq with h1 | h1
   ·have:=HFLT.out q h1;omega
   ·have:=HWD.out.size;omega
  have hT6:=hT5.fr hfs (fun q hq e=>hFz q hq e) (fun q hq e=>by rw[hXD.1,hX1] at hq;have:=HOUT.out q hq;have e:q=w.heap.size+1:=e;omega);have hfw:=(Fr.of_below (HBC.out.trans (HWD.out.mono HBC.out.size)) F).trans hf5 (fun _ _ h=>h);have hf6:=hfw.trans hfs (fun q hq e=>by have e:q=w.heap.size+1:=e;omega);have hF6:∀ q,F' q→F q∨w.heap.size≤q:=fun q hq=>(hF' q hq).imp id (fun h1=>by have:=HWD.out.size;omega)
  have HPP:=k_ (show RunPostG w F tb p X1 _ _ _ (actV k a f v fn bb (.slice r0 r1 r2)) _ _ from⟨rfl,F',X',hT6,hXD,hF6,hf6⟩);clear hfs hr5 hT5 hT6 hfw hf6 hf5 hF6 hFz hF' hXD hsz5;have HRS:=k_ hrs;clear hrs;unfold actV;go_wp2_with fail;refine bodyPost_ret ?_ rfl HPP.out;have k0:=(row_cell HRS.out 0).1;have k1:=(row_cell HRS.out 1).1;have k2:=(row_cell HRS.out 2).1;have k3:=(row_cell HRS.out 3).1;have k4:=(row_cell HRS.out 4).1;have k5:=(row_cell HRS.out 5).1;have k6:=(row_cell HRS.out 6).1;simp at k0 k1 k2 k3 k4 k5 k6;simp[results,Tryz.results122,go_sem,k0,k1,k2,k3,k4,k5,k6,actV]
end Go.Proofs.YtbkkhmafheimfaaGreatDoor.Tk
