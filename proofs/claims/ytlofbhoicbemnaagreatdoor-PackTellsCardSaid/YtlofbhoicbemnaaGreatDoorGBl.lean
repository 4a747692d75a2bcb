/- Walk: the flow of a program. Walks: what the kinds of a program tell; the first call of chapter 12's statements. A queue onto which rows .. -/
import Derived.Test.YtlofbhoicbemnaaGreatDoorGBk
import Derived.Deep.Upon
set_option linter.unusedVariables false
set_option linter.unusedSimpArgs false
set_option maxRecDepth 100000
set_option maxHeartbeats 6400000
namespace Go.Proofs.YtlofbhoicbemnaaGreatDoor
open Go.ChangeShapes Go.WideShapes Go.ChangeAt Go.RowKit Go.Maps
def allM (k:Nat) (Ms:Nat→Flo):Pl→Option (List Int):=fun x=>if 0≤x.1.1∧x.1.1<k then (if 0≤x.1.2 then Ms x.1.1.toNat x.1.2.toNat else none) else none
theorem CU (Ms:Nat→Flo):allM 0 Ms=fun _=>none:=by
 funext x
 unfold allM;rw[if_neg (by omega)]
theorem BU (k:Nat) (Ms:Nat→Flo) (M:Flo):gq (allM k Ms) k M=allM (k+1) (fun i=>if i=k then M else Ms i):=by
 funext x
 unfold gq allM
 by_cases h:x.1.1=(k:Int)
 ·have e1:0≤x.1.1∧x.1.1<((k+1:Nat):Int):=by omega
  have e2:x.1.1.toNat=k:=by omega
  rw[if_pos h,if_pos e1,e2]
  simp
 ·by_cases h2:0≤x.1.1∧x.1.1<(k:Int)
  ·have e1:0≤x.1.1∧x.1.1<((k+1:Nat):Int):=by omega
   have e2:¬ x.1.1.toNat=k:=by omega
   rw[if_neg h,if_pos h2,if_pos e1];simp only[if_neg e2]
  ·have e1:¬ (0≤x.1.1∧x.1.1<((k+1:Nat):Int)):=by omega
   rw[if_neg h,if_neg h2,if_neg e1]
theorem FT (k:Nat) (Ms:Nat→Flo) (x:Pl) (h:x.1.1=(k:Int)):allM k Ms x=none:=by
 unfold allM;rw[if_neg (by omega)]
theorem gX (A:Nat→Bool) (E:Int) (hE:E≠0) (N:Nat):dn (fun q=>if A q then E else 0) N=match (List.range N).find? A with | some q=>(E,q) | none=>(0,0):=by
 unfold dn;have h:(fun i=>(if A i=true then E else 0) != 0)=A:=by
  funext i
  cases A i <;> simp[hE]
 rw[h]
 cases hf:(List.range N).find? A with
 | none=>rfl
 | some q =>
   have:=List.find?_some hf
   simp[this]
theorem Dr {p:Prg} {f:Fun} {M:Flo} {q:Nat} (h:(List.range f.code.length).find? (lu f M)=some q):jI p f M=(7,q):=by
 unfold jI;rw[gX _ 7 (by decide),h]
 rfl
theorem yc {p:Prg} {f:Fun} {M:Flo} {q:Nat} (h:(List.range f.code.length).find? (lu f M)=none) (h2:(List.range f.code.length).find? (kY p f M)=some q):jI p f M=(3,q):=by
 unfold jI;rw[gX _ 7 (by decide),h,gX _ 3 (by decide),h2]
 rfl
theorem Ew {p:Prg} {f:Fun} {M:Flo} (h:(List.range f.code.length).find? (lu f M)=none) (h2:(List.range f.code.length).find? (kY p f M)=none):(jI p f M).1=0:=by
 unfold jI;rw[gX _ 7 (by decide),h,gX _ 3 (by decide),h2]
 rfl
def pE (p:Prg) (E:Int) (fn pc:Nat):Prop :=
 E≠0∧(gu p=(E,fn,pc)∨((gu p).1=0∧fn<p.funcs.length∧∃ Ms:Nat→Flo,(∀ i,i≤fn→jH p (iG p i) (Ms i))∧(∀ i,i<fn→(jI p (iG p i) (Ms i)).1=0)∧jI p (iG p fn) (Ms fn)=(E,pc)))
def Af (w:World) (B mb b nm:Nat) (V:Nat→Prop) (C:Pl→Option (List Int)):Prop:=w.heap[mb]?=some (.cells #[.map (some b)] 195)∧dV w b nm V C∧B≤mb∧B≤b∧∀ q,V q→B≤q∧q<w.heap.size
def kw (p:Prg) (w:World) (e:Ending) (w':World):Prop:=Below w.heap.size w w' ∧
 ((∃ E fn pc,pE p E fn pc∧e=.returned (.tuple #[.pointer none,.int .i64 E,.agg #[.int .i64 (fn:Nat),.int .i64 (pc:Nat)]])) ∨
  ((gu p).1=0∧∃ Ms mb b nm V,(∀ i,i<p.funcs.length→jH p (iG p i) (Ms i)∧(jI p (iG p i) (Ms i)).1=0)∧e=.returned (.tuple #[.pointer (some ⟨mb,0,none⟩),.int .i64 0,.agg #[.int .i64 0,.int .i64 0]])∧Af w' w.heap.size mb b nm V (allM p.funcs.length Ms)))
theorem kR {p:Prg} {E:Int} {fn pc:Nat} {w w':World} (h:pE p E fn pc) (hb:Below w.heap.size w w'):kw p w (.returned (.tuple #[.pointer none,.int .i64 E,.agg #[.int .i64 fn,.int .i64 pc]])) w':=⟨hb,.inl ⟨E,fn,pc,h,rfl⟩⟩
theorem kw.intro_ok {p:Prg} {w w':World} {Ms:Nat→Flo} {mb b nm:Nat} {V:Nat→Prop} (hb:Below w.heap.size w w') (h0:(gu p).1=0) (hms:∀ i,i<p.funcs.length→jH p (iG p i) (Ms i)∧(jI p (iG p i) (Ms i)).1=0) (hm:Af w' w.heap.size mb b nm V (allM p.funcs.length Ms)) :
  kw p w (.returned (.tuple #[.pointer (some ⟨mb,0,none⟩),.int .i64 0,.agg #[.int .i64 0,.int .i64 0]])) w':=⟨hb,.inr ⟨h0,Ms,mb,b,nm,V,hms,rfl,hm⟩⟩
theorem wu (w:World) (D:Nat→Prop) (hD:∀ k,D k→k<w.heap.size) (p:Prg) (c0 c1 c2:Value) (hv:aD w D p c0 c1 c2) (hp:pM p) (hq:qP p) :
  Calls Tryz.prog 95 #[.agg #[c0,c1,c2]] w (kw p w):=by
 have hP:∀ wr,Below w.heap.size w wr→aD wr D p c0 c1 c2:=fun wr hb=>hv.fr (fb_ hb) (fun _ _ h=>h)
 have ck:=fun W' (h:Below w.heap.size w W')=>Ch W' D (fun k hk=>Nat.lt_of_lt_of_le (hD k hk) h.size) p c0 c1 c2 (hP W' h) hp hq
 unfold oL at ck;obtain⟨⟨a0,m0,rfl,_⟩,⟨a1,m1,rfl,_⟩,a2,m2,rfl,_⟩:=hv;have hbx:=fun wr h=>nz w #[.slice a0 p.globals.length m0,.slice a1 p.shapes.length m1,.slice a2 p.funcs.length m2] #[.int .i64 0,.int .i64 0] 48 147 wr h
 have hly:=ai (w.alloc (.cells #[.slice a0 p.globals.length m0,.slice a1 p.shapes.length m1,.slice a2 p.funcs.length m2] 48)) (.cells #[.int .i64 0,.int .i64 0] 147);have hz0:((w.alloc (.cells #[.slice a0 p.globals.length m0,.slice a1 p.shapes.length m1,.slice a2 p.funcs.length m2] 48)).alloc (.cells #[.int .i64 0,.int .i64 0] 147)).heap.size=w.heap.size+2:=by simp
 obtain⟨y,hy⟩:∃ y,y=w.heap.size+1:=⟨_,rfl⟩;rw[show (w.alloc (.cells #[.slice a0 p.globals.length m0,.slice a1 p.shapes.length m1,.slice a2 p.funcs.length m2] 48)).heap.size=y from by rw[hy];simp] at hly;obtain⟨W,hW⟩:∃ W,W=(w.alloc (.cells #[.slice a0 p.globals.length m0,.slice a1 p.shapes.length m1,.slice a2 p.funcs.length m2] 48)).alloc (.cells #[.int .i64 0,.int .i64 0] 147):=⟨_,rfl⟩;rw[← hW] at hbx hz0 hly;have hs:∀ wr,Below W.heap.size W wr→wr.cell? ⟨w.heap.size,0,none⟩=some (.slice a0 p.globals.length m0)∧wr.cell? ⟨w.heap.size,1,none⟩=some (.slice a1 p.shapes.length m1)∧wr.cell? ⟨w.heap.size,2,none⟩=some (.slice a2 p.funcs.length m2):=fun wr h=>by
  rw[hz0] at h;have hb:=hbx wr h;exact⟨hb.1 0 _ rfl,hb.1 1 _ rfl,hb.1 2 _ rfl⟩
 have hbw:∀ wr,Below W.heap.size W wr→Below w.heap.size w wr:=fun wr h=>by rw[hz0] at h;exact(hbx wr h).2.2.1
 have hck:=ck W (hbw W (Below.refl _ _));obtain⟨⟨E,ea,eb⟩,hps⟩:∃ x:Int × Nat × Nat,x=gu p:=⟨_,rfl⟩;rw[← hps] at hck;have HW:=k_ hW;have HY:=k_ hy;have HLY:=k_ hly;have HBW:=k_ hbw;have HS:=k_ hs;have HPS:=k_ hps;have HCK:=k_ hck;have HZ0:=k_ hz0;have HPP0:=k_ hP;have HD:=k_ hD;have HPB:=k_ hp;have HPR:=k_ hq;obtain⟨k0,k1,k2⟩:=hs W (Below.refl _ _);clear hW hy hly hbw hs hps hck hbx hz0 hP hD hp hq ck
 go_enter Tryz.func95,Tryz.ntmps95
 go_upto_region 1 with fail
 rw[← HY.out,← HW.out];go_wp2_with fail;refine HCK.out.mono ?_;rintro e w1 ⟨rfl,hb1⟩;have HB1:=k_ hb1;clear hb1
 by_cases hE:E=0
 ·subst hE
  have hp0:(gu p).1=0:=by rw[← HPS.out]
  have hfit:=Jh hp0;have hly2:=ai w1 (.cells #[.int .i64 (ea:Nat),.int .i64 (eb:Nat)] 147);have hb2:=HB1.out.alloc HB1.out.size (.cells #[.int .i64 (ea:Nat),.int .i64 (eb:Nat)] 147);obtain⟨w2,hw2⟩:∃ w2,w2=w1.alloc (.cells #[.int .i64 (ea:Nat),.int .i64 (eb:Nat)] 147):=⟨_,rfl⟩;rw[← hw2] at hb2;have hb3:=hb2.alloc hb2.size (.map #[] 0);have hmk:=dV.made w2 (fun _=>False);obtain⟨b,hb⟩:∃ b,b=w2.heap.size:=⟨_,rfl⟩;have hsz3:(w2.alloc (.map #[] 0)).heap.size=b+1:=by rw[hb];simp
  obtain⟨w3,hw3⟩:∃ w3,w3=w2.alloc (.map #[] 0):=⟨_,rfl⟩;rw[← hw3] at hb3 hmk hsz3;rw[← hb] at hmk;have HW2:=k_ hw2;have HW3:=k_ hw3;have HHB:=k_ (show b=w1.heap.size+1 from by rw[hb,hw2];simp);have HMK:=k_ hmk;have HS3:=k_ hsz3;have HB3:=k_ hb3;have HP0:=k_ hp0;have HFIT:=k_ hfit;have HY3:=k_ ((fb_ hb3).heap HLY.out (fun h=>h));have HYL:=k_ (show w.heap.size≤y from by have:=HY.out;omega);have HYB:=k_ (show y<b from by have h1:=aj ((fb_ hb2).heap HLY.out (fun h=>h));rw[hb];exact h1);have HBL:=k_ (show w.heap.size≤b from by have:=HY.out;have h1:=aj ((fb_ hb2).heap HLY.out (fun h=>h));omega);clear hw2 hw3 hb hmk hsz3 hp0 hfit hly2 hb2;have hmake:∀ w,(Instr.makeMap 187 none).run Tryz.prog w=.ok (.map (some w.heap.size)) (w.alloc (.map #[] 0)):=fun w=>run_makeMap _ w
  go_upto_region 5 with fail
  rw[← HW2.out,← HHB.out,← HW3.out];clear hmake;clear k0 k1 k2;obtain⟨k0,k1,k2⟩:=HS.out w3 hb3;clear hb3
  go_upto_region 6 with fail
  go_loopw [27] (fun i wr=>∃ k:Nat,k≤p.funcs.length∧i=.int .i64 k∧∃ (Ms:Nat→Flo) (V:Nat→Prop) (nm:Nat),dV wr b nm V (allM k Ms)∧(∀ i,i<k→jH p (iG p i) (Ms i)∧(jI p (iG p i) (Ms i)).1=0)∧nm≤k * 1088∧(∀ q,V q→b<q∧q<wr.heap.size)∧Fr (onB b) w3 wr) (fun i _=>p.funcs.length - (intOf i).toNat)
  case atStart=>exact⟨0,Nat.zero_le _,rfl,fun _ _=>none,(fun _=>False),0,by rw[CU];exact HMK.out,fun i hi=>absurd hi (Nat.not_lt_zero _),by omega,fun q hq=>absurd hq id,Fr.refl _ _⟩
  case round =>
   obtain⟨k,hk,rfl,Ms,V,nm,hm,hms,hnm,hV,hf3⟩:=hrel;have hwy:=hf3.heap HY3.out (fun e=>by have:=HYB.out;unfold onB at e;omega);have hBb:=HBL.out;have hfb:Below w.heap.size w wr:=(HBW.out w3 HB3.out).trans (hf3.below (HBW.out w3 HB3.out).size (fun q hq=>by unfold onB at hq;omega));replace k0:=hf3.cell k0 (fun e=>by unfold onB at e;dsimp only at e;have:=HYB.out;have:=HY.out;omega);replace k1:=hf3.cell k1 (fun e=>by unfold onB at e;dsimp only at e;have:=HYB.out;have:=HY.out;omega);replace k2:=hf3.cell k2 (fun e=>by unfold onB at e;dsimp only at e;have:=HYB.out;have:=HY.out;omega)
   by_cases hlt:k<p.funcs.length
   ·have hklt:(k:Int)<(p.funcs.length:Int):=by omega
    have i1:IntKind.i64.wrap ((k:Int)+1)=(k:Int)+1:=IntWalk.i64_in _ (by have:=HFIT.out.funcs2;omega);have hb5:=(Below.refl wr.heap.size wr).alloc (Nat.le_refl _) (.cells #[.slice a0 p.globals.length m0,.slice a1 p.shapes.length m1,.slice a2 p.funcs.length m2,.int .i64 k,.map (some b),.slice none 0 0] 190);have hl5:=ai wr (.cells #[.slice a0 p.globals.length m0,.slice a1 p.shapes.length m1,.slice a2 p.funcs.length m2,.int .i64 k,.map (some b),.slice none 0 0] 190);obtain⟨wb,hwb⟩:∃ wb,wb=wr.heap.size:=⟨_,rfl⟩;obtain⟨w5,hw5⟩:∃ w5,w5=wr.alloc (.cells #[.slice a0 p.globals.length m0,.slice a1 p.shapes.length m1,.slice a2 p.funcs.length m2,.int .i64 k,.map (some b),.slice none 0 0] 190):=⟨_,rfl⟩;rw[← hw5] at hb5 hl5;rw[← hwb] at hl5;have hbl5:=hm.lt;have hs5:=hb5.size;have hWV:WalkV w5 b wb b nm V _ _ _ (k:Int) (allM k Ms) (.slice none 0 0) []:=⟨hl5,hm.fr (fb_ hb5) (fun h=>h) (fun _ _ h=>h),Que.nil _ _,fun q hq=>by have:=hV q hq;exact⟨by omega,by omega,by omega,by omega,(fun e=>by cases e)⟩,by omega,Nat.le_refl _,by omega,(fun e=>by cases e),(fun e=>by cases e)⟩;have hB5:=hfb.trans (hb5.mono hfb.size);have hpv5:=HPP0.out w5 hB5;have hrun:=vP w5 b wb b nm V D _ _ _ k (allM k Ms) p hWV (by omega) (fun q hq=>by have:=HD.out q hq;omega) hpv5 HPB.out HPR.out HFIT.out hlt (fun x hx=>FT k Ms x hx) (fun x K hx=>by
     unfold allM at hx
     split at hx
     ·next hx1 =>
      split at hx
      ·have h1:=(hms x.1.1.toNat (by omega)).1.1.len _ _ hx
       have h2:=HFIT.out.fn (iG p x.1.1.toNat) (by unfold iG;rw[List.getElem?_eq_getElem (by omega)];exact List.getElem_mem _);have:=h2.slots
       omega
      ·cases hx
     ·cases hx) (by have:=HFIT.out.funcs2;omega)
    have hfk:iG p k=p.funcs[k]:=by unfold iG;simp[hlt]
    have HRUN:=k_ hrun;have HWB:=k_ hwb;have HW5:=k_ hw5;have HB5:=k_ hB5;have HBR5:=k_ hb5;have HMS:=k_ hms;have HNM:=k_ hnm;have HF3:=k_ hf3;have HFK:=k_ hfk;have HVV:=k_ hV;have HWY:=k_ hwy;have HLT:=k_ hlt;have HS5:=k_ hs5;clear hrun hwb hw5 hB5 hb5 hms hnm hf3 hfk hm hl5 hWV hpv5 hbl5 hfb hBb hV hs5 hwy
    go_upto_region 9 with fail
    rw[← HWB.out,← HW5.out];go_wp2_with fail;refine HRUN.out.mono ?_;rintro e w6 ⟨rfl,M,n',V',tv',hfl,hW6,hn6,hf6⟩;have hs5:=HS5.out;have hwbe:=HWB.out;have h3r:=HF3.out.size;have hs3:=HS3.out;have hyb:=HYB.out;have hyy:=HY.out;have hbl:=HBL.out;have h56:=hf6.size;have h5w:=HB5.out.size;have hB6:=HB5.out.trans (hf6.below HB5.out.size (fun q hq=>by
     rcases hq with e | e | e
     ·omega
     ·omega
     ·cases e))
    have hf36:Fr (onB b) w3 w6:=(HF3.out.trans (Fr.of_below HBR5.out (onB b)) (fun _ _ h=>h)).trans hf6 (fun q hq e=>by
     rcases e with e | e | e
     ·omega
     ·exact e
     ·cases e)
    have hne:∀ q,q<w3.heap.size→q≠b→¬ onB b q:=fun q _ h=>h
    have hwy6:=hf36.heap HY3.out (fun e=>by unfold onB at e;omega);have hpv6:=HPP0.out w6 hB6;have hD6:∀ W',Below w6.heap.size w6 W'→∀ q,D q→q<W'.heap.size:=fun W' h q hq=>by have:=HD.out q hq;have:=h.size;have:=hB6.size;omega
    have hbl6:=hW6.map.lt;have hB6':∀ W',Below w6.heap.size w6 W'→b≤W'.heap.size:=fun W' h=>by have:=h.size;omega
    have hpvx:=fun W' (h:Below w6.heap.size w6 W')=>HPP0.out W' (hB6.trans (h.mono hB6.size))
    have hMl:=hfl.1.len;have l1:=qL w6 b wb b n' V' D _ _ _ tv' k (gq (allM k Ms) k M) [] p M (lu p.funcs[k] M) hW6 hpv6 HFIT.out HLT.out (fun q h=>lY _ _ _ _ h) (fun q hq=>by unfold lu;rw[hq];rfl) (fun W' hb q hq hs=>by
     have:=yK W' b wb b n' V' D _ _ _ tv' k (gq (allM k Ms) k M) [] p (hW6.below hb) (hB6' W' hb) (hD6 W' hb) (hpvx W' hb) HPB.out HPR.out HFIT.out HLT.out q hq;unfold lu;rw[hs];exact this)
    have l2:=fun W' (hb0:Below w6.heap.size w6 W')=>ug W' b wb b n' V' D _ _ _ tv' k (gq (allM k Ms) k M) [] p M (kY p p.funcs[k] M) (hW6.below hb0) (hpvx W' hb0) HFIT.out HLT.out (fun q h=>lY _ _ _ _ h) (fun q hq=>by unfold kY;rw[hq]) (fun W2 hb2 q hq hs=>by
     have hb:=hb0.trans (hb2.mono hb0.size)
     cases hM:M q with
     | none=>rw[hM] at hs;cases hs
     | some K =>
       have:=BX W2 b wb b n' V' D _ _ _ tv' k (gq (allM k Ms) k M) [] p (hW6.below hb) (hB6' W2 hb) (hD6 W2 hb) (hpvx W2 hb) HPB.out HPR.out HFIT.out HLT.out q hq K (fun h=>(lY _ _ _ _ h).trans hM) (hMl q K hM).2;unfold kY;rw[hM];exact this)
    have hms':∀ i,i≤k→jH p (iG p i) ((fun i=>if i=k then M else Ms i) i):=fun i hi=>by
     by_cases e:i=k
     ·subst e
      dsimp only
      rw[if_pos rfl,HFK.out];exact hfl
     ·dsimp only
      rw[if_neg e];exact(HMS.out i (by omega)).1
    have hms2:∀ i,i<k→(jI p (iG p i) ((fun i=>if i=k then M else Ms i) i)).1=0:=fun i hi=>by
     dsimp only
     rw[if_neg (by omega)];exact(HMS.out i hi).2
    have L2:=k_ l2;have HMS1:=k_ hms';have HMS2:=k_ hms2;have HW6:=k_ hW6;have HF36:=k_ hf36;have HWY6:=k_ hwy6;have HB6:=k_ hB6;have HN6:=k_ hn6;replace k0:=hf36.cell (HS.out w3 HB3.out).1 (fun e=>by unfold onB at e;dsimp only at e;omega);replace k1:=hf36.cell (HS.out w3 HB3.out).2.1 (fun e=>by unfold onB at e;dsimp only at e;omega);replace k2:=hf36.cell (HS.out w3 HB3.out).2.2 (fun e=>by unfold onB at e;dsimp only at e;omega);clear hbl6 hs5 hwbe h3r hs3 hyb hyy hbl h56 h5w hB6 hf36 hne hwy6 hpv6 hD6 hB6' hpvx hMl l2 hms' hms2 hW6 hfl hn6 hf6;have HYL2:=HYL;obtain⟨r1,hr1⟩:∃ r1,r1=(List.range p.funcs[k].code.length).find? (lu p.funcs[k] M):=⟨_,rfl⟩;have l1:Calls Tryz.prog 114 #[.pointer (some ⟨wb,0,none⟩),.func (.func 115) #[.pointer (some ⟨wb,0,none⟩)] #[]] w6 (jY k r1 w6):=by rw[hr1];exact l1
    cases r1 with
    | some q =>
      have l1:Calls Tryz.prog 114 #[.pointer (some ⟨wb,0,none⟩),.func (.func 115) #[.pointer (some ⟨wb,0,none⟩)] #[]] w6 fun e w'=>e=.returned (.tuple #[.agg #[.int .i64 (k:Nat),.int .i64 (q:Nat)],.bool true])∧Below w6.heap.size w6 w':=l1
      have HER:=k_ (show pE p 7 k q from⟨by decide,.inr ⟨HP0.out,HLT.out,_,HMS1.out,HMS2.out,by rw[HFK.out,if_pos rfl];exact Dr hr1.symm⟩⟩);have L1:=k_ l1;clear l1 hr1;go_wp2_with fail;refine L1.out.mono ?_;rintro e w7 ⟨rfl,hb7⟩;have hly2:=ai w7 (.cells #[.int .i64 (k:Nat),.int .i64 (q:Nat)] 147);have hb8:=hb7.alloc hb7.size (.cells #[.int .i64 (k:Nat),.int .i64 (q:Nat)] 147);obtain⟨z,hz⟩:∃ z,z=w7.heap.size:=⟨_,rfl⟩;obtain⟨w8,hw8⟩:∃ w8,w8=w7.alloc (.cells #[.int .i64 (k:Nat),.int .i64 (q:Nat)] 147):=⟨_,rfl⟩;rw[← hw8] at hly2 hb8;rw[← hz] at hly2;have HZ:=k_ hz;have HW8:=k_ hw8;have HZZ:=k_ hly2;have HYY:=k_ ((fb_ hb8).heap HWY6.out (fun h=>h));have HBX:=k_ (HB6.out.trans (hb8.mono HB6.out.size));clear hz hw8 hly2 hb8 hb7 k0 k1 k2
      go_upto_region 12 with fail
      rw[← HZ.out,← HW8.out];have x0:=(aa HZZ.out 0).1;have x1:=(aa HZZ.out 1).1;have v0:=(aa HYY.out 0).1;have v1:=(aa HYY.out 1).1;have f0:=(aa HYY.out 0).2;have f1:=(aa HYY.out 1).2;have x0:w8.cell? ⟨z,0,none⟩=some (.int .i64 (k:Nat)):=x0;have x1:w8.cell? ⟨z,1,none⟩=some (.int .i64 (q:Nat)):=x1;have v0:w8.cell? ⟨y,0,none⟩=some (.int .i64 0):=v0;have v1:w8.cell? ⟨y,1,none⟩=some (.int .i64 0):=v1
      go_cut [2,3] (fun s2 s3 wx=>s2=.pointer none∧s3=.int .i64 7∧wx.heap[y]?=some (.cells #[.int .i64 (k:Nat),.int .i64 (q:Nat)] 147)∧Below w.heap.size w wx)
      case first =>
       have hrw:=ag (ag (show w8.drew.heap[y]?=_ from HYY.out) 0 (.int .i64 (k:Nat))) 1 (.int .i64 (q:Nat));have hfx:Fr (onB y) w8.drew _:=((Fr.refl (onB y) w8.drew).setCell (p:=⟨y,0,none⟩) (fun _=>rfl) (.int .i64 (k:Nat))).setCell (p:=⟨y,1,none⟩) (fun _=>rfl) (.int .i64 (q:Nat));have hbx:=HBX.out.drew.trans (hfx.below HBX.out.size (fun q hq=>by unfold onB at hq;have:=HYL.out;omega));have HRW:=k_ hrw;have HBB:=k_ hbx;clear hrw hfx hbx
       go_region_law (fail)
       all_goals
        go_wp2_with fail
        go_meet
        exact⟨rfl,rfl,HRW.out,HBB.out⟩
      case rest =>
       obtain⟨rfl,rfl,hrw,hbx⟩:=hcut;have HRR:=k_ hrw;have HPP:=k_ (kR HER.out hbx);clear hrw hbx x0 x1 v0 v1 f0 f1
       go_wp2_with (with_reducible refine bodyPost_ret ?_ rfl HPP.out;have k0:=(aa HRR.out 0).1;have k1:=(aa HRR.out 1).1;simp at k0 k1;simp[results,Tryz.results95,go_sem,k0,k1])
    | none =>
      have l1:Calls Tryz.prog 114 #[.pointer (some ⟨wb,0,none⟩),.func (.func 115) #[.pointer (some ⟨wb,0,none⟩)] #[]] w6 fun e w'=>e=.returned (.tuple #[.agg #[.int .i64 0,.int .i64 0],.bool false])∧Below w6.heap.size w6 w':=l1
      have L1:=k_ l1;have HR1:=k_ hr1.symm;clear l1 hr1;go_wp2_with fail;refine L1.out.mono ?_;rintro e w7 ⟨rfl,hb7⟩;have hb8:=hb7.alloc hb7.size (.cells #[.int .i64 0,.int .i64 0] 147);obtain⟨w8,hw8⟩:∃ w8,w8=w7.alloc (.cells #[.int .i64 0,.int .i64 0] 147):=⟨_,rfl⟩;rw[← hw8] at hb8;have HW8:=k_ hw8;have HB68:=k_ hb8;have l2:=L2.out w8 hb8;replace k0:=ae hb8 k0;replace k1:=ae hb8 k1;replace k2:=ae hb8 k2;clear hw8 hb8 hb7 L2
      go_upto_region 13 with fail
      rw[← HW8.out];obtain⟨r2,hr2⟩:∃ r2,r2=(List.range p.funcs[k].code.length).find? (kY p p.funcs[k] M):=⟨_,rfl⟩;have l2:Calls Tryz.prog 114 #[.pointer (some ⟨wb,0,none⟩),.func (.func 116) #[.pointer (some ⟨wb,0,none⟩)] #[]] w8 (jY k r2 w8):=by rw[hr2];exact l2
      cases r2 with
      | some q =>
        have l2:Calls Tryz.prog 114 #[.pointer (some ⟨wb,0,none⟩),.func (.func 116) #[.pointer (some ⟨wb,0,none⟩)] #[]] w8 fun e w'=>e=.returned (.tuple #[.agg #[.int .i64 (k:Nat),.int .i64 (q:Nat)],.bool true])∧Below w8.heap.size w8 w':=l2
        have HER:=k_ (show pE p 3 k q from⟨by decide,.inr ⟨HP0.out,HLT.out,_,HMS1.out,HMS2.out,by rw[HFK.out,if_pos rfl];exact yc HR1.out hr2.symm⟩⟩);have L3:=k_ l2;clear l2 hr2;go_wp2_with fail;refine L3.out.mono ?_;rintro e w9 ⟨rfl,hb9⟩;have hb9:=HB68.out.trans (hb9.mono HB68.out.size);have hly2:=ai w9 (.cells #[.int .i64 (k:Nat),.int .i64 (q:Nat)] 147);have hb10:=hb9.alloc hb9.size (.cells #[.int .i64 (k:Nat),.int .i64 (q:Nat)] 147);obtain⟨z,hz⟩:∃ z,z=w9.heap.size:=⟨_,rfl⟩;obtain⟨w10,hw10⟩:∃ w10,w10=w9.alloc (.cells #[.int .i64 (k:Nat),.int .i64 (q:Nat)] 147):=⟨_,rfl⟩;rw[← hw10] at hly2 hb10;rw[← hz] at hly2;have HZ:=k_ hz;have HW10:=k_ hw10;have HZZ:=k_ hly2;have HYY:=k_ ((fb_ hb10).heap HWY6.out (fun h=>h));have HBX:=k_ (HB6.out.trans (hb10.mono HB6.out.size));clear hz hw10 hly2 hb10 hb9 k0 k1 k2
        go_upto_region 15 with fail
        rw[← HZ.out,← HW10.out];have x0:=(aa HZZ.out 0).1;have x1:=(aa HZZ.out 1).1;have v0:=(aa HYY.out 0).1;have v1:=(aa HYY.out 1).1;have f0:=(aa HYY.out 0).2;have f1:=(aa HYY.out 1).2;have x0:w10.cell? ⟨z,0,none⟩=some (.int .i64 (k:Nat)):=x0;have x1:w10.cell? ⟨z,1,none⟩=some (.int .i64 (q:Nat)):=x1;have v0:w10.cell? ⟨y,0,none⟩=some (.int .i64 0):=v0;have v1:w10.cell? ⟨y,1,none⟩=some (.int .i64 0):=v1
        go_cut [2,3] (fun s2 s3 wx=>s2=.pointer none∧s3=.int .i64 3∧wx.heap[y]?=some (.cells #[.int .i64 (k:Nat),.int .i64 (q:Nat)] 147)∧Below w.heap.size w wx)
        case first =>
         have hrw:=ag (ag (show w10.drew.heap[y]?=_ from HYY.out) 0 (.int .i64 (k:Nat))) 1 (.int .i64 (q:Nat));have hfx:Fr (onB y) w10.drew _:=((Fr.refl (onB y) w10.drew).setCell (p:=⟨y,0,none⟩) (fun _=>rfl) (.int .i64 (k:Nat))).setCell (p:=⟨y,1,none⟩) (fun _=>rfl) (.int .i64 (q:Nat));have hbx:=HBX.out.drew.trans (hfx.below HBX.out.size (fun q hq=>by unfold onB at hq;have:=HYL.out;omega));have HRW:=k_ hrw;have HBB:=k_ hbx;clear hrw hfx hbx
         go_region_law (fail)
         all_goals
          go_wp2_with fail
          go_meet
          exact⟨rfl,rfl,HRW.out,HBB.out⟩
        case rest =>
         obtain⟨rfl,rfl,hrw,hbx⟩:=hcut;have HRR:=k_ hrw;have HPP:=k_ (kR HER.out hbx);clear hrw hbx x0 x1 v0 v1 f0 f1
         go_wp2_with (with_reducible refine bodyPost_ret ?_ rfl HPP.out;have k0:=(aa HRR.out 0).1;have k1:=(aa HRR.out 1).1;simp at k0 k1;simp[results,Tryz.results95,go_sem,k0,k1])
      | none =>
        have l2:Calls Tryz.prog 114 #[.pointer (some ⟨wb,0,none⟩),.func (.func 116) #[.pointer (some ⟨wb,0,none⟩)] #[]] w8 fun e w'=>e=.returned (.tuple #[.agg #[.int .i64 0,.int .i64 0],.bool false])∧Below w8.heap.size w8 w':=l2
        have hfe:(jI p p.funcs[k] M).1=0:=Ew HR1.out hr2.symm;have L3:=k_ l2;have HFE:=k_ hfe;clear l2 hr2 hfe;go_wp2_with fail;refine L3.out.mono ?_;rintro e w9 ⟨rfl,hb9⟩;have hb9:=HB68.out.trans (hb9.mono HB68.out.size);have hb10:=hb9.alloc hb9.size (.cells #[.int .i64 0,.int .i64 0] 147);have HB10:=k_ hb10;clear hb9 hb10 k0 k1 k2;go_wp2_with fail
        go_roundw
        case rel =>
         refine⟨k+1,HLT.out,by go_num,_,V',n',by rw[← BU];exact(HW6.out.below HB10.out).map,fun i hi=>?_,by have:=HNM.out;have:=HN6.out;omega,fun q hq=>?_,HF36.out.trans (Fr.of_below HB10.out (onB b)) (fun _ _ h=>h)⟩
         ·by_cases e:i=k
          ·subst e
           refine⟨HMS1.out i (Nat.le_refl _),?_⟩;rw[HFK.out,if_pos rfl];exact HFE.out
          ·exact⟨HMS1.out i (by omega),HMS2.out i (by omega)⟩
         ·have h1:=(HW6.out.below HB10.out).vlo q hq
          exact⟨by have:=h1.1;have:=h1.2.2.2.1;omega,h1.2.1⟩
        case measure=>simp[intOf];omega
   ·have hk':k=p.funcs.length:=by omega
    subst hk';have hb7:=(Below.refl wr.heap.size wr).alloc (Nat.le_refl _) (.cells #[.map (some b)] 195);have hl7:=ai wr (.cells #[.map (some b)] 195);obtain⟨mb,hmb⟩:∃ mb,mb=wr.heap.size:=⟨_,rfl⟩;obtain⟨w7,hw7⟩:∃ w7,w7=wr.alloc (.cells #[.map (some b)] 195):=⟨_,rfl⟩;rw[← hw7] at hb7 hl7;rw[← hmb] at hl7;have hy7:=(fb_ hb7).heap hwy (fun h=>h);have v0:w7.cell? ⟨y,0,none⟩=some (.int .i64 0):=(aa hy7 0).1;have v1:w7.cell? ⟨y,1,none⟩=some (.int .i64 0):=(aa hy7 1).1;have f0:=(aa hy7 0).2;have f1:=(aa hy7 1).2;have hyl:=HYL.out;have hyb:=HYB.out;have hfx:Fr (onB y) w7 _:=((Fr.refl (onB y) w7).setCell (p:=⟨y,0,none⟩) (fun _=>rfl) (.int .i64 0)).setCell (p:=⟨y,1,none⟩) (fun _=>rfl) (.int .i64 0);have hrw:=ag (ag hy7 0 (.int .i64 0)) 1 (.int .i64 0);have hB7:=hfb.trans (hb7.mono hfb.size);have hBx:=hB7.trans (hfx.below hB7.size (fun q hq=>by unfold onB at hq;omega));have hyw:=aj hwy;have hyV:∀ q,V q→q≠y:=fun q hq e=>by have:=(hV q hq).1;omega
    have hfin:=kw.intro_ok (p:=p) hBx HP0.out hms (mb:=mb) (b:=b) (nm:=nm) (V:=V) ⟨hfx.heap hl7 (fun e=>by unfold onB at e;omega),(hm.fr (fb_ hb7) (fun h=>h) (fun _ _ h=>h)).fr hfx (fun e=>by unfold onB at e;omega) (fun q hq e=>hyV q hq e),by have:=hfb.size;omega,hBb,fun q hq=>⟨by have:=(hV q hq).1;omega,by have:=(hV q hq).2;have:=hb7.size;have:=hfx.size;omega⟩⟩;have HRR:=k_ hrw;have HPP:=k_ hfin;subst hw7;subst hmb;clear hb7 hl7 hy7 hfx hrw hB7 hBx hfin hm hms hnm hV hf3 hfb hwy hyV hyw k0 k1 k2
    go_upto_region 17 with fail
    go_wp2_with (first | (with_reducible refine bodyPost_ret ?_ rfl HPP.out;have k0:=(aa HRR.out 0).1;have k1:=(aa HRR.out 1).1;simp at k0 k1;simp[results,Tryz.results95,go_sem,k0,k1]))
 ·have hEb:(E != 0)=true:=by simpa using hE
  have hly2:=ai w1 (.cells #[.int .i64 (ea:Nat),.int .i64 (eb:Nat)] 147);have hb2:=HB1.out.alloc HB1.out.size (.cells #[.int .i64 (ea:Nat),.int .i64 (eb:Nat)] 147);obtain⟨z,hz⟩:∃ z,z=w1.heap.size:=⟨_,rfl⟩;obtain⟨w2,hw2⟩:∃ w2,w2=w1.alloc (.cells #[.int .i64 (ea:Nat),.int .i64 (eb:Nat)] 147):=⟨_,rfl⟩;rw[← hw2] at hly2 hb2;rw[← hz] at hly2;have HZ:=k_ hz;have HW2:=k_ hw2;have HZZ:=k_ hly2;have HYY:=k_ ((fb_ hb2).heap HLY.out (fun h=>h));have HYL:=k_ (show w.heap.size≤y from by have:=HY.out;omega);have HBX:=k_ (HBW.out w2 hb2);have HER:=k_ (show pE p E ea eb from⟨hE,.inl HPS.out.symm⟩);clear hz hw2 hly2 hb2 hE
  go_upto_region 3 with fail
  rw[← HZ.out,← HW2.out];clear k0 k1 k2;have x0:=(aa HZZ.out 0).1;have x1:=(aa HZZ.out 1).1;have v0:=(aa HYY.out 0).1;have v1:=(aa HYY.out 1).1;have f0:=(aa HYY.out 0).2;have f1:=(aa HYY.out 1).2;have x0:w2.cell? ⟨z,0,none⟩=some (.int .i64 (ea:Nat)):=x0;have x1:w2.cell? ⟨z,1,none⟩=some (.int .i64 (eb:Nat)):=x1;have v0:w2.cell? ⟨y,0,none⟩=some (.int .i64 0):=v0;have v1:w2.cell? ⟨y,1,none⟩=some (.int .i64 0):=v1
  go_cut [2,3] (fun s2 s3 wx=>s2=.pointer none∧s3=.int .i64 E∧wx.heap[y]?=some (.cells #[.int .i64 (ea:Nat),.int .i64 (eb:Nat)] 147)∧Below w.heap.size w wx)
  case first =>
   have hrw:=ag (ag (show w2.drew.heap[y]?=_ from HYY.out) 0 (.int .i64 (ea:Nat))) 1 (.int .i64 (eb:Nat));have hfx:Fr (onB y) w2.drew _:=((Fr.refl (onB y) w2.drew).setCell (p:=⟨y,0,none⟩) (fun _=>rfl) (.int .i64 (ea:Nat))).setCell (p:=⟨y,1,none⟩) (fun _=>rfl) (.int .i64 (eb:Nat));have hbx:=HBX.out.drew.trans (hfx.below HBX.out.size (fun q hq=>by unfold onB at hq;have:=HYL.out;omega));have HRW:=k_ hrw;have HBB:=k_ hbx;clear hrw hfx hbx
   go_region_law (fail)
   all_goals
    go_wp2_with fail
    go_meet
    exact⟨rfl,rfl,HRW.out,HBB.out⟩
  case rest =>
   obtain⟨rfl,rfl,hrw,hbx⟩:=hcut;have HRR:=k_ hrw;have HPP:=k_ (kR HER.out hbx);clear hrw hbx x0 x1 v0 v1 f0 f1
   go_wp2_with (with_reducible refine bodyPost_ret ?_ rfl HPP.out;have k0:=(aa HRR.out 0).1;have k1:=(aa HRR.out 1).1;simp at k0 k1;simp[results,Tryz.results95,go_sem,k0,k1])
def sx:Flo:=fun q=>if q=0 then some [0] else if q=1 then some [1] else if q=2 then some [1] else if q=3 then some [0] else none
end Go.Proofs.YtlofbhoicbemnaaGreatDoor
namespace Go.Proofs.YtlofbhoicbemnaaGreatDoor
def KG (more:Bool) (pc:Nat):Nat→Int→Prop:=fun q _=>more=true∨pc≤q
def KL (more:Bool) (pc:Nat) (rem:List Int):Nat→Int→Prop:=fun q m=>more=true∨pc<q∨(q=pc∧m ∈ rem)
open Go.ChangeShapes Go.WideShapes Go.ChangeAt Go.RowKit Go.Maps
def leB (K L:List Int):Bool:=K.length == L.length && (List.range K.length).all fun j=>(K[j]?).getD 0 == 0 || (K[j]?).getD 0 == (L[j]?).getD 0
theorem Aa {K L:List Int} (h:leB K L=true):Le K L:=by
 unfold leB at h;rw[Bool.and_eq_true] at h;refine⟨by simpa using h.1,fun j=>?_⟩
 rcases Nat.lt_or_ge j K.length with hj | hj
 ·have:=List.all_eq_true.1 h.2 j (List.mem_range.2 hj)
  simpa using this
 ·rw[List.getElem?_eq_none hj]
  exact .inl rfl
def mG (t:List (Option (List Int))):Flo:=fun q=>(t[q]?).getD none
def IU (p:Prg) (f:Fun) (t:List (Option (List Int))):Bool :=
 t.length == f.code.length && (match mG t 0 with | some K=>leB K (dM f) | none=>false) &&
 (List.range f.code.length).all fun q=>match mG t q with
  | none=>true
  | some K=>K.length == f.slots.toNat && (dB (gL f q) q).all fun m=>!decide (0≤m∧m<f.code.length) || (match mG t m.toNat with | some L=>leB L (dL p f (gL f q) K) | none=>false)
def I5 (p:Prg) (f:Fun) (t:List (Option (List Int))) (par:List Nat):Bool :=
 (List.range f.code.length).all fun q=>match mG t q with
  | none=>true
  | some K=>(q == 0 && leB K (dM f) && leB (dM f) K) || (let r:=(par[q]?).getD 0;decide (r<q) && (dB (gL f r) r).contains (q:Int) && (match mG t r with | some L=>dL p f (gL f r) L == K | none=>false))
theorem zo {p:Prg} {f:Fun} {t:List (Option (List Int))} {par:List Nat} (ho:∀ i ∈ f.code,uY p i) (h1:IU p f t=true) (h2:I5 p f t par=true):jH p f (mG t):=by
 have hlen:t.length=f.code.length:=by
  unfold IU at h1;rw[Bool.and_eq_true,Bool.and_eq_true] at h1
  simpa using h1.1.1
 have hlt:∀ q K,mG t q=some K→q<f.code.length:=fun q K hq=>by
  rcases Nat.lt_or_ge q t.length with h | h
  ·omega
  ·unfold mG at hq
   rw[List.getElem?_eq_none h] at hq
   cases hq
 have hat:∀ q i,f.code[q]?=some i→gL f q=i:=fun q i hi=>by unfold gL;rw[hi];rfl
 have hin:∀ {q},q<f.code.length→f.code[q]?=some (gL f q):=fun {q} hq=>by
  unfold gL;rw[List.getElem?_eq_getElem hq]
  rfl
 unfold IU at h1;rw[Bool.and_eq_true,Bool.and_eq_true] at h1;obtain⟨⟨_,h1a⟩,h1b⟩:=h1;have hrow:∀ q K,mG t q=some K→K.length=f.slots.toNat∧∀ m:Nat,(m:Int) ∈ dB (gL f q) q→m<f.code.length→∃ L,mG t m=some L∧Le L (dL p f (gL f q) K):=fun q K hq=>by
  have h3:=List.all_eq_true.1 h1b q (List.mem_range.2 (hlt q K hq));simp only[hq] at h3;rw[Bool.and_eq_true] at h3;refine⟨by simpa using h3.1,fun m hm hml=>?_⟩;have h4:=List.all_eq_true.1 h3.2 (m:Int) hm;rw[decide_eq_true (show (0:Int)≤(m:Int)∧(m:Int)<(f.code.length:Int) by omega)] at h4;simp only[Int.toNat_natCast,Bool.not_true,Bool.false_or] at h4
  cases hL:mG t m with
  | none=>rw[hL] at h4;cases h4
  | some L=>rw[hL] at h4;exact⟨L,rfl,Aa h4⟩
 refine⟨⟨?_,fun q K hq=>⟨hlt q K hq,(hrow q K hq).1⟩,fun q K i hq hi m hm hml=>?_⟩,fun S hS q=>?_⟩
 ·cases h0:mG t 0 with
  | none=>rw[h0] at h1a;cases h1a
  | some K=>rw[h0] at h1a;exact⟨K,rfl,Aa h1a⟩
 ·have e:=hat q i hi
  subst e;exact(hrow q K hq).2 m hm hml
 ·induction q using Nat.strongRecOn with
  | ind q ih =>
    intro K hq;have hql:=hlt q K hq;have h3:=List.all_eq_true.1 h2 q (List.mem_range.2 hql);simp only[hq] at h3;rw[Bool.or_eq_true] at h3
    rcases h3 with h3 | h3
    ·rw[Bool.and_eq_true,Bool.and_eq_true] at h3
     obtain⟨⟨e,_⟩,h5⟩:=h3;have e:q=0:=by simpa using e
     subst e;obtain⟨L,hL,hle⟩:=hS.first;exact⟨L,hL,hle.trans (Aa h5)⟩
    ·generalize (par[q]?).getD 0=r at h3
     simp only[Bool.and_eq_true] at h3;obtain⟨⟨hr,hc⟩,hK⟩:=h3;have hr:=of_decide_eq_true hr
     cases hL:mG t r with
     | none=>rw[hL] at hK;cases hK
     | some L =>
       rw[hL] at hK;have hK:dL p f (gL f r) L=K:=by simpa using hK
       have hrl:=hlt r L hL;obtain⟨L',hL',hle'⟩:=ih r hr L hL;have hmem:(q:Int) ∈ dB (gL f r) r:=by simpa using hc
       obtain⟨M,hM,hMle⟩:=hS.step r L' _ hL' (hin hrl) q hmem hql;refine⟨M,hM,hMle.trans ?_⟩;rw[← hK];exact Bc hle' p f _ (ho _ (List.mem_of_getElem? (hin hrl)))
theorem uS {p:Prg} {f:Fun} {M N:Flo} (h:jH p f M) (h2:jH p f N):M=N:=by
 have hle2:∀ {K L:List Int},Le K L→Le L K→K=L:=fun {K L} h h2=>by
  refine List.ext_getElem h.1 fun j hj hj2=>?_
  have e:=h.2 j;have e2:=h2.2 j;rw[List.getElem?_eq_getElem hj,List.getElem?_eq_getElem hj2] at e e2;simp only[Option.getD_some] at e e2
  omega
 funext q
 cases hm:M q with
 | none =>
   cases hn:N q with
   | none=>rfl
   | some K =>
     obtain⟨L,hL,_⟩:=h2.2 M h.1 q K hn;rw[hm] at hL
     cases hL
 | some K =>
   obtain⟨L,hL,hle⟩:=h.2 N h2.1 q K hm;obtain⟨K2,hK2,hle3⟩:=h2.2 M h.1 q L hL;rw[hm] at hK2
   injection hK2 with e
   subst e;rw[hL,hle2 hle hle3]
def I8 (p:Prg) (tb:Nat→List (Option (List Int))):Prop:=∀ i,i<p.funcs.length→jH p (iG p i) (mG (tb i))∧(jI p (iG p i) (mG (tb i))).1=0
theorem Ee {p:Prg} {tb:Nat→List (Option (List Int))} (h0:(gu p).1=0) (ht:I8 p tb) {w:World} {e:Ending} {w':World} (h:kw p w e w') :
  Below w.heap.size w w'∧∃ Ms mb b nm V,(∀ i,i<p.funcs.length→Ms i=mG (tb i))∧e=.returned (.tuple #[.pointer (some ⟨mb,0,none⟩),.int .i64 0,.agg #[.int .i64 0,.int .i64 0]])∧Af w' w.heap.size mb b nm V (allM p.funcs.length Ms):=by
 obtain⟨hb,h⟩:=h;refine⟨hb,?_⟩
 rcases h with⟨E,fn,pc,hf,_⟩ | ⟨_,Ms,mb,b,nm,V,hms,he,hm⟩
 ·obtain⟨hE,hf⟩:=hf
  rcases hf with hf | ⟨_,hfn,Ms,hms,_,hfe⟩
  ·rw[hf] at h0
   exact absurd h0 hE
  ·have hu:=uS (hms fn (Nat.le_refl _)) (ht fn hfn).1
   rw[hu] at hfe;have h2:=(ht fn hfn).2;rw[hfe] at h2;exact absurd h2 hE
 ·exact⟨Ms,mb,b,nm,V,fun i hi=>uS (hms i hi).1 (ht i hi).1,he,hm⟩
end Go.Proofs.YtlofbhoicbemnaaGreatDoor
