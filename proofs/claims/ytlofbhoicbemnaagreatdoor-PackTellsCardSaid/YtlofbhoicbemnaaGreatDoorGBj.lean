/- Walk: a function's flow. Walks: the questions that are asked of each place. -/
import Derived.Test.YtlofbhoicbemnaaGreatDoorGBi
set_option linter.unusedVariables false
set_option linter.unusedSimpArgs false
set_option maxRecDepth 100000
set_option maxHeartbeats 6400000
namespace Go.Proofs.YtlofbhoicbemnaaGreatDoor
open Go.ChangeShapes Go.WideShapes Go.ChangeAt Go.RowKit Go.Maps
def Gu (p:Prg) (f:Fun) (C0:Pl→Option (List Int)) (j B wb b nn:Nat) (c0 c1 c2:Value) (w0:World) (wr:World) (m:Nat):Prop :=
 m≤3000∧∃ M Q,RI p f C0 j B wb b nn c0 c1 c2 w0 (.slice none 0 0) wr M Q (fun q _=>q ∈ Q)∧msr f M Q=m
theorem uQ (i:Ins) (pc:Int):(dB i pc).length≤2:=by
 unfold dB
 repeat' split
 all_goals simp
theorem FQ (s N:Nat) (hs:s≤16):pot s (fun _=>none) N≤N * 17:=by
 induction N with
 | zero=>simp[pot]
 | succ N ih =>
   show pot s (fun _=>none) N+(s+1)≤(N+1) * 17
   omega
theorem EA {p:Prg} {f:Fun} {C:Pl→Option (List Int)} {j B wb b n:Nat} {V:Nat→Prop} {c0 c1 c2:Value} {w0 w':World} {hpl:aJ (j:Int)∧aJ ((0:Nat):Int)} {e:Ending} (hC:∀ x:Pl,x.1.1=j→C x=none) (h0:0<f.code.length) (ha:(f.args.length:Int)≤f.slots) (hs:f.slots≤16) (hN:f.code.length≤64)
  (h:uf w0 B wb b n V c0 c1 c2 (j:Int) C (.slice none 0 0) [] ⟨((j:Int),((0:Nat):Int)),hpl⟩ (dM f) e w') :
  e=.returned (.tuple #[])∧Gu p f C j B wb b (n+1088) c0 c1 c2 w0 w' (msr f (dm (fun _=>none) 0 (dM f)) [0]):=by
 obtain⟨he,V',tv',h1,h2,h3⟩:=h;have hc0:C ⟨((j:Int),((0:Nat):Int)),hpl⟩=none:=hC _ rfl;have hk:=rX ha;rw[hc0] at h1;have e2:upd C ⟨((j:Int),((0:Nat):Int)),hpl⟩ (some (Ap none (dM f)))=gq C j (dm (fun _=>none) 0 (dM f)):=by
  have:=sV C j (fun _=>none) 0 (dM f) hpl;rw[yz C j hC] at this;exact this
 rw[e2] at h1;have hp:=xJ (M:=fun _=>none) (s:=f.slots.toNat) (n:=f.code.length) (m:=0) (K:=dM f) h0 hk (fun was hw=>by cases hw);have hlt:=hp.2 (fun was hw=>by cases hw);have hb:=FQ f.slots.toNat f.code.length (by omega);refine⟨he,⟨by unfold msr;simp only[List.length_singleton];omega,_,[0],⟨_,V',tv',h1,(FInv.start h0 ha).weaken (fun q m hq=>by rw[hq];simp),fun q hq=>?_,h2,h3,?_⟩,rfl⟩⟩
 ·simp at hq
  subst hq;unfold dm
  simp
 ·show n+1+_≤_
  omega
def gW (p:Prg) (C:Pl→Option (List Int)) (j:Nat) (f:Fun) (B wb b n:Nat) (c0 c1 c2:Value) (w:World) (e:Ending) (w':World):Prop :=
 e=.returned (.tuple #[])∧∃ M n' V' tv',jH p f M∧WalkV w' B wb b n' V' c0 c1 c2 (j:Int) (gq C j M) tv' []∧n'≤n+1088∧Fr (WF wb b (.slice none 0 0)) w w'
theorem vP (w:World) (B wb b n:Nat) (V D:Nat→Prop) (c0 c1 c2:Value) (j:Nat) (C:Pl→Option (List Int)) (p:Prg) (hw:WalkV w B wb b n V c0 c1 c2 (j:Int) C (.slice none 0 0) []) (hB:B≤w.heap.size) (hD:∀ k,D k→k<B) (hv:aD w D p c0 c1 c2) (hp:pM p) (hq:qP p) (hf:PrgFit p) (hj:j<p.funcs.length)
  (hC:∀ x:Pl,x.1.1=j→C x=none) (hCl:∀ x K,C x=some K→K.length≤100000) (hn:n≤1000000) :
  Calls Tryz.prog 113 #[.pointer (some ⟨wb,0,none⟩)] w (gW p C j p.funcs[j] B wb b n c0 c1 c2 w):=by
 have hff:=hf.fn _ (List.getElem_mem hj);have hj16:j<16:=by have:=hf.funcs2;omega
 obtain⟨sN,hsN⟩:∃ sN:Nat,p.funcs[j].slots=(sN:Int):=⟨p.funcs[j].slots.toNat,by have:=hff.args;omega⟩;have hP:∀ wr,Below w.heap.size w wr→aD wr D p c0 c1 c2:=fun wr hb=>hv.fr (fb_ hb) (fun _ _ h=>h)
 have hv2:=hv;obtain⟨⟨a0,m0,rfl,_⟩,⟨a1,m1,rfl,_⟩,a2,m2,rfl,hfs⟩:=hv2;obtain⟨bb,o,rfl,hDb,y0,y1,y2,y3,y4,g0,g1,g2,g3,g4,hfv⟩:=hfs j hj;have hfw:=hfv;obtain⟨rfl,rfl,⟨e0,e1,rfl,hargs⟩,⟨e2,e3,rfl,_⟩,e4,e5,rfl,hcs⟩:=hfv;obtain⟨k0,k1,k2,k3,k4,k5,k6⟩:=hw.cells rfl;have hsz0:=hw.row;have hj1:(j:Int)<p.funcs.length:=by omega
 obtain⟨f,hfe⟩:∃ f,f=p.funcs[j]:=⟨_,rfl⟩;rw[← hfe] at hff hsN hfw hargs hcs g0 g1 g2 g3 g4 ⊢;have mk:=fun w=>IA w sN (by have:=hff.slots;omega)
 rw[hsN] at g2;have b0:=World.block_lt k0;have bg:=World.block_lt g0
 dsimp only at b0 bg
 have HB0:=k_ (Below.refl w.heap.size w);have HFF:=k_ hff;have HSN:=k_ hsN;have HIA:=k_ (show ∀ (m:Nat) (i:Ins),f.code[m]?=some i→iAt p j m=some i from fun m i h=>zN hj (hfe ▸ h));have HI64:=k_ (show aJ (j:Int) from⟨by omega,by omega⟩);have HARGS:=k_ hargs;have HWV:=k_ hw;have HHC:=k_ hC;have HCL:=k_ hCl;have HP:=k_ hP;have HFW:=k_ hfw;have HPB:=k_ hp;have HPR:=k_ hq;have HPF:=k_ hf;have HD:=k_ hD;have HBB:=k_ hB;have HNN:=k_ hn;clear hff hsN hfe hargs hw hC hCl hP hfw hp hq hf hD hB hn hsz0 hfs hcs hv;clear k1 k6
 go_enter Tryz.func113,Tryz.ntmps113
 go_upto_region 0 with fail
 go_cut [2] (fun s wx=>∃ z:Nat,s=.pointer (some ⟨z,0,none⟩)∧wx.heap[z]?=some (.cells #[.slice e0 f.args.length e1,.int .i64 f.result,.int .i64 sN,.slice e2 f.objects.length e3,.slice e4 f.code.length e5] 66)∧w.heap.size≤z∧Below w.heap.size w wx)
 case first =>
  go_region
  all_goals
   go_wp2_with fail
   go_meet
   case rel=>exact⟨_,rfl,ai _ _,Nat.le_refl _,(HB0.out.drew).alloc (HB0.out.size) _⟩
 case rest =>
  obtain⟨z,rfl,hz,hzl,hbz⟩:=hcut;clear k0 k2 k3 k4 k5 g0 g1 g2 g3 g4 b0 bg;obtain⟨⟨z0,z1,z2,z3,z4⟩,_⟩:=aB hz;have zz:=aj hz;have hfk:dM f=f.args ++ List.replicate (sN - f.args.length) 0:=by unfold dM;rw[HSN.out];rfl
  have haN:f.args.length≤sN:=by have:=HFF.out.args;have:=HSN.out;omega
  have hfl:(dM f).length=sN:=by rw[hfk];simp;omega
  have hb2:=hbz.alloc hbz.size (.cells (eu (List.replicate sN 0)).toArray 3);have hb12:=(Below.refl wc.heap.size wc).alloc (Nat.le_refl _) (.cells (eu (List.replicate sN 0)).toArray 3);have hrw:=ai wc (.cells (eu (List.replicate sN 0)).toArray 3);have hag2:=HARGS.out.fr (fb_ hb2) (fun _ _ h=>h);replace z0:=ae hb12 z0;replace z1:=ae hb12 z1;replace z3:=ae hb12 z3;replace z4:=ae hb12 z4;have z2':=ae hb12 z2;have hgs:=hbz.size
  go_upto_region 2 with fail
  obtain⟨g,hg⟩:∃ g,g=wc.heap.size:=⟨_,rfl⟩;obtain⟨w2,hw2⟩:∃ w2,w2=wc.alloc (.cells (eu (List.replicate sN 0)).toArray 3):=⟨_,rfl⟩;rw[← hw2] at hb2 hb12 hrw hag2 z0 z1 z3 z4 z2' ⊢;rw[← hg] at hrw hgs ⊢;have hz2:=(fb_ hb12).heap hz (fun h=>h);have hzg:z<g:=by rw[hg];exact zz
  clear hw2 hg z2 hz zz;have HHZ:=k_ hz2;have HBZ:=k_ hb2;have HAG:=k_ hag2;have HFK:=k_ hfk;have HRW:=k_ hrw;have HFL:=k_ hfl;clear hz2 hb2 hag2 hfk hrw hfl hb12 hbz;obtain⟨w3,hrun,hr3,hf3⟩:=H6 w2 3 g sN (List.replicate sN 0) (by simp) HRW.out D e0 f.args e1 HAG.out haN;rw[List.drop_replicate,← HFK.out] at hr3;have hB3:=HBZ.out.trans (hf3.below HBZ.out.size (fun k hk=>by unfold onB at hk;omega));have hz3:=hf3.heap HHZ.out (fun e=>by unfold onB at e;omega);obtain⟨fa,fc,hfv,hfs⟩:=bI (aR (B:=w.heap.size) hr3 HFL.out (by have:=HFF.out.slots;have:=HSN.out;omega) hgs)
  injection hfv with v1 v2 v3
  subst v1;clear v2 v3;have hW3:=HWV.out.below hB3;have cm:=yo w3 B wb b n V _ _ _ (j:Int) C (.slice none 0 0) [] hW3 (by have:=HBB.out;have:=hB3.size;omega) ((0:Nat):Int) ⟨HI64.out,⟨by omega,by omega⟩⟩ _ (some ⟨g,0,none⟩) (dM f) sN hfs (by have:=HFL.out;have:=HFF.out.slots;have:=HSN.out;omega) HCL.out (by have:=HNN.out;unfold maxLen;omega) (by simp);rw[HFL.out] at cm;clear hr3 hf3 hfs hW3;have HZ3:=k_ hz3;have HB3:=k_ hB3;clear hz3 hB3;have CM:=k_ cm;clear cm;go_wp2_with fail;clear hrun;clear z0 z1 z3 z4 z2';refine CM.out.mono ?_;intro e w4 hco;have hst:=EA (p:=p) HHC.out (by have:=HFF.out.code1;omega) HFF.out.args HFF.out.slots HFF.out.code2 hco;clear hco;obtain⟨rfl,hrr⟩:=hst;have HRR:=k_ hrr;clear hrr
  go_upto_region 4 with fail
  have HN1:=HNN
  go_loopw [] (fun wr=>∃ m,Gu p f C j B wb b (n+1088) (.slice a0 p.globals.length m0) (.slice a1 p.shapes.length m1) (.slice (some ⟨bb,o,none⟩) p.funcs.length m2) w3 wr m) (fun wr=>pQ (Gu p f C j B wb b (n+1088) (.slice a0 p.globals.length m0) (.slice a1 p.shapes.length m1) (.slice (some ⟨bb,o,none⟩) p.funcs.length m2) w3 wr))
  case atStart=>exact⟨_,HRR.out⟩
  case round =>
   have hR:=yf hrel;obtain⟨mm,hmm⟩:∃ mm,mm=pQ (Gu p f C j B wb b (n+1088) (.slice a0 p.globals.length m0) (.slice a1 p.shapes.length m1) (.slice (some ⟨bb,o,none⟩) p.funcs.length m2) w3 wr):=⟨_,rfl⟩;rw[← hmm] at hR ⊢;clear hmm hrel HRR;obtain⟨hm3,M,Q,⟨n',V',tv',hW,hF,hQ,hfr,htv,hnn⟩,hms⟩:=hR;obtain⟨r0,r1,r2,r3,r4,r5,r6⟩:=hW.cells rfl
   cases Q with
   | nil =>
     obtain⟨ta,tc,rfl⟩:=hW.que.slice;have hl0:(qv []).length=0:=rfl;rw[hl0] at r5;have hfin:gW p C j f B wb b n (.slice a0 p.globals.length m0) (.slice a1 p.shapes.length m1) (.slice (some ⟨bb,o,none⟩) p.funcs.length m2) w (.returned (.tuple #[])) wr:=by
      refine⟨rfl,M,n',V',_,hF.done (fun q m hq=>by cases hq),hW,by omega,(Fr.of_below HB3.out _).trans hfr (fun _ _ h=>h)⟩
     clear hW hF hQ hfr htv hnn hms hm3;have HFIN:=k_ hfin;clear hfin;go_wp2_with fail
     go_end0
     exact HFIN.out
   | cons pc Q =>
     have hqv:qv (pc :: Q)=(pc:Int) :: qv Q:=rfl;rw[hqv] at hW;obtain⟨g1,o1,cc,rfl,q1,hob,v',hqq,hsub,hsl⟩:=hW.que.first;obtain⟨pa,pcap,rfl⟩:=hqq.slice;obtain⟨hW5,hf5⟩:=G6 hW hqq hsub;obtain⟨K0,hK0⟩:∃ K0,M pc=some K0:=by
      have:=hQ pc (by simp)
      cases h:M pc with
      | none=>rw[h] at this;cases this
      | some K=>exact⟨K,rfl⟩
     obtain⟨hpcN,hKl⟩:=hF.len pc K0 hK0;obtain⟨i,hi⟩:∃ i,f.code[pc]?=some i:=⟨_,List.getElem?_eq_getElem hpcN⟩;have hpl:((pc:Int) :: qv Q).length=Q.length+1:=by simp[qv]
     rw[hpl] at r5 hsl;have hql:(qv Q).length=Q.length:=by simp[qv]
     rw[hql] at hsl hW5 hf5 hqq hsub;have hpos:(0:Int)<((Q.length+1:Nat):Int):=by omega
     have HW:=k_ hW;clear hW;have HF:=k_ hF;clear hF;have HQ:=k_ hQ;clear hQ;have HFR:=k_ hfr;clear hfr;have HTV:=k_ htv;clear htv;have HNN:=k_ hnn;clear hnn;have HMS:=k_ hms;clear hms;have HM3:=k_ hm3;clear hm3;have HW5:=k_ hW5;clear hW5;have HF5:=k_ hf5;clear hf5;have HK0:=k_ hK0;clear hK0;have HKL:=k_ hKl;clear hKl;have HI:=k_ hi;clear hi;have HQQ:=k_ hqq;clear hqq;have HSUB:=k_ hsub;clear hsub;have HOB:=k_ hob;clear hob;have HPCN:=k_ hpcN;clear hpcN
     go_upto_region 7 with fail
     have hwb3:=aj HWV.out.row;have hb3:=HWV.out.map.lt;have hB3s:=HB3.out.size;have hz5:=HF5.out.heap (HFR.out.heap HZ3.out (fun e=>by
      rcases e with e | e | e
      ·omega
      ·omega
      ·cases e)) (fun e=>by
      rcases e with e | e | e
      ·omega
      ·omega
      ·have:=HTV.out _ e
       rcases this with h | h
       ·cases h
       ·have:=aj HZ3.out
        omega)
     have hF05:Fr (fun k=>B≤k) w _:=((Fr.of_below HB3.out (fun k=>B≤k)).trans (HFR.out.mono (G:=fun k=>B≤k) (fun k hk=>by
      rcases hk with e | e | e
      ·have:=HWV.out.bs.1;omega
      ·have:=HWV.out.bs.2.1;omega
      ·cases e)) (fun _ _ h=>h)).trans (HF5.out.mono (G:=fun k=>B≤k) (fun k hk=>by
      rcases hk with e | e | e
      ·have:=HWV.out.bs.1;omega
      ·have:=HWV.out.bs.2.1;omega
      ·exact(HW.out.que.lt e).1)) (fun _ _ h=>h)
     obtain⟨w5,hw5⟩:∃ w5,w5=wr.setCell ⟨wb,5,none⟩ (.slice pa Q.length pcap):=⟨_,rfl⟩;rw[← hw5] at HW5 HF5 hz5 hF05 ⊢;clear hw5 r0 r1 r2 r3 r4 r5 r6 q1 hsl hwb3 hb3 hB3s;obtain⟨r0,r1,r2,r3,r4,r5,r6⟩:=HW5.out.cells rfl;have hly:=ai w5 (.cells #[.int .i64 j,.int .i64 pc] 147);have hb56:=(Below.refl w5.heap.size w5).alloc (Nat.le_refl _) (.cells #[.int .i64 j,.int .i64 pc] 147);obtain⟨y,hy⟩:∃ y,y=w5.heap.size:=⟨_,rfl⟩;obtain⟨w6,hw6⟩:∃ w6,w6=w5.alloc (.cells #[.int .i64 j,.int .i64 pc] 147):=⟨_,rfl⟩;rw[← hw6] at hly hb56;rw[← hy] at hly;have HW6:=k_ hw6;have HY:=k_ hy;have HB56:=k_ hb56;have HLY:=k_ hly;have HZ5:=k_ hz5;have HF05:=k_ hF05;clear hw6 hy hb56 hly hz5 hF05
     go_upto_region 8 with fail
     rw[← HY.out,← HW6.out];clear r0 r1 r2 r3 r4 r5 r6;have hWV6:=HW5.out.below HB56.out;obtain⟨r0,r1,r2,r3,r4,r5,r6⟩:=hWV6.cells rfl;have y0:w6.cell? ⟨y,0,none⟩=some (.int .i64 j):=(aa HLY.out 0).1;have y1:w6.cell? ⟨y,1,none⟩=some (.int .i64 pc):=(aa HLY.out 1).1;have hz6:=(fb_ HB56.out).heap HZ5.out (fun h=>h);obtain⟨⟨z0,z1,z2,z3,z4⟩,_⟩:=aB hz6;have hF06:=HF05.out.trans (Fr.of_below HB56.out (fun k=>B≤k)) (fun _ _ h=>h);have hDB:∀ k,D k→¬ B≤k:=fun k hk h=>by have:=HD.out k hk;omega
     have hpv6:=((HP.out w (Below.refl _ _)).fr hF06 hDB);have hfv6:=HFW.out.fr hF06 hDB;have hDs:∀ k,D k→k<w6.heap.size:=fun k hk=>by have:=HD.out k hk;have:=HBB.out;have:=hF06.size;omega
     have hat:gq C j M ⟨((j:Int),(pc:Int)),HI64.out,⟨by omega,by have:=HFF.out.code2;have:=HPCN.out;omega⟩⟩=some K0:=by rw[lY];exact HK0.out
     obtain⟨ka,kc,hks,hlks⟩:=hWV6.map.some_runs _ K0 hat;have hlk:∀ W',Below w6.heap.size w6 W'→(Instr.lookup 187 (.map (some b)) (.agg #[.int .i64 j,.int .i64 pc]) false).run Tryz.prog W'=.ok (.slice ka K0.length kc) W':=fun W' h=>(hlks W' h).2
     clear hlks;have hins:=HFF.out.ins pc i HI.out;have hso:=Am HPF.out hins (by rw[HSN.out];omega);have hkl2:f.slots.toNat=K0.length:=HKL.out.symm;rw[hkl2] at hso;have hob6:∀ x ∈ f.objects,0≤x∧x<16:=fun x hx=>by have:=di (HFF.out.objs x hx);have:=HPF.out.shapes;omega
     have haf:=uG w6.drew (fun k=>k<w6.heap.size) p f K0 _ _ _ _ _ _ (.slice ka K0.length kc) i ⟨(hpv6.wide (D':=fun k=>k<w6.heap.size) hDs),(show dP w6.drew (fun k=>k<w6.heap.size) f (.slice e0 f.args.length e1) (.int .i64 f.result) (.int .i64 f.slots) (.slice e2 f.objects.length e3) (.slice e4 f.code.length e5) from(hfv6.wide hDs)),⟨ka,kc,rfl,hks.wide (fun k hk=>(hWV6.vlo k hk).2.1)⟩,fun k hk=>hk⟩ hso (by have:=HFF.out.slots;rw[← hkl2];omega) hob6 (El HPR.out.1.1 (HIA.out pc i HI.out));unfold bT at haf;rw[HSN.out] at haf;obtain⟨_,_,_,_,ca,cc5,hce,hcsl⟩:=id hfv6
     injection hce with hce1 hce2 hce3
     clear hce2 hce3;obtain⟨cb,co,hca,_,q0,q1,q2,q3⟩:=hcsl pc HPCN.out;have hieq:f.code[pc]'HPCN.out=i:=by
      have:=HI.out;rw[List.getElem?_eq_getElem HPCN.out] at this
      injection this
     rw[hieq] at q0 q1 q2 q3;rw[hca] at hce1;subst hce1;obtain⟨OUT,hOUT⟩:∃ OUT,OUT=dL p f i K0:=⟨_,rfl⟩;rw[← hOUT] at haf;have hpcn:(pc:Int)<(f.code.length:Int):=by have:=HPCN.out;omega
     have nx:=fun W' (h:Below w6.heap.size w6 W')=>oC W' D (fun k hk=>Nat.lt_of_lt_of_le (hDs k hk) h.size) p _ _ _ (hpv6.fr (fb_ h) (fun _ _ h=>h)) HPB.out HPR.out (j:Int) (pc:Int) HI64.out ⟨by omega,by have:=HFF.out.code2;omega⟩
     have hnx:oG p (j:Int) (pc:Int)=dB i pc:=by unfold oG;rw[HIA.out pc i HI.out]
     rw[hnx] at nx;have hNin:∀ x ∈ dB i pc,0≤x∧x≤f.code.length:=fun x hx=>EC (Am HPF.out hins (by rw[HSN.out];omega)) HPCN.out hx
     obtain⟨NL,hNL⟩:∃ NL,NL=dB i pc:=⟨_,rfl⟩;rw[← hNL] at nx hNin;have hio:=J3 HPF.out hso;have hlowS:∀ m:Nat,(m:Int) ∈ NL→m<f.code.length→∀ S,Sol p f S→∃ L,S m=some L∧Le L OUT:=fun m hm hml=>by
      rw[hOUT];exact HF.out.out HK0.out HI.out hio (hNL ▸ hm) hml
     have hOl:OUT.length=f.slots.toNat:=by rw[hOUT,Ex];exact HKL.out
     have HR0:=k_ ((Below.refl w6.heap.size w6).drew);have HW6V:=k_ hWV6;have HPV6:=k_ hpv6;have HHOUT:=k_ hOUT;have HHNL:=k_ hNL;have HNIN:=k_ hNin;have HNLL:=k_ (show NL.length≤2 from by rw[hNL];exact uQ i pc);have HLOW:=k_ hlowS;have HOL:=k_ hOl;have HF06:=k_ hF06;have HZ6:=k_ hz6;unfold mr at nx;obtain⟨xop,xa,xb,xc⟩:=i
     dsimp only at q0 q1 q2 q3 haf
     clear hWV6 hpv6 hfv6 hOUT hNL hNin hlowS hOl hF06 hz6 hat hks hins hso hkl2 hob6 hcsl hca hieq hnx hio hDB hDs;have HAF:=k_ haf;clear haf;have NX:=k_ nx;clear nx;have hS:∀ w',Below w6.heap.size w6 w'→w'.cell? ⟨wb,0,none⟩=some (.slice a0 p.globals.length m0)∧w'.cell? ⟨wb,1,none⟩=some (.slice a1 p.shapes.length m1)∧w'.cell? ⟨wb,2,none⟩=some (.slice (some ⟨bb,o,none⟩) p.funcs.length m2)∧w'.cell? ⟨wb,4,none⟩=some (.map (some b))∧w'.cell? ⟨y,0,none⟩=some (.int .i64 j)∧w'.cell? ⟨y,1,none⟩=some (.int .i64 pc)∧w'.cell? ⟨z,0,none⟩=some (.slice e0 f.args.length e1)∧w'.cell? ⟨z,1,none⟩=some (.int .i64 f.result)∧w'.cell? ⟨z,2,none⟩=some (.int .i64 sN)∧w'.cell? ⟨z,3,none⟩=some (.slice e2 f.objects.length e3)∧w'.cell? ⟨z,4,none⟩=some (.slice (some ⟨cb,co,none⟩) f.code.length e5)∧w'.cell? ⟨cb,co+pc * 4,none⟩=some (.int .i64 xop)∧w'.cell? ⟨cb,co+pc * 4+1,none⟩=some (.int .i64 xa)∧w'.cell? ⟨cb,co+pc * 4+2,none⟩=some (.int .i64 xb)∧w'.cell? ⟨cb,co+pc * 4+3,none⟩=some (.int .i64 xc)∧(Instr.lookup 187 (.map (some b)) (.agg #[.int .i64 j,.int .i64 pc]) false).run Tryz.prog w'=.ok (.slice ka K0.length kc) w':=fun w' h=>⟨ae h r0,ae h r1,ae h r2,ae h r4,ae h y0,ae h y1,ae h z0,ae h z1,ae h z2,ae h z3,ae h z4,ae h q0,ae h q1,ae h q2,ae h q3,hlk w' h⟩
     have HSS:=k_ hS;clear hS hlk r0 r1 r2 r3 r4 r5 r6 y0 y1 z0 z1 z2 z3 z4 q0 q1 q2 q3
     go_cut [6] (fun v wx=>Own aG wx w6.heap.size v OUT∧Below w6.heap.size w6 wx)
     case first =>
      have hSd:=HSS.out w6.drew HR0.out
      go_region_held3 (fun w'=>w'.cell? ⟨wb,0,none⟩=some (.slice a0 p.globals.length m0)∧w'.cell? ⟨wb,1,none⟩=some (.slice a1 p.shapes.length m1)∧w'.cell? ⟨wb,2,none⟩=some (.slice (some ⟨bb,o,none⟩) p.funcs.length m2)∧w'.cell? ⟨wb,4,none⟩=some (.map (some b))∧w'.cell? ⟨y,0,none⟩=some (.int .i64 j)∧w'.cell? ⟨y,1,none⟩=some (.int .i64 pc)∧w'.cell? ⟨z,0,none⟩=some (.slice e0 f.args.length e1)∧w'.cell? ⟨z,1,none⟩=some (.int .i64 f.result)∧w'.cell? ⟨z,2,none⟩=some (.int .i64 sN)∧w'.cell? ⟨z,3,none⟩=some (.slice e2 f.objects.length e3)∧w'.cell? ⟨z,4,none⟩=some (.slice (some ⟨cb,co,none⟩) f.code.length e5)∧w'.cell? ⟨cb,co+pc * 4,none⟩=some (.int .i64 xop)∧w'.cell? ⟨cb,co+pc * 4+1,none⟩=some (.int .i64 xa)∧w'.cell? ⟨cb,co+pc * 4+2,none⟩=some (.int .i64 xb)∧w'.cell? ⟨cb,co+pc * 4+3,none⟩=some (.int .i64 xc)∧(Instr.lookup 187 (.map (some b)) (.agg #[.int .i64 j,.int .i64 pc]) false).run Tryz.prog w'=.ok (.slice ka K0.length kc) w') (first | with_reducible exact hSd | with_reducible exact hS7 | go_keep) (first
       | (go_at_call 161
          refine HAF.out.mono ?_;rintro e w7 ⟨v,rfl,ho7,hb7⟩;have hS7:=HSS.out w7 (HR0.out.trans (hb7.mono HR0.out.size));have HO7:=k_ ho7;have HB7:=k_ (HR0.out.trans (hb7.mono HR0.out.size));clear ho7 hb7))
      all_goals
       go_wp2_with fail
       go_meet
       exact⟨HO7.out,HB7.out⟩
     case rest =>
      generalize wc=w8 at *;obtain⟨ho8,hb8⟩:=hcut;obtain⟨oa,oc,rfl,hos⟩:=bI ho8;have hSc:=HSS.out w8 hb8;obtain⟨s0,s1,s2,_,s4,s5,_⟩:=hSc;have nxc:=NX.out w8.drew hb8.drew;have HS9:=k_ (show ∀ w',Below w8.heap.size w8 w'→w'.cell? ⟨wb,0,none⟩=some (.slice a0 p.globals.length m0)∧w'.cell? ⟨wb,1,none⟩=some (.slice a1 p.shapes.length m1)∧w'.cell? ⟨wb,2,none⟩=some (.slice (some ⟨bb,o,none⟩) p.funcs.length m2)∧w'.cell? ⟨y,0,none⟩=some (.int .i64 j)∧w'.cell? ⟨y,1,none⟩=some (.int .i64 pc) from fun w' h=>⟨ae h s0,ae h s1,ae h s2,ae h s4,ae h s5⟩);have HOB:=k_ (show ∀ k,(Value.slice oa OUT.length oc).ownBlock=some k→w6.heap.size≤k∧k<w8.heap.size from fun k hk=>ho8.lt hk);have HOS:=k_ hos;have HB8:=k_ hb8;have HNXC:=k_ nxc;have HRC:=k_ (Below.refl w8.heap.size w8).drew;clear hos hb8 ho8 nxc s0 s1 s2 s4 s5
      go_upto_region 9 with fail
      go_cut [83,84,85] (fun s83 s84 s85 wx=>∃ na nc,s83=.slice na NL.length nc∧aQ wx (fun k=>w8.heap.size≤k) na NL∧s84=.int .i64 NL.length∧s85=.int .i64 0∧Below w8.heap.size w8 wx)
      case first =>
       have hSd:=HS9.out w8.drew HRC.out
       go_region_held3 (fun w'=>w'.cell? ⟨wb,0,none⟩=some (.slice a0 p.globals.length m0)∧w'.cell? ⟨wb,1,none⟩=some (.slice a1 p.shapes.length m1)∧w'.cell? ⟨wb,2,none⟩=some (.slice (some ⟨bb,o,none⟩) p.funcs.length m2)∧w'.cell? ⟨y,0,none⟩=some (.int .i64 j)∧w'.cell? ⟨y,1,none⟩=some (.int .i64 pc)) (first | with_reducible exact hSd | with_reducible exact hS7 | go_keep) (first
        | (go_at_call 162
           refine HNXC.out.mono ?_;rintro e w9 ⟨v9,rfl,ho9,hb9⟩;obtain⟨na,nc,rfl,hns⟩:=bI ho9;have hS7:=HS9.out w9 (HRC.out.trans (hb9.mono HRC.out.size));have HNS:=k_ (hns.wide (D':=fun k=>w8.heap.size≤k) (fun k hk=>(ho9.lt hk).1));have HB9:=k_ (HRC.out.trans (hb9.mono HRC.out.size));clear ho9 hb9 hns))
       all_goals
        go_wp2_with fail
        go_meet
        exact⟨_,_,rfl,HNS.out,rfl,rfl,HB9.out⟩
      case rest =>
       obtain⟨na,nc,rfl,hns,rfl,rfl,hb9⟩:=hcut;generalize wc=wI at *;have hwb3:=aj HWV.out.row;have hb3:=HWV.out.map.lt;have hB3s:=HB3.out.size;have hz3l:=aj HZ3.out;have h3r:=HFR.out.size;have h5r:=HF5.out.size;have h56:=HB56.out.size;have h68:=HB8.out.size;have hWVI:=(HW6V.out.below HB8.out).below (hb9.mono (Nat.le_refl _));have htvI:∀ k,(Value.slice pa Q.length pcap).ownBlock=some k→w3.heap.size≤k∧k<w6.heap.size:=fun k hk=>by
        have h1:=HTV.out k (HSUB.out k hk);have h2:=HW6V.out.que.lt hk
        rcases h1 with h1 | h1
        ·cases h1
        ·exact⟨h1,h2.2⟩
       have hNW:∀ q,w6.heap.size≤q→¬ WF wb b (.slice pa Q.length pcap) q:=fun q hq e=>by
        rcases e with e | e | e
        ·omega
        ·omega
        ·have:=(htvI q e).2;omega
       have hzn:¬ WF wb b (.slice pa Q.length pcap) z:=fun e=>by
        rcases e with e | e | e
        ·omega
        ·omega
        ·have:=(htvI z e).1;omega
       have hzI:=(fb_ hb9).heap ((fb_ HB8.out).heap HZ6.out (fun h=>h)) (fun h=>h);have hosI:=HOS.out.fr (fb_ hb9) (fun _ _ h=>h);have hF3I:Fr (WF wb b (.slice none 0 0)) w3 wI:=((HFR.out.trans HF5.out (fun k hk e=>by
        rcases e with e | e | e
        ·exact .inl e
        ·exact .inr (.inl e)
        ·rcases HTV.out k e with h | h
         ·cases h
         ·omega)).trans (Fr.of_below HB56.out (WF wb b (.slice none 0 0))) (fun _ _ h=>h)).trans ((Fr.of_below HB8.out (WF wb b (.slice none 0 0))).trans (Fr.of_below hb9 (WF wb b (.slice none 0 0))) (fun _ _ h=>h)) (fun _ _ h=>h)
       have hFI:=HF.out.pop HI.out HHNL.out.symm;have hQI:∀ q ∈ Q,(M q).isSome=true:=fun q hq=>HQ.out q (List.mem_cons_of_mem _ hq)
       have hmm:msr f M Q+1=mm:=by have:=HMS.out;unfold msr at this ⊢;simp at this;omega
       have hsI:=hb9.size;have hBI:B≤wI.heap.size:=by have:=HBB.out;omega
       have HNSI:=k_ hns;have HZI:=k_ hzI;have HOSI:=k_ hosI;have HHNW:=k_ hNW;have HZN:=k_ hzn;have HF3I:=k_ hF3I;have HTVI:=k_ htvI;have HMM:=k_ hmm;have HBI:=k_ hBI;have HS68:=k_ h68;have HS8I:=k_ hsI;have HOB6:=k_ HOB.out;have hstart:RI p f C j B wb b (n+1088) (.slice a0 p.globals.length m0) (.slice a1 p.shapes.length m1) (.slice (some ⟨bb,o,none⟩) p.funcs.length m2) wI (.slice pa Q.length pcap) wI M Q (fun q m=>q ∈ Q∨(q=pc∧m ∈ NL.drop 0)):=⟨n',V',_,hWVI,hFI,hQI,Fr.refl _ _,fun k hk=>.inl hk,HNN.out⟩;have HSTART:=k_ hstart;clear hns hzI hosI hNW hzn hF3I htvI hmm hBI hwb3 hb3 hB3s hz3l h3r h5r h56 h68 hWVI hFI hQI hsI hstart hb9
       go_upto_region 10 with fail
       go_loopw [85] (fun i wr=>∃ k:Nat,k≤NL.length∧i=.int .i64 k∧∃ M2 Q2,RI p f C j B wb b (n+1088) (.slice a0 p.globals.length m0) (.slice a1 p.shapes.length m1) (.slice (some ⟨bb,o,none⟩) p.funcs.length m2) wI (.slice pa Q.length pcap) wr M2 Q2 (fun q m=>q ∈ Q2∨(q=pc∧m ∈ NL.drop k))∧(M2 pc=some K0∨pc ∈ Q2)∧msr f M2 Q2≤msr f M Q) (fun i _=>NL.length - (intOf i).toNat)
       case atStart=>exact⟨0,Nat.zero_le _,rfl,M,Q,HSTART.out,.inl HK0.out,Nat.le_refl _⟩
       case round =>
        obtain⟨k,hk,rfl,M2,Q2,⟨n2,V2,tv2,hW2,hF2,hQ2,hfr2,htv2,hnn2⟩,h02,hms2⟩:=hrel
        by_cases hlt:k<NL.length
        ·obtain⟨nb,no,rfl,hnb,hx⟩:=HNSI.out k hlt
         replace hx:=hfr2.cell hx (fun e=>HHNW.out nb (by have:=HS68.out;omega) e);have hmem:=List.getElem_mem hlt;obtain⟨hx0,hxN⟩:=HNIN.out _ hmem;obtain⟨x0,hx0e⟩:∃ x0:Nat,NL[k]=(x0:Int):=⟨NL[k].toNat,by omega⟩;rw[List.drop_eq_getElem_cons hlt,hx0e] at hF2;rw[hx0e] at hx hmem;have hz':=hfr2.heap HZI.out HZN.out;have z4:=(aa hz' 4).1;have z4:wr.cell? ⟨z,4,none⟩=some (.slice (some ⟨cb,co,none⟩) f.code.length e5):=z4;have hklt:(k:Int)<(NL.length:Int):=by omega
         have hnll:=HNLL.out;have hbk:aJ (x0:Int):=⟨by omega,by have:=HFF.out.code2;omega⟩;have i1:IntKind.i64.wrap ((k:Int)+1)=(k:Int)+1:=IntWalk.i64_in _ (by omega);clear hx0e hx0 hnll
         by_cases hmN:x0<f.code.length
         ·have hmN2:(x0:Int)<(f.code.length:Int):=by omega
          have hosr:=HOSI.out.fr hfr2 (fun q hq e=>HHNW.out q (HOB6.out q hq).1 e);have hq2l:(qv Q2).length≤1000000:=by
           have h1:(qv Q2).length=Q2.length:=by simp[qv]
           have h3:=HM3.out;have h4:=HMM.out;unfold msr at hms2 h4
           omega
          have cm:=yo wr B wb b n2 V2 _ _ _ (j:Int) (gq C j M2) tv2 (qv Q2) hW2 (by have:=HBI.out;have:=hfr2.size;omega) (x0:Int) ⟨HI64.out,hbk⟩ _ oa OUT oc hosr (by have:=HOL.out;have:=HFF.out.slots;omega) (DJ hF2 HFF.out.slots HCL.out) (by have:=HN1.out;unfold maxLen;omega) hq2l;have HLOW2:=k_ (HLOW.out x0 hmem hmN);have CM:=k_ cm;clear cm;have HF2:=k_ hF2;clear hF2;have HQ2:=k_ hQ2;clear hQ2;have HFR2:=k_ hfr2;clear hfr2;have HTV2:=k_ htv2;clear htv2;have HNN2:=k_ hnn2;clear hnn2;have H02:=k_ h02;clear h02;have HMS2:=k_ hms2;clear hms2;clear hW2 hq2l;go_wp2_with fail;refine CM.out.mono ?_;intro e w9 hco;have hst:=GN (K0:=K0) (i:=⟨xop,xa,xb,xc⟩) (rem:=NL.drop (k+1)) HF2.out HQ2.out HFR2.out HTV2.out HNN2.out H02.out HI.out hmN (by rw[← HHOUT.out];exact HOL.out) (by rw[← HHOUT.out];exact HLOW2.out) (by rw[← HHOUT.out];exact hco);clear hco;obtain⟨rfl,hri,h0',hms'⟩:=hst;have hms3:=Nat.le_trans hms' HMS2.out;have HRI:=k_ hri;have HH0:=k_ h0';have HMS3:=k_ hms3;clear hri h0' hms' hms3;go_wp2_with fail
          go_roundw
          case rel=>exact⟨k+1,hlt,by go_num,_,_,HRI.out,HH0.out,HMS3.out⟩
          case measure=>simp[intOf];omega
         ·have hmN2:¬ (x0:Int)<(f.code.length:Int):=by omega
          have hri:RI p f C j B wb b (n+1088) (.slice a0 p.globals.length m0) (.slice a1 p.shapes.length m1) (.slice (some ⟨bb,o,none⟩) p.funcs.length m2) wI (.slice pa Q.length pcap) wr M2 Q2 (fun q m=>q ∈ Q2∨(q=pc∧m ∈ NL.drop (k+1))):=⟨n2,V2,tv2,hW2,hF2.skip hmN2,hQ2,hfr2,htv2,hnn2⟩;have HRI:=k_ hri;have H02:=k_ h02;clear h02;have HMS2:=k_ hms2;clear hms2;clear hri hW2 hF2 hQ2 hfr2 htv2 hnn2;go_wp2_with fail
          go_roundw
          case rel=>exact⟨k+1,hlt,by go_num,_,_,HRI.out,H02.out,HMS2.out⟩
          case measure=>simp[intOf];omega
        ·have hk':k=NL.length:=by omega
         subst hk';rw[List.drop_length] at hF2;have hend:Gu p f C j B wb b (n+1088) (.slice a0 p.globals.length m0) (.slice a1 p.shapes.length m1) (.slice (some ⟨bb,o,none⟩) p.funcs.length m2) w3 wr (msr f M2 Q2):=by
          refine⟨by have:=HM3.out;have:=HMM.out;omega,M2,Q2,⟨n2,V2,tv2,hW2,hF2.weaken (fun q m h=>h.elim id (fun e=>by cases e.2)),hQ2,?_,fun q hq=>?_,hnn2⟩,rfl⟩
          ·exact HF3I.out.trans hfr2 (fun q hq e=>by
            rcases e with e | e | e
            ·exact .inl e
            ·exact .inr (.inl e)
            ·have:=(HTVI.out q e).1;omega)
          ·rcases htv2 q hq with e | e
           ·exact .inr (HTVI.out q e).1
           ·exact .inr (by have:=HF3I.out.size;omega)
         have hlast:msr f M2 Q2<mm:=by have:=HMM.out;omega
         have HEND:=k_ hend;have HLAST:=k_ hlast;clear hend hlast hW2 hF2 hQ2 hfr2 htv2 hnn2 h02 hms2;go_wp2_with fail
         go_roundw
         case rel=>exact⟨_,HEND.out⟩
         case measure=>exact Nat.lt_of_le_of_lt (CV HEND.out) HLAST.out
theorem Hm (l:List Int) (x:Int):decide (x ∈ l)=l.any (fun m=>m == x):=by
 induction l with
 | nil=>rfl
 | cons y l ih =>
   rw[List.any_cons,← ih]
   by_cases h:y=x
   ·subst h;simp
   ·have h':x≠y:=fun e=>h e.symm
    simp[h,h']
theorem yK (w:World) (B wb b n:Nat) (V D:Nat→Prop) (c0 c1 c2 tv:Value) (j:Nat) (C:Pl→Option (List Int)) (l:List Int) (p:Prg) (hw:WalkV w B wb b n V c0 c1 c2 (j:Int) C tv l) (hB:B≤w.heap.size) (hD:∀ k,D k→k<w.heap.size) (hv:aD w D p c0 c1 c2) (hp:pM p) (hq:qP p) (hf:PrgFit p) (hj:j<p.funcs.length) (pc:Nat) (hpc:pc<p.funcs[j].code.length) :
  Calls Tryz.prog 115 #[.pointer (some ⟨wb,0,none⟩),.agg #[.int .i64 j,.int .i64 pc]] w fun e w'=>e=.returned (.bool ((dB (gL p.funcs[j] pc) pc).any (fun m=>m == (p.funcs[j].code.length:Int))))∧Below w.heap.size w w':=by
 have hfit:=hf.fn _ (List.getElem_mem hj);have hpc64:pc<64:=by have:=hfit.code2;omega
 have hj16:j<16:=by have:=hf.funcs2;omega
 have hI64:aJ (j:Int)∧aJ (pc:Int):=⟨⟨by omega,by omega⟩,⟨by omega,by omega⟩⟩;have hb1:=(Below.refl w.heap.size w).alloc (Nat.le_refl _) (.cells #[.int .i64 j,.int .i64 pc] 147);have hly:=ai w (.cells #[.int .i64 j,.int .i64 pc] 147);have hP:∀ wr,Below w.heap.size w wr→aD wr D p c0 c1 c2:=fun wr hb=>hv.fr (fb_ hb) (fun _ _ h=>h)
 obtain⟨y,hy⟩:∃ y,y=w.heap.size:=⟨_,rfl⟩;obtain⟨w1,hw1⟩:∃ w1,w1=w.alloc (.cells #[.int .i64 j,.int .i64 pc] 147):=⟨_,rfl⟩;rw[← hw1] at hb1 hly;rw[← hy] at hly;have y0:w1.cell? ⟨y,0,none⟩=some (.int .i64 j):=(aa hly 0).1;have y1:w1.cell? ⟨y,1,none⟩=some (.int .i64 pc):=(aa hly 1).1;have hDs:∀ W',Below w.heap.size w W'→∀ k,D k→k<W'.heap.size:=fun W' h k hk=>by have:=hD k hk;have:=h.size;omega
 have hi:p.funcs[j].code[pc]?=some p.funcs[j].code[pc]:=List.getElem?_eq_getElem hpc;have hia:gL p.funcs[j] pc=p.funcs[j].code[pc]:=by unfold gL;rw[hi];rfl
 have hnx:oG p (j:Int) (pc:Int)=dB p.funcs[j].code[pc] pc:=by unfold oG;rw[zN hj hi]
 rw[hia,← Hm];have nx:=fun W' (h:Below w.heap.size w W')=>oC W' D (hDs W' h) p c0 c1 c2 (hP W' h) hp hq (j:Int) (pc:Int) hI64.1 hI64.2
 rw[hnx] at nx;have hnl:=uQ p.funcs[j].code[pc] pc;generalize dB p.funcs[j].code[pc] pc=NL at *;obtain⟨r0,r1,r2,r3,r4,r5,r6⟩:=(hw.below hb1).cells rfl;have hv1:=hP w1 hb1;obtain⟨⟨a0,m0,rfl,_⟩,⟨a1,m1,rfl,_⟩,a2,m2,rfl,hfs⟩:=hv1;obtain⟨bb,o,rfl,_,x0,x1,x2,x3,x4,g0,g1,g2,g3,g4,hfv⟩:=hfs j hj;obtain⟨_,_,_,_,e4,e5,rfl,_⟩:=hfv;have hj1:(j:Int)<p.funcs.length:=by omega
 have HS:=k_ (show ∀ w',Below w1.heap.size w1 w'→w'.cell? ⟨wb,0,none⟩=some (.slice a0 p.globals.length m0)∧w'.cell? ⟨wb,1,none⟩=some (.slice a1 p.shapes.length m1)∧w'.cell? ⟨wb,2,none⟩=some (.slice (some ⟨bb,o,none⟩) p.funcs.length m2)∧w'.cell? ⟨wb,3,none⟩=some (.int .i64 j)∧w'.cell? ⟨y,0,none⟩=some (.int .i64 j)∧w'.cell? ⟨y,1,none⟩=some (.int .i64 pc)∧w'.cell? ⟨bb,o+j * 5+4,none⟩=some (.slice e4 p.funcs[j].code.length e5) from fun w' h=>⟨ae h r0,ae h r1,ae h r2,ae h r3,ae h y0,ae h y1,ae h g4⟩);have HR0:=k_ (hb1.drew);have HR1:=k_ (Below.refl w1.heap.size w1).drew;have HY:=k_ hy;have HW1:=k_ hw1;have HNL:=k_ hnl;have NX:=k_ nx;unfold mr at NX;clear hy hw1 nx hnl hw hB hD hv hp hq hf hpc hfit hP hfs hDs hnx hia hi g0 g1 g2 g3 g4 r0 r1 r2 r3 r4 r5 r6 y0 y1 hly hb1;obtain⟨N,hN⟩:∃ N,N=p.funcs[j].code.length:=⟨_,rfl⟩;rw[← hN] at HS ⊢;clear hN
 go_enter Tryz.func115,Tryz.ntmps115
 go_upto_region 1 with fail
 rw[← HY.out,← HW1.out];have hSd:=HS.out w1.drew HR1.out
 go_region_held3 (fun w'=>w'.cell? ⟨wb,0,none⟩=some (.slice a0 p.globals.length m0)∧w'.cell? ⟨wb,1,none⟩=some (.slice a1 p.shapes.length m1)∧w'.cell? ⟨wb,2,none⟩=some (.slice (some ⟨bb,o,none⟩) p.funcs.length m2)∧w'.cell? ⟨wb,3,none⟩=some (.int .i64 j)∧w'.cell? ⟨y,0,none⟩=some (.int .i64 j)∧w'.cell? ⟨y,1,none⟩=some (.int .i64 pc)∧w'.cell? ⟨bb,o+j * 5+4,none⟩=some (.slice e4 N e5)) (first | with_reducible exact hSd | with_reducible exact hS7 | go_keep) (first
  | (go_at_call 162
     refine(NX.out _ HR0.out).mono ?_;rintro e w9 ⟨v9,rfl,ho9,hb9⟩;obtain⟨na,nc,rfl,hns⟩:=bI ho9;have hS7:=HS.out w9 (HR1.out.trans (hb9.mono HR1.out.size));have HNS:=k_ hns;have HB9:=k_ (HR0.out.trans (hb9.mono HR0.out.size));clear ho9 hb9 hns)
  | (go_at_call 163
     refine(oh _ _ na NL nc (N:Int) HNS.out (by have:=HNL.out;omega)).mono ?_;rintro e w10 ⟨rfl,rfl⟩))
 all_goals
  go_wp2_with fail
  go_ret
  exact⟨rfl,HB9.out⟩
theorem BX (w:World) (B wb b n:Nat) (V D:Nat→Prop) (c0 c1 c2 tv:Value) (j:Nat) (C:Pl→Option (List Int)) (l:List Int) (p:Prg) (hw:WalkV w B wb b n V c0 c1 c2 (j:Int) C tv l) (hB:B≤w.heap.size) (hD:∀ k,D k→k<w.heap.size) (hv:aD w D p c0 c1 c2) (hp:pM p) (hq:qP p) (hf:PrgFit p) (hj:j<p.funcs.length) (pc:Nat) (hpc:pc<p.funcs[j].code.length)
  (K:List Int) (hC:∀ h,C ⟨((j:Int),(pc:Int)),h⟩=some K) (hK:K.length=p.funcs[j].slots.toNat) :
  Calls Tryz.prog 116 #[.pointer (some ⟨wb,0,none⟩),.agg #[.int .i64 j,.int .i64 pc]] w fun e w'=>e=.returned (.bool (!cu p p.funcs[j].result (gL p.funcs[j] pc) K))∧Below w.heap.size w w':=by
 have hfit:=hf.fn _ (List.getElem_mem hj);have hpc64:pc<64:=by have:=hfit.code2;omega
 have hj16:j<16:=by have:=hf.funcs2;omega
 have hI64:aJ (j:Int)∧aJ (pc:Int):=⟨⟨by omega,by omega⟩,⟨by omega,by omega⟩⟩;have hb1:=(Below.refl w.heap.size w).alloc (Nat.le_refl _) (.cells #[.int .i64 j,.int .i64 pc] 147);have hly:=ai w (.cells #[.int .i64 j,.int .i64 pc] 147);have hP:∀ wr,Below w.heap.size w wr→aD wr D p c0 c1 c2:=fun wr hb=>hv.fr (fb_ hb) (fun _ _ h=>h)
 obtain⟨y,hy⟩:∃ y,y=w.heap.size:=⟨_,rfl⟩;obtain⟨w1,hw1⟩:∃ w1,w1=w.alloc (.cells #[.int .i64 j,.int .i64 pc] 147):=⟨_,rfl⟩;rw[← hw1] at hb1 hly;rw[← hy] at hly;have y0:w1.cell? ⟨y,0,none⟩=some (.int .i64 j):=(aa hly 0).1;have y1:w1.cell? ⟨y,1,none⟩=some (.int .i64 pc):=(aa hly 1).1;have hDs:∀ W',Below w.heap.size w W'→∀ k,D k→k<W'.heap.size:=fun W' h k hk=>by have:=hD k hk;have:=h.size;omega
 have hi:p.funcs[j].code[pc]?=some p.funcs[j].code[pc]:=List.getElem?_eq_getElem hpc;have hia:gL p.funcs[j] pc=p.funcs[j].code[pc]:=by unfold gL;rw[hi];rfl
 have hfa:iG p ((j:Int)).toNat=p.funcs[j]:=by unfold iG;simp[hj]
 have hst:(gy p (j:Int) (pc:Int) K).1=if cu p p.funcs[j].result p.funcs[j].code[pc] K=true then 0 else 3:=by
  unfold gy;rw[zN hj hi,hfa]
  dsimp only
  rw[if_neg (by have:=hfit.args;omega)]
  split <;> rfl
 obtain⟨ka,kc,hks,hlk⟩:=(hw.below hb1).map.some_runs _ K (hC hI64);have hlk:∀ W',Below w1.heap.size w1 W'→(Instr.lookup 187 (.map (some b)) (.agg #[.int .i64 j,.int .i64 pc]) false).run Tryz.prog W'=.ok (.slice ka K.length kc) W':=fun W' h=>(hlk W' h).2
 have sp:=fun W' (h:Below w1.heap.size w1 W')=>Gc W' (fun k=>k<w1.heap.size) (fun k hk=>Nat.lt_of_lt_of_le hk h.size) p c0 c1 c2 ((hP W' (hb1.trans (h.mono hb1.size))).wide (hDs w1 hb1)) hp hq hf (j:Int) (pc:Int) hI64.1 hI64.2 ka K kc ((hks.fr (fb_ h) (fun _ _ h=>h)).wide (fun k hk=>((hw.below hb1).vlo k hk).2.1)) (by have:=hfit.slots;omega)
 unfold oU at sp;rw[hst] at sp;rw[hia];generalize cu p p.funcs[j].result p.funcs[j].code[pc] K=R at *;generalize (gy p (j:Int) (pc:Int) K).2=L2 at *;obtain⟨E,hE⟩:∃ E:Int,E=if R=true then 0 else 3:=⟨_,rfl⟩;rw[← hE] at sp;have hres:(E != 0)=!R:=by rw[hE];cases R <;> rfl
 obtain⟨r0,r1,r2,r3,r4,r5,r6⟩:=(hw.below hb1).cells rfl;have hv1:=hP w1 hb1;obtain⟨⟨a0,m0,rfl,_⟩,⟨a1,m1,rfl,_⟩,a2,m2,rfl,_⟩:=hv1;have HS:=k_ (show ∀ w',Below w1.heap.size w1 w'→w'.cell? ⟨wb,0,none⟩=some (.slice a0 p.globals.length m0)∧w'.cell? ⟨wb,1,none⟩=some (.slice a1 p.shapes.length m1)∧w'.cell? ⟨wb,2,none⟩=some (.slice a2 p.funcs.length m2)∧w'.cell? ⟨wb,4,none⟩=some (.map (some b))∧w'.cell? ⟨y,0,none⟩=some (.int .i64 j)∧w'.cell? ⟨y,1,none⟩=some (.int .i64 pc)∧(Instr.lookup 187 (.map (some b)) (.agg #[.int .i64 j,.int .i64 pc]) false).run Tryz.prog w'=.ok (.slice ka K.length kc) w' from fun w' h=>⟨ae h r0,ae h r1,ae h r2,ae h r4,ae h y0,ae h y1,hlk w' h⟩);have HR0:=k_ (hb1.drew);have HR1:=k_ (Below.refl w1.heap.size w1).drew;have HY:=k_ hy;have HW1:=k_ hw1;have SP:=k_ sp;have HRES:=k_ hres;clear hy hw1 sp hw hB hD hv hp hq hf hpc hfit hP hDs hia hi r0 r1 r2 r3 r4 r5 r6 y0 y1 hly hb1 hst hfa hC hK hks hlk hE hres;clear hj
 go_enter Tryz.func116,Tryz.ntmps116
 go_upto_region 1 with fail
 rw[← HY.out,← HW1.out];have hSd:=HS.out w1.drew HR1.out
 go_cut [6] (fun s wx=>s=.int .i64 E∧Below w.heap.size w wx)
 case first =>
  go_region_held3 (fun w'=>w'.cell? ⟨wb,0,none⟩=some (.slice a0 p.globals.length m0)∧w'.cell? ⟨wb,1,none⟩=some (.slice a1 p.shapes.length m1)∧w'.cell? ⟨wb,2,none⟩=some (.slice a2 p.funcs.length m2)∧w'.cell? ⟨wb,4,none⟩=some (.map (some b))∧w'.cell? ⟨y,0,none⟩=some (.int .i64 j)∧w'.cell? ⟨y,1,none⟩=some (.int .i64 pc)∧(Instr.lookup 187 (.map (some b)) (.agg #[.int .i64 j,.int .i64 pc]) false).run Tryz.prog w'=.ok (.slice ka K.length kc) w') (first | with_reducible exact hSd | with_reducible exact hS7 | go_keep) (first
   | (go_at_call 164
      refine(SP.out _ HR1.out).mono ?_;rintro e w9 ⟨v9,rfl,_,hb9⟩;have hS7:=HS.out w9 (HR1.out.trans (hb9.mono HR1.out.size));have HB9:=k_ (HR0.out.trans (hb9.mono HR0.out.size));clear hb9))
  all_goals
   go_wp2_with fail
   go_meet
   exact⟨rfl,HB9.out⟩
 case rest =>
  obtain⟨rfl,hb9⟩:=hcut;have HB9:=k_ hb9;clear hb9 hSd;go_wp2_with fail
  go_ret
  exact⟨by rw[← HRES.out];rfl,HB9.out⟩
end Go.Proofs.YtlofbhoicbemnaaGreatDoor
