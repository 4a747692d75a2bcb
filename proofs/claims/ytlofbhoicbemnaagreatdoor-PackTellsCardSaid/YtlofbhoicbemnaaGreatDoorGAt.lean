/- Walk: Task.push. Walks: a state gets one more frame, a panic, an end. Walk: Task.Enter. Walks: stack.Fit, stack.New. Walks: an empty .. -/
import Derived.Test.YtlofbhoicbemnaaGreatDoorGAs
import Derived.Laws.IdiomCopy
set_option linter.unusedVariables false
set_option linter.unusedSimpArgs false
set_option maxRecDepth 100000
set_option maxHeartbeats 3200000
namespace Go.Proofs.YtlofbhoicbemnaaGreatDoor.Tk
open Go.ChangeShapes Go.WideShapes Go.ChangeAt Go.RowKit Go.Maps
def je (words:List Int) (base:Nat) (al:List Int) (k:Nat):List Int:=(List.range k).foldl (fun s i=>s.set (base+(2+i)) (al[i]?.getD 0)) words
theorem xQ (words:List Int) (base:Nat) (al:List Int) (k:Nat):(je words base al k).length=words.length:=by
 unfold je
 induction k with
 | zero=>rfl
 | succ k ih=>rw[List.range_succ,List.foldl_append];simp[ih]
theorem wK (words:List Int) (base:Nat) (al:List Int) (k:Nat) (hk:k<al.length):je words base al (k+1)=(je words base al k).set (base+(2+k)) al[k]:=by
 unfold je;rw[List.range_succ,List.foldl_append]
 simp[hk]
def xG (T:Tk) (un wn:Nat) (j:Nat) (ret:Int) (al:List Int):Tk:=⟨T.base,je (pV T.words un wn) un al al.length,T.parts ++ [⟨j,0,un,ret,none,0,0⟩],T.marks⟩
theorem Fb (w:World) (F:Nat→Prop) (tb:Nat) (p:TPrg) (T:Tk) (X:TB) (h:TaskAt w F tb p T X) (hp:eG p) (ht:jL T) (hlen:T.parts.length<1000) (j:Nat) (hj:j<p.funcs.length) (un:Nat) (hun:iR p T=un) (hfit:un+aT p j≤T.words.length)
  (D:Nat→Prop) (a:Option Addr) (al:List Int) (c:Nat) (hal:aQ w D a al) (hD:∀ k,D k→¬ F k∧k<w.heap.size) (hsl:(al.length:Int)≤p.funcs[j].slots) (hal2:al.length≤3000) (ret:Int) :
  Calls Tryz.prog 233 #[.pointer (some ⟨tb,0,none⟩),.int .i64 j,.slice a al.length c,.int .i64 ret] w fun e w'=>e=.returned (.tuple #[])∧∃ F' X',TaskAt w' F' tb p (xG T un (aT p j) j ret al) X'∧X'.Q X X.al X.kf∧(∀ k,F' k→F k∨w.heap.size≤k)∧Fr F w w':=by
 have us:=yl w F tb p T X h hp ht;rw[hun] at us;have hwn:2+al.length≤aT p j:=by rw[qd j hj];unfold lV;omega
 obtain⟨wn,hwn0⟩:∃ wn,wn=aT p j:=⟨_,rfl⟩;have hb1:=ht.2.2.1;have hprg:=h.prg;obtain⟨⟨a0,n0,m0,e0⟩,⟨a1,m1,e1,_⟩,a2,m2,e2,_⟩:=hprg;have wd:=fun wr (hw:Below w.heap.size w wr)=>jm wr X.D (fun k hk=>Nat.lt_of_lt_of_le (h.out k hk).2 hw.size) p X.c0 X.c1 X.c2 j (h.prg.below hw) hp
 rw[← hwn0] at hwn hfit wd ⊢;rw[e0,e1,e2] at wd;have cl:=fun wr (hw:Below w.heap.size w wr)=>Cb wr X.sb X.wb T.base T.words (h.below hw).st hb1 un wn (by omega) hfit
 have hcells:∀ wr,Below w.heap.size w wr→wr.cell? ⟨tb,0,none⟩=some (.slice a0 n0 m0)∧wr.cell? ⟨tb,1,none⟩=some (.slice a1 p.shapes.length m1)∧wr.cell? ⟨tb,2,none⟩=some (.slice a2 p.funcs.length m2)∧wr.cell? ⟨tb,3,none⟩=some (.pointer (some ⟨X.sb,0,none⟩)):=fun wr hw=>by
  obtain⟨q0,q1,q2,q3,_⟩:=(h.below hw).cells;rw[e0] at q0;rw[e1] at q1;rw[e2] at q2;exact⟨q0,q1,q2,q3⟩
 have hcl:∀ wr,Below w.heap.size w wr→TaskAt (wr.setCells X.wb un (List.replicate wn (.int .i64 0))) F tb p ⟨T.base,pV T.words un wn,T.parts,T.marks⟩ X∧Fr F w (wr.setCells X.wb un (List.replicate wn (.int .i64 0))):=fun wr hw =>
  ⟨(h.below hw).words (oN _ _ _) _ (sK _ _ _) (yg wn wr un T.words (h.below hw).wrow),(Fr.of_below hw F).trans (oN _ _ _) (fun k _ e=>e ▸ h.fw)⟩
 obtain⟨en,hen⟩:∃ en,en=un+wn:=⟨_,rfl⟩;have i1:IntKind.i64.wrap ((un:Int)+(wn:Int))=(en:Int):=by rw[show ((un:Int)+(wn:Int))=(en:Int) from by omega];exact IntWalk.i64_in _ (by omega)
 rw[← hen] at cl;have hwb:=h.distinct.2.1;clear e0 e1 e2;have US:=k_ us;clear us;have WD:=k_ wd;clear wd;have CL:=k_ cl;clear cl;have HCELLS:=k_ hcells;clear hcells;have HCL:=k_ hcl;clear hcl;have HEN:=k_ hen;clear hen;have HWN0:=k_ hwn0;clear hwn0;have HUN:=k_ hun;clear hun
 go_enter Tryz.func233,Tryz.ntmps233
 go_wp2_with fail;refine US.out.mono ?_;rintro e w1 ⟨rfl,hb⟩;obtain⟨q0,q1,q2,q3⟩:=HCELLS.out w1 hb;have hr0:=hb.drew;have HB:=k_ hb;clear hb;have HR0:=k_ hr0;clear hr0
 go_upto_region 1 with fail
 go_cut [] (fun wx=>TaskAt wx F tb p ⟨T.base,pV T.words un wn,T.parts,T.marks⟩ X∧Fr F w wx)
 case first =>
  go_region_law (first | (go_simp;go_at_call 301;refine(CL.out w3 hbw).mono ?_;rintro e w4 ⟨rfl,rfl⟩) | (go_simp;go_at_call 96;refine(WD.out _ HR0.out).mono ?_;rintro e w3 ⟨rfl,hb3⟩;have hbw:=HR0.out.trans (hb3.mono HR0.out.size);obtain⟨z0,z1,z2,z3⟩:=HCELLS.out w3 hbw))
  all_goals
   have hq:=HCL.out w3 hbw;clear hb3 z0 z1 z2 z3;have HQ:=k_ hq;clear hq;go_wp2_with fail
   go_meet
   first | exact HQ.out | (case rel=>exact HQ.out)
 case rest =>
  obtain⟨hT,hF⟩:=hcut;clear q0 q1 q2 q3;have hpt:=hT.parts;have q4:=hT.cells.2.2.2.2.1;have hlt:=hT.lt;have hd4:=hT.distinct.2.2.2.1;have hrow:=hT.row;have HPT:=k_ hpt;clear hpt;have HF:=k_ hF;clear hF
  go_wp2_with (at_builtin;refine bE xR rfl (.tmp 31) (.tmp 36) rfl 0 T.parts [⟨j,0,un,ret,none,0,0⟩] _ rfl (HPT.out.alloc _) wc.heap.size 0 1 rfl (aA.new _ _ _ _) ?c1 ?c2 ?_)
  case c1=>first | omega | (show T.parts.length+1≤100000000;omega)
  try (case c2=>exact Nat.zero_le _)
  intro v5 w5 ho5 hg5 hf5;obtain⟨a5,n5,c5,rfl⟩:=ho5.slice;obtain⟨hT2,hF2⟩:=hT.push ho5 hg5 hf5;have hrow5:=(hg5.block tb (by simp;omega) (fun e=>(hd4 _ e.symm).1 rfl)).trans ((Below.heap_alloc wc _ tb hlt).trans hrow);have f4:w5.frozen? ⟨tb,4,none⟩=false:=(aa hrow5 4).2;have q4:w5.cell? ⟨tb,4,none⟩=some X.pv:=(aa hrow5 4).1;have hnew:∀ k,F k∨(Value.slice a5 n5 c5).ownBlock=some k→F k∨w.heap.size≤k:=fun k hk=>by
   rcases hk with h1 | h1
   ·exact .inl h1
   ·rcases hf5 k h1 with h2 | h2
    ·exact .inl (hT.fp k h2)
    ·have:=HF.out.size
     simp at h2
     exact .inr (by omega)
  have hF3:=HF.out.trans hF2 (fun k _ hk=>hk);clear hT hg5 hf5 ho5 hrow hrow5 hd4 hF2;obtain⟨F',X2,hT2,hxq,hnew⟩:∃ F' X2,TaskAt (w5.setCell ⟨tb,4,none⟩ (.slice a5 n5 c5)) F' tb p ⟨T.base,pV T.words un wn,T.parts ++ [⟨j,0,un,ret,none,0,0⟩],T.marks⟩ X2∧X2.Q X X.al X.kf∧∀ k,F' k→F k∨w.heap.size≤k:=⟨_,{ X with pv:=.slice a5 n5 c5 },hT2,⟨rfl,rfl,rfl,rfl⟩,hnew⟩;have HXQ:=k_ hxq;clear hxq;have HRW:=k_ hnew;clear hnew;have HT2:=k_ hT2;clear hT2;have HF3:=k_ hF3;clear hF3;go_wp2_with fail;obtain⟨w6,hw6⟩:∃ w6,w6=w5.setCell ⟨tb,4,none⟩ (.slice a5 n5 c5):=⟨_,rfl⟩;rw[← hw6] at HT2 HF3 ⊢;clear hw6 f4 q4;have hok:∀ l,l.length=T.words.length→jL ⟨T.base,l,T.parts ++ [⟨j,0,un,ret,none,0,0⟩],T.marks⟩:=fun l hl=>by
   refine⟨by simp;omega,ht.2.1,by simp only;omega,fun q hq=>?_⟩
   rcases List.mem_append.1 hq with h1 | h1
   ·exact ht.2.2.2 q h1
   ·simp at h1
    subst h1;simp only
    omega
  have hpl:(T.parts ++ [(⟨j,0,un,ret,none,0,0⟩:Part)]).length=T.parts.length+1:=by simp
  have hpn:∀ h,(T.parts ++ [(⟨j,0,un,ret,none,0,0⟩:Part)])[T.parts.length]'h=⟨j,0,un,ret,none,0,0⟩:=fun h=>by simp
  have hcw:=sK T.words un wn;obtain⟨W0,hW0⟩:∃ W0,W0=pV T.words un wn:=⟨_,rfl⟩;have hgoal:∀ wr,TaskAt wr F' tb p ⟨T.base,je W0 un al al.length,T.parts ++ [⟨j,0,un,ret,none,0,0⟩],T.marks⟩ X2→Fr F' w6 wr→∃ F' X',TaskAt wr F' tb p (xG T un wn j ret al) X'∧X'.Q X X.al X.kf∧(∀ k,F' k→F k∨w.heap.size≤k)∧Fr F w wr:=fun wr h1 h2=>by
   refine⟨F',X2,?_,HXQ.out,HRW.out,HF3.out.trans h2 (fun k hk1 hk2=>(HRW.out k hk2).elim (fun h=>h) (fun h=>absurd h (by omega)))⟩;unfold xG;rw[← hW0];exact h1
  have halr:∀ wr,Fr F' w6 wr→aQ wr D a al:=fun wr h2=>(hal.fr HF3.out (fun k hk=>(hD k hk).1)).fr h2 (fun k hk hk2=>(HRW.out k hk2).elim (hD k hk).1 (fun h=>by have:=(hD k hk).2;omega))
  rw[← hW0] at hcw HT2;generalize T.parts ++ [(⟨j,0,un,ret,none,0,0⟩:Part)]=P' at *;clear hal hD hW0 hlt hwb;have hplen:P'.length=T.parts.length+1:=hpl;clear hpl;have HOK:=k_ hok;clear hok;have HPN:=k_ hpn;clear hpn;have HGOAL:=k_ hgoal;clear hgoal;have HALR:=k_ halr;clear halr;have HPLEN:=k_ hplen;clear hplen
  go_loopw [42] (fun i wr=>∃ k:Nat,k≤al.length∧i=.int .i64 k∧TaskAt wr F' tb p ⟨T.base,je W0 un al k,P',T.marks⟩ X2∧Fr F' w6 wr) (fun i _=>al.length - (intOf i).toNat)
  case atStart=>exact⟨0,Nat.zero_le _,rfl,HT2.out,Fr.refl _ _⟩
  case round =>
   obtain⟨k,hk,rfl,hTr,hFr⟩:=hrel
   by_cases hltk:k<al.length
   ·obtain⟨b',o',rfl,_,hx⟩:=HALR.out wr hFr k hltk
    have hsl2:=xQ W0 un al k;have hss:=wK W0 un al k hltk;have hpn2:=HPN.out (by rw[HPLEN.out];omega);have st:=EB wr F' tb p ⟨T.base,je W0 un al k,P',T.marks⟩ X2 hTr (HOK.out _ (by rw[hsl2,hcw])) T.parts.length HPLEN.out j hj (by simp only;rw[hpn2]) un (by simp only;rw[hpn2]) k (by omega) (by omega) (by simp only;rw[hsl2,hcw];omega) al[k];simp only at st;rw[← hss] at st;generalize al[k]=x at *;clear hsl2 hss hpn2 hTr;have ST:=k_ st;clear st;have HFR:=k_ hFr;clear hFr;go_wp2_with fail;refine ST.out.mono ?_;rintro e w9 ⟨rfl,hT9,hF9⟩;have hF10:=HFR.out.trans hF9 (fun _ _ h=>h);clear hF9;have HT9:=k_ hT9;clear hT9;have HF10:=k_ hF10;clear hF10;go_wp2_with fail
    go_roundw
    case rel=>exact⟨k+1,by omega,by go_num,HT9.out,HF10.out⟩
    case measure=>simp[intOf];omega
   ·have hk':k=al.length:=by omega
    subst hk';have hg:=HGOAL.out wr hTr hFr;clear hTr hFr;have HG:=k_ hg;clear hg;go_wp2_with fail
    go_end0
    exact⟨rfl,HG.out⟩
theorem xw (w:World) (B:Nat) (v:Value) (l:List Mark) (h:Own dN w B v l) (hn:l.length≤10000) (B2:Nat) (av:Value) (A:List Alarm) (ha:Own bG w B2 av A) (hna:A.length≤10000) :
  Calls Tryz.prog 234 #[.agg #[v,av]] w (nQ w (l ++ [⟨false,false,0⟩]) A):=by
 obtain⟨a,n,c,rfl⟩:=h.slice;obtain⟨a',n',c',rfl⟩:=ha.slice;have hb0:=(((Below.refl w.heap.size w).alloc (Nat.le_refl _) (.cells #[.slice a n c,.slice a' n' c'] 270)).alloc (by simp) (.cells #[.slice none 0 0,.slice none 0 0] 270));have hz0:((w.alloc (.cells #[.slice a n c,.slice a' n' c'] 270)).alloc (.cells #[.slice none 0 0,.slice none 0 0] 270)).heap.size=w.heap.size+2:=by simp
 have hrow:=ai (w.alloc (.cells #[.slice a n c,.slice a' n' c'] 270)) (.cells #[.slice none 0 0,.slice none 0 0] 270);rw[show (w.alloc (.cells #[.slice a n c,.slice a' n' c'] 270)).heap.size=w.heap.size+1 from by simp] at hrow;have hrow1:=aU (ai w (.cells #[.slice a n c,.slice a' n' c'] 270)) (.cells #[.slice none 0 0,.slice none 0 0] 270);obtain⟨W,hW⟩:∃ W,W=(w.alloc (.cells #[.slice a n c,.slice a' n' c'] 270)).alloc (.cells #[.slice none 0 0,.slice none 0 0] 270):=⟨_,rfl⟩;rw[← hW] at hb0 hz0 hrow hrow1;have k0:W.cell? ⟨w.heap.size,0,none⟩=some (.slice a n c):=(aa hrow1 0).1;have k1:W.cell? ⟨w.heap.size,1,none⟩=some (.slice a' n' c'):=(aa hrow1 1).1;have ow:=wF W B (.slice a n c) _ (h.below hb0) (by first | omega | (simp;done) | (simp;omega)) B2 (.slice a' n' c') _ (ha.below hb0) (by first | omega | (simp;done) | (simp;omega));have HW:=k_ hW;have HROW:=k_ hrow;have HROW1:=k_ hrow1;clear hW hrow hrow1 h ha;have OW:=k_ ow;clear ow;have HB0:=k_ hb0;clear hb0;have HZ0:=k_ hz0;clear hz0
 go_enter Tryz.func234,Tryz.ntmps234
 go_upto_region 1 with fail
 rw[← HW.out];go_wp2_with fail;refine OW.out.mono ?_;rintro e w3 ⟨v3,u3,rfl,ho3,hu3,hb3⟩;obtain⟨a3,n3,c3,rfl⟩:=ho3.slice;obtain⟨a4,n4,c4,rfl⟩:=hu3.slice;have hrow3:=(fb_ hb3).heap HROW1.out (fun h=>h);have hrow4:=(fb_ hb3).heap HROW.out (fun h=>h);have f0:w3.frozen? ⟨w.heap.size,0,none⟩=false:=(aa hrow3 0).2;have f1:w3.frozen? ⟨w.heap.size,1,none⟩=false:=(aa hrow3 1).2;have k0:w3.cell? ⟨w.heap.size,0,none⟩=some (.slice a n c):=(aa hrow3 0).1;have k1:w3.cell? ⟨w.heap.size,1,none⟩=some (.slice a' n' c'):=(aa hrow3 1).1;have hs:=SOwn.start hrow3 hrow4 ho3 hu3 (Nat.le_of_eq HZ0.out.symm) (Nat.le_of_eq HZ0.out.symm) (HB0.out.trans (hb3.mono HB0.out.size));clear hrow3 hrow4 ho3 hu3 hb3;have HS:=k_ hs;clear hs
 go_upto_region 2 with fail
 obtain⟨w4,hw4⟩:∃ w4,w4=(w3.setCell ⟨w.heap.size,0,none⟩ (.slice a3 n3 c3)).setCell ⟨w.heap.size,1,none⟩ (.slice a4 n4 c4):=⟨_,rfl⟩;rw[← hw4] at HS ⊢;clear hw4 f0 f1 k0 k1;obtain⟨k0,k1,f0,f1⟩:=HS.out.cells;clear f1
 go_wp2_with (at_builtin;refine bE dN rfl (.tmp 6) (.tmp 8) rfl (w.heap.size+2) l [⟨false,false,0⟩] _ rfl (HS.out.om.alloc _) w4.heap.size 0 1 rfl (aA.new _ _ _ _) ?c1 ?c2 ?_)
 case c1=>simp;omega
 case c2=>have:=HS.out.sz;simp;omega
 intro v5 w5 ho5 hg5 hf5;obtain⟨a5,n5,c5,rfl⟩:=ho5.slice;obtain⟨hr5,hs5⟩:=HS.out.appendM ho5 hg5;clear k0 k1 f0;have k0:w5.cell? ⟨w.heap.size,0,none⟩=some (.slice a3 n3 c3):=(aa hr5 0).1;have f0:w5.frozen? ⟨w.heap.size,0,none⟩=false:=(aa hr5 0).2;clear hr5 ho5 hg5 hf5 HS;have HS:=k_ hs5;clear hs5
 go_upto_region 3 with fail
 obtain⟨w6,hw6⟩:∃ w6,w6=w5.setCell ⟨w.heap.size,0,none⟩ (.slice a5 n5 c5):=⟨_,rfl⟩;rw[← hw6] at HS ⊢;clear hw6 k0 f0;obtain⟨k0,k1,f0,f1⟩:=HS.out.cells;obtain⟨q0,q1,g0,g1⟩:=HS.out.rcells;have hd:=HS.out.done;have HP:=k_ (show nQ w _ _ (.returned (.agg #[_,_])) _ from⟨_,_,rfl,hd.2⟩);have HR:=k_ hd.1;clear hd
 go_wp2_with (with_reducible refine bodyPost_ret ?_ rfl HP.out;have j0:=(aa HR.out 0).1;have j1:=(aa HR.out 1).1;simp at j0 j1;simp[results,Tryz.results234,go_sem,j0,j1])
theorem Ac (w:World) (B:Nat) (v:Value) (l:List Mark) (h:Own dN w B v l) (hn:l.length≤10000) (B2:Nat) (av:Value) (A:List Alarm) (ha:Own bG w B2 av A) (hna:A.length≤10000) :
  Calls Tryz.prog 361 #[.agg #[v,av]] w (nQ w l (A ++ [⟨0,0,0,true,false⟩])):=by
 obtain⟨a,n,c,rfl⟩:=h.slice;obtain⟨a',n',c',rfl⟩:=ha.slice;have hb0:=(((Below.refl w.heap.size w).alloc (Nat.le_refl _) (.cells #[.slice a n c,.slice a' n' c'] 270)).alloc (by simp) (.cells #[.slice none 0 0,.slice none 0 0] 270));have hz0:((w.alloc (.cells #[.slice a n c,.slice a' n' c'] 270)).alloc (.cells #[.slice none 0 0,.slice none 0 0] 270)).heap.size=w.heap.size+2:=by simp
 have hrow:=ai (w.alloc (.cells #[.slice a n c,.slice a' n' c'] 270)) (.cells #[.slice none 0 0,.slice none 0 0] 270);rw[show (w.alloc (.cells #[.slice a n c,.slice a' n' c'] 270)).heap.size=w.heap.size+1 from by simp] at hrow;have hrow1:=aU (ai w (.cells #[.slice a n c,.slice a' n' c'] 270)) (.cells #[.slice none 0 0,.slice none 0 0] 270);obtain⟨W,hW⟩:∃ W,W=(w.alloc (.cells #[.slice a n c,.slice a' n' c'] 270)).alloc (.cells #[.slice none 0 0,.slice none 0 0] 270):=⟨_,rfl⟩;rw[← hW] at hb0 hz0 hrow hrow1;have k0:W.cell? ⟨w.heap.size,0,none⟩=some (.slice a n c):=(aa hrow1 0).1;have k1:W.cell? ⟨w.heap.size,1,none⟩=some (.slice a' n' c'):=(aa hrow1 1).1;have ow:=wF W B (.slice a n c) _ (h.below hb0) (by first | omega | (simp;done) | (simp;omega)) B2 (.slice a' n' c') _ (ha.below hb0) (by first | omega | (simp;done) | (simp;omega));have HW:=k_ hW;have HROW:=k_ hrow;have HROW1:=k_ hrow1;clear hW hrow hrow1 h ha;have OW:=k_ ow;clear ow;have HB0:=k_ hb0;clear hb0;have HZ0:=k_ hz0;clear hz0
 go_enter Tryz.func361,Tryz.ntmps361
 go_upto_region 1 with fail
 rw[← HW.out];go_wp2_with fail;refine OW.out.mono ?_;rintro e w3 ⟨v3,u3,rfl,ho3,hu3,hb3⟩;obtain⟨a3,n3,c3,rfl⟩:=ho3.slice;obtain⟨a4,n4,c4,rfl⟩:=hu3.slice;have hrow3:=(fb_ hb3).heap HROW1.out (fun h=>h);have hrow4:=(fb_ hb3).heap HROW.out (fun h=>h);have f0:w3.frozen? ⟨w.heap.size,0,none⟩=false:=(aa hrow3 0).2;have f1:w3.frozen? ⟨w.heap.size,1,none⟩=false:=(aa hrow3 1).2;have k0:w3.cell? ⟨w.heap.size,0,none⟩=some (.slice a n c):=(aa hrow3 0).1;have k1:w3.cell? ⟨w.heap.size,1,none⟩=some (.slice a' n' c'):=(aa hrow3 1).1;have hs:=SOwn.start hrow3 hrow4 ho3 hu3 (Nat.le_of_eq HZ0.out.symm) (Nat.le_of_eq HZ0.out.symm) (HB0.out.trans (hb3.mono HB0.out.size));clear hrow3 hrow4 ho3 hu3 hb3;have HS:=k_ hs;clear hs
 go_upto_region 2 with fail
 obtain⟨w4,hw4⟩:∃ w4,w4=(w3.setCell ⟨w.heap.size,0,none⟩ (.slice a3 n3 c3)).setCell ⟨w.heap.size,1,none⟩ (.slice a4 n4 c4):=⟨_,rfl⟩;rw[← hw4] at HS ⊢;clear hw4 f0 f1 k0 k1;obtain⟨k0,k1,f0,f1⟩:=HS.out.cells;clear f0
 go_wp2_with (at_builtin;refine bE bG rfl (.tmp 6) (.tmp 8) rfl (w.heap.size+2) A [⟨0,0,0,true,false⟩] _ rfl (HS.out.oa.alloc _) w4.heap.size 0 1 rfl (aA.new _ _ _ _) ?c1 ?c2 ?_)
 case c1=>simp;omega
 case c2=>have:=HS.out.sz;simp;omega
 intro v5 w5 ho5 hg5 hf5;obtain⟨a5,n5,c5,rfl⟩:=ho5.slice;obtain⟨hr5,hs5⟩:=HS.out.appendA ho5 hg5;clear k0 k1 f1;have k1:w5.cell? ⟨w.heap.size,1,none⟩=some (.slice a4 n4 c4):=(aa hr5 1).1;have f1:w5.frozen? ⟨w.heap.size,1,none⟩=false:=(aa hr5 1).2;clear hr5 ho5 hg5 hf5 HS;have HS:=k_ hs5;clear hs5
 go_upto_region 3 with fail
 obtain⟨w6,hw6⟩:∃ w6,w6=w5.setCell ⟨w.heap.size,1,none⟩ (.slice a5 n5 c5):=⟨_,rfl⟩;rw[← hw6] at HS ⊢;clear hw6 k1 f1;obtain⟨k0,k1,f0,f1⟩:=HS.out.cells;obtain⟨q0,q1,g0,g1⟩:=HS.out.rcells;have hd:=HS.out.done;have HP:=k_ (show nQ w _ _ (.returned (.agg #[_,_])) _ from⟨_,_,rfl,hd.2⟩);have HR:=k_ hd.1;clear hd
 go_wp2_with (with_reducible refine bodyPost_ret ?_ rfl HP.out;have j0:=(aa HR.out 0).1;have j1:=(aa HR.out 1).1;simp at j0 j1;simp[results,Tryz.results361,go_sem,j0,j1])
def Aq (T:Tk) (un wn:Nat) (j:Nat) (ret:Int) (al:List Int):Tk:=⟨T.base,(xG T un wn j ret al).words,(xG T un wn j ret al).parts,T.marks ++ [⟨false,false,0⟩]⟩
theorem Cc (w:World) (F:Nat→Prop) (tb:Nat) (p:TPrg) (T:Tk) (X:TB) (h:TaskAt w F tb p T X) (hp:eG p) (ht:jL T) (hlen:T.parts.length<1000) (j:Nat) (hj:j<p.funcs.length) (un:Nat) (hun:iR p T=un) (hfit:un+aT p j≤T.words.length)
  (D:Nat→Prop) (a:Option Addr) (al:List Int) (c:Nat) (hal:aQ w D a al) (hD:∀ k,D k→¬ F k∧k<w.heap.size) (hna:al.length=p.funcs[j].nargs) (hsl:(al.length:Int)≤p.funcs[j].slots) (hal2:al.length≤3000) (hal9:X.al.length≤10000) (ret:Int) :
  Calls Tryz.prog 167 #[.pointer (some ⟨tb,0,none⟩),.int .i64 j,.slice a al.length c,.int .i64 ret] w fun e w'=>e=.returned (.bool true)∧∃ F' X',TaskAt w' F' tb p (Aq T un (aT p j) j ret al) X'∧X'.Q X X.al X.kf∧(∀ k,F' k→F k∨w.heap.size≤k)∧Fr F w w':=by
 have hfb:uB p T j al.length=true:=by
  rw[yO hj,hna,hun]
  simp
  omega
 have fi:=DY w F tb p T X h hp ht j a al.length c hal2;rw[hfb] at fi;have pu:=fun wr (hw:Below w.heap.size w wr)=>Fb wr F tb p T X (h.below hw) hp ht hlen j hj un hun hfit D a al c (hal.fr (fb_ hw) (fun _ _ h=>h)) (fun k hk=>⟨(hD k hk).1,Nat.lt_of_lt_of_le (hD k hk).2 hw.size⟩) hsl hal2 ret
 have hm:=ht.2.1;have hma:=hal9;generalize aT p j=wn at *;clear h hfb hfit hal hD hna hsl hal9;have FI:=k_ fi;clear fi;have PU:=k_ pu;clear pu;have HUN:=k_ hun;clear hun
 go_enter Tryz.func167,Tryz.ntmps167
 go_wp2_with fail;refine FI.out.mono ?_;rintro e w1 ⟨rfl,hb⟩;have HB:=k_ hb;clear hb;go_wp2_with fail;refine(PU.out w1 HB.out).mono ?_;rintro e w2 ⟨rfl,F2,X2,hT2,hxq,hF2,hfr2⟩;have q5:=hT2.cells.2.2.2.2.2.1;have q6:=hT2.cells.2.2.2.2.2.2.1;have em:=xw w2 0 X2.mv T.marks hT2.marks (by omega) 0 X2.av X2.al hT2.alarms (by rw[hxq.2.1];exact hma);obtain⟨a5,n5,c5,hmv⟩:=hT2.marks.slice;obtain⟨a6,n6,c6,hav⟩:=hT2.alarms.slice;rw[hmv] at em q5;rw[hav] at em q6;have EM:=k_ em;clear em;have HT2:=k_ hT2;clear hT2;have HF2:=k_ hF2;clear hF2;have HFR2:=k_ hfr2;clear hfr2;have HMV:=k_ hmv;clear hmv;have HAV:=k_ hav;clear hav;have HXQ:=k_ hxq;clear hxq;go_wp2_with fail;refine EM.out.mono ?_;rintro e w3 ⟨v3,u3,rfl,ho3,hu3,hb3⟩;obtain⟨a3,n3,c3,rfl⟩:=ho3.slice;obtain⟨a4,n4,c4,rfl⟩:=hu3.slice;have hT3:=HT2.out.below hb3;obtain⟨hT4,hF4⟩:=hT3.mark ho3 hu3 (fun k hk=>hk.elim (fun h=>HT2.out.flt k h) (fun h=>(HT2.out.out k h).2));have q5:=hT3.cells.2.2.2.2.2.1;have q6:=hT3.cells.2.2.2.2.2.2.1;have f5:w3.frozen? ⟨tb,5,none⟩=false:=(aa hT3.row 5).2;have f6:w3.frozen? ⟨tb,6,none⟩=false:=(aa hT3.row 6).2;have hs2:=HFR2.out.size;have hfin:∃ F' X',TaskAt ((w3.setCell ⟨tb,5,none⟩ (.slice a3 n3 c3)).setCell ⟨tb,6,none⟩ (.slice a4 n4 c4)) F' tb p (Aq T un wn j ret al) X'∧X'.Q X X.al X.kf∧(∀ k,F' k→F k∨w.heap.size≤k)∧Fr F w ((w3.setCell ⟨tb,5,none⟩ (.slice a3 n3 c3)).setCell ⟨tb,6,none⟩ (.slice a4 n4 c4)):=by
  have hz1:=HB.out.size;refine⟨_,_,hT4,⟨HXQ.out.1,HXQ.out.2.1,HXQ.out.2.2.1,HXQ.out.2.2.2⟩,fun k hk=>?_,?_⟩
  ·rcases hk with (h1 | h1) | h1
   ·rcases HF2.out k h1 with h2 | h2
    ·exact .inl h2
    ·exact .inr (by omega)
   ·have:=(ho3.lt h1).1
    exact .inr (by omega)
   ·have:=(hu3.lt h1).1
    exact .inr (by omega)
  ·have h1:=(Fr.of_below HB.out F).trans HFR2.out (fun k _ hk=>hk)
   have h2:=h1.trans (Fr.of_below hb3 F) (fun k _ hk=>hk);exact h2.trans hF4 (fun k hk1 hk2=>(HF2.out k hk2).elim (fun h=>h) (fun h=>absurd h (by omega)))
 clear hT3 hT4 hF4 ho3 hu3 hb3 hs2;have HFIN:=k_ hfin;clear hfin;go_wp2_with fail
 go_ret
 exact⟨rfl,HFIN.out⟩
theorem Ez (w:World) (first need:Int) (h1:1≤first) (h2:need≤first) (h3:first≤1000000) :
  Calls Tryz.prog 128 #[.int .i64 first,.int .i64 need] w fun e w'=>e=.returned (.int .i64 first)∧w=w':=by
 have n1:¬ first<1:=by omega
 have n2:¬ first<need:=by omega
 have n3:¬ 1000000<first:=by omega
 go_enter Tryz.func128,Tryz.ntmps128
 go_wp2_with fail
 go_loopw [0] (fun v wr=>v=.int .i64 first∧wr=w) (fun _ _=>0)
 case atStart=>exact⟨rfl,by first | rfl | trivial⟩
 case round =>
  obtain⟨rfl,rfl⟩:=hrel;go_wp2_with fail
  go_ret
  exact⟨rfl,by first | rfl | trivial⟩
theorem uP (w:World) (n:Nat) (hn:n≤100000):(Instr.makeSlice 44 (.int .i64 n) (.int .i64 n)).run Tryz.prog w=.ok (.slice (some ⟨w.heap.size,0,none⟩) n n) (w.alloc (intRow (List.replicate n 0) 3)):=by
 obtain⟨i0,hi,hz0,hz1,hz2⟩:=info_parts aG.info;have h:=run_makeSlice (P:=Tryz.prog) (w:=w) 44 3 i0 (.int .i64 0) Tryz.underlying44 hi hz0 .i64 .i64 (n:Int) (n:Int) (by omega) (Int.le_refl _) (by rw[hz1];show (n:Int).toNat * 1≤16777216;omega) (by rw[hz2];show (8:Int) * (n:Int)≤281474976710656;omega) (by omega);rw[h];simp only[Int.toNat_natCast,hz1];have e:madeCells (Value.int .i64 0).cells (n * aG.size)=((List.replicate n (0:Int)).map (Value.int .i64)).toArray:=by
  show madeCells #[Value.int .i64 0] (n * 1)=_
  unfold madeCells
  apply Array.ext
  ·simp
  ·intro i h1 h2
   simp[Nat.mod_one]
 rw[e]
 rfl
theorem Cf (w:World) (serial:Nat) (hs:serial≤100000) (n:Nat) (h1:1≤n) (h2:n≤4096) :
  Calls Tryz.prog 166 #[.int .i64 serial,.int .i64 n] w fun e w'=>∃ sb wb,e=.returned (.pointer (some ⟨sb,0,none⟩))∧nC w' sb wb (1073741824+(serial:Int) * 8192) (List.replicate n 0)∧w.heap.size≤sb∧w.heap.size≤wb∧sb<w'.heap.size∧wb<w'.heap.size∧Below w.heap.size w w':=by
 have mk:=fun w=>uP w n (by omega)
 have n1:¬ (serial:Int)<0:=by omega
 have n2:¬ (100000:Int)<(serial:Int):=by omega
 have n3:¬ (n:Int)<1:=by omega
 have n4:¬ (4096:Int)<(n:Int):=by omega
 have m1:(0:Int)≤(serial:Int):=by omega
 have m2:(serial:Int)≤100000:=by omega
 have m3:(1:Int)≤(n:Int):=by omega
 have m4:(n:Int)≤4096:=by omega
 go_enter Tryz.func166,Tryz.ntmps166
 go_wp2_with fail
 go_ret
 have hr1:=ai (w.alloc (intRow (List.replicate n 0) 3)) (.cells #[.int .i64 (1073741824+(serial:Int) * 8192),.slice (some ⟨w.heap.size,0,none⟩) n n] 325);rw[show (w.alloc (intRow (List.replicate n 0) 3)).heap.size=w.heap.size+1 from by simp] at hr1;have hr2:=aU (ai w (intRow (List.replicate n 0) 3)) (.cells #[.int .i64 (1073741824+(serial:Int) * 8192),.slice (some ⟨w.heap.size,0,none⟩) n n] 325);refine⟨w.heap.size+1,rfl,w.heap.size,⟨?_,hr2⟩,?_⟩
 ·rw[List.length_replicate]
  exact hr1
 ·refine⟨by omega,Nat.le_refl _,by simp,by simp;omega,((Below.refl _ _).alloc (Nat.le_refl _) _).alloc (by simp) _⟩
theorem F9 (w:World):Calls Tryz.prog 99 #[.int .i64 8] w fun e w'=>∃ pb:Nat,e=.returned (.pointer (some ⟨pb,0,none⟩))∧Below w.heap.size w w':=by
 go_enter Tryz.func99,Tryz.ntmps99
 go_wp2_with fail
 go_ret
 exact⟨_,rfl,(Below.refl _ _).alloc (Nat.le_refl _) _⟩
theorem tH {w X:World} (h:Below w.heap.size w X) (o:Obj):Below w.heap.size w (X.alloc o):=h.alloc h.size o
theorem IB {w X:World} (h:Below w.heap.size w X):Below w.heap.size w X.drew:=h.drew
theorem BM (w:World):Calls Tryz.prog 120 #[.int .i64 8] w fun e w'=>∃ ab:Nat,e=.returned (.pointer (some ⟨ab,0,none⟩))∧Below w.heap.size w w':=by
 have mi:∀ w,(Instr.makeSlice 44 (.int .i64 256) (.int .i64 256)).run Tryz.prog w=.ok (.slice (some ⟨w.heap.size,0,none⟩) 256 256) (w.alloc (intRow (List.replicate 256 0) 3)):=fun w=>uP w 256 (by decide)
 have mp:∀ w,(Instr.makeSlice 260 (.int .i64 8) (.int .i64 8)).run Tryz.prog w=.ok (.slice (some ⟨w.heap.size,0,none⟩) 8 8) (w.alloc (.cells #[.pointer none,.pointer none,.pointer none,.pointer none,.pointer none,.pointer none,.pointer none,.pointer none] 383)):=fun _=>by kernel_rfl
 generalize List.replicate 256 (0:Int)=Z at *
 go_enter Tryz.func120,Tryz.ntmps120
 go_upto_region 2 with fail
 go_region
 all_goals
  go_wp2_with fail
  go_ret
  exact⟨_,rfl,by repeat (first | exact Below.refl _ _ | apply tH | apply IB)⟩
theorem Er (w:World) (a:Option Addr) (c:Nat):Calls Tryz.prog 98 #[.int .i64 8,.slice a 0 c] w fun e w'=>∃ hb:Nat,e=.returned (.tuple #[.pointer (some ⟨hb,0,none⟩),.int .i64 0])∧Below w.heap.size w w':=by
 have sc:=mF w (fun _=>False) (fun _ h=>h.elim) a [] c (fun j hj=>by cases hj) (fun s hs=>by cases hs) (by decide) (fun s hs=>by cases hs);rw[show bU []=0 from by decide +kernel] at sc;have sc:Calls Tryz.prog 119 #[.slice a 0 c] w fun e w'=>e=.returned (.int .i64 0)∧Below w.heap.size w w':=sc
 have an:=BM;have mm:∀ w,(Instr.makeMap 203 none).run Tryz.prog w=.ok (.map (some w.heap.size)) (w.alloc (.map #[] 0)):=fun _=>by first | rfl | kernel_rfl
 have SC:=k_ sc;clear sc;have AN:=k_ an;clear an
 go_enter Tryz.func98,Tryz.ntmps98
 go_wp2_with fail;refine SC.out.mono ?_;rintro e w1 ⟨rfl,hb1⟩;have HB1:=k_ hb1;clear hb1;go_wp2_with fail
 go_loopw [7,17] (fun o i wr=>o=.slice none 0 0∧i=.int .i64 0∧w1=wr) (fun _ i _=>0)
 case atStart=>exact⟨rfl,rfl,rfl⟩
 case round =>
  obtain⟨rfl,rfl,rfl⟩:=hrel;go_wp2_with fail;refine(AN.out _).mono ?_;rintro e w2 ⟨ab,rfl,hb2⟩;have HB2:=k_ (HB1.out.trans (hb2.mono HB1.out.size));clear hb2;go_wp2_with fail
  go_ret2
  exact⟨_,rfl,tH (tH HB2.out _) _⟩
theorem nC.fr {w w':World} {sb wb:Nat} {base:Int} {l:List Int} {G:Nat→Prop} (h:nC w sb wb base l) (hf:Fr G w w') (h1:¬ G sb) (h2:¬ G wb):nC w' sb wb base l:=⟨hf.heap h.1 h1,hf.heap h.2 h2⟩
theorem TaskAt.fresh {w w1:World} {D:Nat→Prop} {p:TPrg} {c0 c1 c2:Value} {sb wb kb:Nat} {base:Int} {l:List Int} (hp:PV w D p c0 c1 c2) (hD:∀ k,D k→k<w.heap.size) (hb:Below w.heap.size w w1) (hst:nC w1 sb wb base l) (hs:w.heap.size≤sb) (hw:w.heap.size≤wb) (hk:w.heap.size≤kb) (hk2:kb<w1.heap.size) (g:Nat) (hg:g=w1.heap.size) (hkm:bf spK (Value.int .i64) w1 kb 0 (fun _=>none)) :
  TaskAt (w1.alloc (.cells #[c0,c1,c2,.pointer (some ⟨sb,0,none⟩),.slice none 0 0,.slice none 0 0,.slice none 0 0,.map (some kb)] 272)) (fun k=>k=g∨k=sb∨k=wb∨k=kb) g p ⟨base,l,[],[]⟩ ⟨D,c0,c1,c2,.slice none 0 0,.slice none 0 0,sb,wb,kb,.slice none 0 0,[],fun _=>none,0⟩ where
 row:=by rw[hg];exact ai _ _
 prg:=(hp.below hb).fr ((Fr.refl (fun _=>False) w1).alloc _) (fun _ _ h=>h)
 out:=fun k hk=>⟨fun h=>by have:=hD k hk;have:=hb.size;rcases h with h | h | h | h <;> omega,by have:=hD k hk;have:=hb.size;simp;omega⟩
 srow:=aU hst.1 _
 wrow:=aU hst.2 _
 parts:=Own.nil _ _ _
 marks:=Own.nil _ _ _
 kb:=by simp;omega
 kept:=⟨0,Nat.le_refl _,hkm.fr ((Fr.refl (fun _=>False) w1).alloc _) (fun h=>h)⟩
 alarms:=Own.nil _ _ _
 ft:=.inl rfl
 fs:=.inr (.inl rfl)
 fw:=.inr (.inr (.inl rfl))
 fk:=.inr (.inr (.inr rfl))
 fp:=fun k hk=>by cases hk
 fm:=fun k hk=>by cases hk
 fa:=fun k hk=>by cases hk
 flt:=fun k hk=>by
  have h1:=aj hst.1;have h2:=aj hst.2
  simp
  rcases hk with h | h | h | h <;> omega
theorem Gf (w:World) (D:Nat→Prop) (hD:∀ k,D k→k<w.heap.size) (p:TPrg) (c0 c1 c2:Value) (hv:PV w D p c0 c1 c2) (hp:eG p) (j:Nat) (hj:j<p.funcs.length) (hna:p.funcs[j].nargs=0) (hsl0:0≤p.funcs[j].slots) (serial:Nat) (hs:serial≤100000) (first limit:Int) (cap:Nat) (h1:1≤cap) (h2:cap≤4096) (hlim:(cap:Int)≤limit) (hneed:aT p j≤cap)
  (hfit:∀ w,Calls Tryz.prog 128 #[.int .i64 first,.int .i64 (aT p j)] w fun e w'=>e=.returned (.int .i64 cap)∧w=w') :
  Calls Tryz.prog 121 #[.agg #[c0,c1,c2],.int .i64 j,.slice none 0 0,.int .i64 serial,.int .i64 first,.int .i64 limit] w fun e w'=>∃ tb F X,e=.returned (.tuple #[.pointer (some ⟨tb,0,none⟩),.int .i64 0])∧TaskAt w' F tb p (Aq ⟨1073741824+(serial:Int) * 8192,List.replicate cap 0,[],[]⟩ 0 (aT p j) j (-1) []) X∧(X.New∧X.D=D)∧(∀ k,F k→w.heap.size≤k)∧Below w.heap.size w w':=by
 have hv0:=hv;obtain⟨⟨a0,n0,m0,rfl⟩,⟨a1,m1,rfl,hsh⟩,a2,m2,rfl,hfn⟩:=hv;have hbx:=fun wr h=>kL w #[.slice a0 n0 m0,.slice a1 p.shapes.length m1,.slice a2 p.funcs.length m2] 48 wr h
 have hz0:(w.alloc (.cells #[.slice a0 n0 m0,.slice a1 p.shapes.length m1,.slice a2 p.funcs.length m2] 48)).heap.size=w.heap.size+1:=by simp
 obtain⟨W,hW⟩:∃ W,W=(w.alloc (.cells #[.slice a0 n0 m0,.slice a1 p.shapes.length m1,.slice a2 p.funcs.length m2] 48)):=⟨_,rfl⟩;rw[← hW] at hbx hz0;have hs3:∀ wr,Below W.heap.size W wr→wr.cell? ⟨w.heap.size,0,none⟩=some (.slice a0 n0 m0)∧wr.cell? ⟨w.heap.size,1,none⟩=some (.slice a1 p.shapes.length m1)∧wr.cell? ⟨w.heap.size,2,none⟩=some (.slice a2 p.funcs.length m2):=fun wr h=>by
  rw[hz0] at h;have hb:=hbx wr h;exact⟨hb.1 0 _ rfl,hb.1 1 _ rfl,hb.1 2 _ rfl⟩
 have hbw:∀ wr,Below W.heap.size W wr→Below w.heap.size w wr:=fun wr h=>by rw[hz0] at h;exact(hbx wr h).2.1
 have hw0:=Below.refl W.heap.size W;have hb0:=hbw W hw0;have wd:=jm W D (fun k hk=>Nat.lt_of_lt_of_le (hD k hk) hb0.size) p _ _ _ j (hv0.below hb0) hp;have hfn:=hfn.fr (fb_ hb0) (fun _ _ h=>h);obtain⟨bb,o,rfl,_,y0,y1,y2,y3,y4,g0,g1,g2,g3,g4,hfv⟩:=hfn j hj;obtain⟨⟨e0,e1,rfl⟩,_⟩:=hfv;have hj0:¬ (j:Int)<0:=by omega
 have hj1:¬ (p.funcs.length:Int)≤(j:Int):=by omega
 have hj2:(j:Int)<p.funcs.length:=by omega
 obtain⟨k0,k1,k2⟩:=hs3 W hw0;rw[hna] at g0;have hnl:((aT p j:Nat):Int)≤limit:=by omega
 have hmake:∀ w,(Instr.makeMap 265 none).run Tryz.prog w=.ok (.map (some w.heap.size)) (w.alloc (.map #[] 0)):=fun w=>run_makeMap _ w
 have sn:=fun w=>Cf w serial hs cap h1 h2
 have en:=fun wr F tb X (h:TaskAt wr F tb p ⟨1073741824+(serial:Int) * 8192,List.replicate cap 0,[],[]⟩ X) (hxa:X.al.length≤10000)=>Cc wr F tb p _ X h hp ⟨by simp,by simp,by simp;omega,fun q hq=>by cases hq⟩ (by simp) j hj 0 (vI rfl) (by simp;omega) (fun _=>False) none [] 0 (fun j hj=>by cases hj) (fun _ h=>h.elim) hna.symm (by simp;exact hsl0) (by simp) hxa (-1)
 have hPV:∀ wr,Below W.heap.size W wr→PV wr D p (.slice a0 n0 m0) (.slice a1 p.shapes.length m1) (.slice (some ⟨bb,o,none⟩) p.funcs.length m2):=fun wr h=>hv0.below (hbw wr h)
 generalize aT p j=wn at *;have HW:=k_ hW;clear hW hbx hz0 hv0 hsh hfn hna hsl0;have HS3:=k_ hs3;clear hs3;have HBW:=k_ hbw;clear hbw;have HW0:=k_ hw0;clear hw0;have HB0:=k_ hb0;clear hb0;have WD:=k_ wd;clear wd;have SN:=k_ sn;clear sn;have EN:=k_ en;clear en;have HPV:=k_ hPV;clear hPV;have HFIT:=k_ hfit;clear hfit
 go_enter Tryz.func121,Tryz.ntmps121
 go_upto_region 1 with fail
 rw[← HW.out];go_wp2_with fail;refine WD.out.mono ?_;rintro e w1 ⟨rfl,hb1⟩;have HB1:=k_ hb1;clear hb1;go_wp2_with fail;refine(HFIT.out _).mono ?_;rintro e w2 ⟨rfl,rfl⟩;clear k0 k1 k2;obtain⟨k0,k1,k2⟩:=HS3.out w1 HB1.out;clear g0 g1 g2 g3 g4
 go_upto_region 9 with fail
 have hw1:=HBW.out w1 HB1.out;have HW1:=k_ hw1;clear hw1
 go_cut [16] (fun t wx=>∃ tb F X,t=.pointer (some ⟨tb,0,none⟩)∧TaskAt wx F tb p ⟨1073741824+(serial:Int) * 8192,List.replicate cap 0,[],[]⟩ X∧(X.New∧X.D=D)∧(∀ k,F k→w1.heap.size≤k)∧Below w1.heap.size w1 wx)
 case first =>
  have b0:=World.block_lt k0
  dsimp only at b0
  go_region_law (first | (go_simp;go_at_call 166;refine(SN.out _).mono ?_;rintro e w3 ⟨sb,wb,rfl,hst,h1s,h2s,h3s,h4s,hb3⟩;have hbq:Below w1.heap.size w1 w3:=(by first | exact((Below.refl w1.heap.size w1).drew).trans hb3 | exact(((Below.refl w1.heap.size w1).alloc (Nat.le_refl _) (.map #[] 0)).drew).trans (hb3.mono (by simp)));obtain⟨z0,z1,z2⟩:=HS3.out w3 (HB1.out.trans (hbq.mono HB1.out.size));have bz:=World.block_lt z0))
  all_goals
   have hz:=hbq.size;have hsb:w1.heap.size≤sb:=by simp at h1s;omega
   have hwb:w1.heap.size≤wb:=by simp at h2s;omega
   have hpv:=HPV.out w1 HB1.out;have hD1:∀ k,D k→k<w1.heap.size:=fun k hk=>Nat.lt_of_lt_of_le (hD k hk) HW1.out.size
   clear h1s h2s z0 z1 z2 bz b0;have HZ:=k_ hz;clear hz;have HSB:=k_ hsb;clear hsb;have HWB:=k_ hwb;clear hwb;have HPV:=k_ hpv;clear hpv;have HD1:=k_ hD1;clear hD1;have HBQ:=k_ hbq;clear hbq;have HST:=k_ hst;clear hst;have HB3:=k_ hb3;clear hb3;go_wp2_with fail
   go_meet
   case rel =>
    have h1:=HZ.out;have h2:=HSB.out;have h3:=HWB.out
    first
    | (refine⟨_,_,_,rfl,TaskAt.fresh HPV.out HD1.out (HBQ.out.alloc HBQ.out.size (.map #[] 0)) (HST.out.fr ((Fr.refl (fun _=>False) w3).alloc (.map #[] 0)) (fun h=>h) (fun h=>h)) HSB.out HWB.out HZ.out (by simp) (w3.heap.size+1) (by simp) (bf.made spK _ w3),⟨⟨rfl,rfl,rfl⟩,rfl⟩,?_,?_⟩
       ·intro k hk
        rcases hk with h | h | h | h <;> omega
       ·exact(HBQ.out.alloc HBQ.out.size _).alloc (by simp;omega) _)
    | (refine⟨_,_,_,rfl,TaskAt.fresh HPV.out HD1.out HBQ.out HST.out HSB.out HWB.out (Nat.le_refl _) ?_ w3.heap.size rfl (((bf.made spK _ w1).below ((Below.refl _ _).drew)).below HB3.out),⟨⟨rfl,rfl,rfl⟩,rfl⟩,?_,?_⟩
       ·omega
       ·intro k hk
        rcases hk with h | h | h | h <;> omega
       ·exact HBQ.out.alloc HBQ.out.size _)
 case rest =>
  obtain⟨tb,F,X,rfl,hT,hXn,hF,hbt⟩:=hcut;have en:=EN.out wc F tb X hT (by rw[hXn.1.1];simp);have hbt2:=HW1.out.trans (hbt.mono HW1.out.size);clear k0 k1 k2 hT;have EN:=k_ en;clear en;have HF:=k_ hF;clear hF;have HBT:=k_ hbt;clear hbt;have HBT2:=k_ hbt2;clear hbt2;have HXN:=k_ hXn;clear hXn;go_wp2_with fail;refine EN.out.mono ?_;rintro e w5 ⟨rfl,F5,X5,hT5,hxq,hF5,hfr5⟩;have HX5:=k_ (show X5.New∧X5.D=D from⟨⟨by rw[hxq.2.1];exact HXN.out.1.1,by rw[hxq.2.2.1];exact HXN.out.1.2.1,by rw[hxq.2.2.2];exact HXN.out.1.2.2⟩,by rw[hxq.1];exact HXN.out.2⟩);clear hxq;have hz1:=HW1.out.size;have hz2:=HBT.out.size;have hlow:∀ k,F5 k→w.heap.size≤k:=fun k hk=>by
   rcases hF5 k hk with h | h
   ·have:=HF.out k h
    omega
   ·omega
  have hbf:Below w.heap.size w w5:=HBT2.out.trans (hfr5.below HBT2.out.size (fun k hk=>by have:=HF.out k hk;omega));clear hF5 hfr5 hz1 hz2;have HT5:=k_ hT5;clear hT5;have HLOW:=k_ hlow;clear hlow;have HBF:=k_ hbf;clear hbf;go_wp2_with fail
  go_ret2
  first | exact⟨_,_,_,rfl,HT5.out,HX5.out,HLOW.out,HBF.out⟩ | exact⟨tb,rfl,F5,X5,HT5.out,HX5.out,HLOW.out,HBF.out⟩ | exact⟨tb,F5,X5,rfl,HT5.out,HX5.out,HLOW.out,HBF.out⟩
def KM (b:Int):Prop:=0≤b∧b≤1000000000000
theorem EF (w:World) (sb wb:Nat) (base:Int) (l:List Int) (h:nC w sb wb base l) :
  Calls Tryz.prog 238 #[.pointer (some ⟨sb,0,none⟩)] w fun e w'=>e=.returned (.int .i64 base)∧w=w':=by
 obtain⟨k0,k1⟩:=h.cells;clear h
 go_enter Tryz.func238,Tryz.ntmps238
 go_wp2_with fail
 go_ret
 exact⟨rfl,rfl⟩
theorem nP {w:World} {q:Nat} {x0 x1 x2 x3 x4 x5 x6 x7 x8:Value} {t:TypeId} (h:w.heap[q]?=some (.cells #[x0,x1,x2,x3,x4,x5,x6,x7,x8] t)) :
  (w.cell? ⟨q,0,none⟩=some x0∧w.cell? ⟨q,1,none⟩=some x1∧w.cell? ⟨q,2,none⟩=some x2∧w.cell? ⟨q,3,none⟩=some x3∧w.cell? ⟨q,4,none⟩=some x4∧w.cell? ⟨q,5,none⟩=some x5∧w.cell? ⟨q,6,none⟩=some x6∧w.cell? ⟨q,7,none⟩=some x7∧w.cell? ⟨q,8,none⟩=some x8)∧w.frozen? ⟨q,0,none⟩=false∧w.frozen? ⟨q,1,none⟩=false∧w.frozen? ⟨q,2,none⟩=false∧w.frozen? ⟨q,3,none⟩=false∧w.frozen? ⟨q,4,none⟩=false∧w.frozen? ⟨q,5,none⟩=false∧w.frozen? ⟨q,6,none⟩=false∧w.frozen? ⟨q,7,none⟩=false∧w.frozen? ⟨q,8,none⟩=false :=
 ⟨⟨(aa h 0).1,(aa h 1).1,(aa h 2).1,(aa h 3).1,(aa h 4).1,(aa h 5).1,(aa h 6).1,(aa h 7).1,(aa h 8).1⟩,(aa h 0).2,(aa h 1).2,(aa h 2).2,(aa h 3).2,(aa h 4).2,(aa h 5).2,(aa h 6).2,(aa h 7).2,(aa h 8).2⟩
def Eo:Obj:=.cells #[.int .i64 0,.int .i64 0,.int .i64 0,.bool false,.bool false,.int .i64 0,.bool false,.slice none 0 0,.slice none 0 0] 331
end Go.Proofs.YtlofbhoicbemnaaGreatDoor.Tk
