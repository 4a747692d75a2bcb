/- Walks: the book's lists are grown. Walks: the book grows its lists of entries. Walks: the book's kinds of which nothing is kept; one .. -/
import Derived.Test.YtlofbhoicbemnaaGreatDoorDAh
set_option linter.unusedVariables false
set_option linter.unusedSimpArgs false
set_option maxRecDepth 100000
set_option maxHeartbeats 3200000
namespace Go.Proofs.YtlofbhoicbemnaaGreatDoor
open Go.ChangeShapes Go.WideShapes Go.ChangeAt Go.RowKit
def OutOk {α:Type} (E:Elem Tryz.prog α) (HE:Elem Tryz.prog Hd) (mk:Nat→Nat→α) (w wr:World) (B:Nat) (hs:List Hd) (ls:List (List α)) (vo:Value) (i:Nat):Prop :=
 ∃ hs2:List Hd,Own HE wr w.heap.size vo hs2∧hs2.length=i∧∀ j (h:j<hs2.length) (h1:j<hs.length) (h2:j<ls.length),hs2[j].n=ls[j].length+72∧Own E wr B hs2[j].val (marks mk j 0 (ls[j].length+72)) ∧
  ∀ k,hs2[j].val.ownBlock=some k→(hs[j].val.ownBlock=some k∨w.heap.size≤k)∧vo.ownBlock≠some k
theorem OutOk.fr {α:Type} {E:Elem Tryz.prog α} {HE:Elem Tryz.prog Hd} {mk:Nat→Nat→α} {w wr wr':World} {B:Nat} {hs:List Hd} {ls:List (List α)} {vo:Value} {i:Nat} {F:Nat→Prop} (h:OutOk E HE mk w wr B hs ls vo i) (hi:i≤hs.length) (hl:hs.length=ls.length) (hf:Fr F wr wr')
  (h1:∀ k,w.heap.size≤k→k<wr.heap.size→¬ F k) (h2:∀ j (hj:j<hs.length),j<i→∀ k,hs[j].val.ownBlock=some k→¬ F k):OutOk E HE mk w wr' B hs ls vo i:=by
 obtain⟨hs2,g1,g2,g3⟩:=h;refine⟨hs2,g1.fr hf (fun k hk=>h1 k (g1.lt hk).1 (g1.lt hk).2),g2,fun j hj hj1 hj2=>?_⟩;obtain⟨e1,e2,e3⟩:=g3 j hj hj1 hj2;refine⟨e1,e2.fr hf (fun k hk=>?_),e3⟩
 rcases (e3 k hk).1 with h | h
 ·exact h2 j hj1 (by omega) k h
 ·exact h1 k h (e2.lt hk).2
theorem OutOk.snoc {α:Type} {E:Elem Tryz.prog α} {HE:Elem Tryz.prog Hd} {mk:Nat→Nat→α} {w wr wr':World} {B:Nat} {hs:List Hd} {ls:List (List α)} {vo vo':Value} {i:Nat} {hs2:List Hd} {x:Hd} (hB:B≤w.heap.size)
  (g1:Own HE wr w.heap.size vo hs2) (g2:hs2.length=i) (g3:∀ j (h:j<hs2.length) (h1:j<hs.length) (h2:j<ls.length),hs2[j].n=ls[j].length+72∧Own E wr B hs2[j].val (marks mk j 0 (ls[j].length+72))∧∀ k,hs2[j].val.ownBlock=some k→(hs[j].val.ownBlock=some k∨w.heap.size≤k)∧vo.ownBlock≠some k)
  (hi:i<ls.length) (hi1:i<hs.length) (hn:x.n=ls[i].length+72) (hx:Own E wr B x.val (marks mk i 0 (ls[i].length+72))) (hxb:∀ k,x.val.ownBlock=some k→(hs[i].val.ownBlock=some k∨w.heap.size≤k)∧vo.ownBlock≠some k)
  (ho:Own HE wr' w.heap.size vo' (hs2 ++ [x])) (hg:wr.grownBy wr' vo.ownBlock) (hf:Fresh wr vo vo'):OutOk E HE mk w wr' B hs ls vo' (i+1):=by
 have hfr:Fr (fun k=>vo.ownBlock=some k) wr wr':=(Fr.refl _ _).grown hg (fun k hk _=>hk);have hne:∀ (y:Value) l,Own E wr B y l→(∀ k,y.ownBlock=some k→vo.ownBlock≠some k)→∀ k,y.ownBlock=some k→vo'.ownBlock≠some k:=fun y l hy h k hk e=>by
  rcases hf k e with h5 | h5
  ·exact h k hk h5
  ·have:=(hy.lt hk).2;omega
 refine⟨hs2 ++ [x],ho,by simp[g2],fun j hj hj1 hj2=>?_⟩
 rcases snoc_get hs2 x j hj with⟨h5,h6⟩ | ⟨h5,h6⟩
 ·rw[h6]
  obtain⟨e1,e2,e3⟩:=g3 j h5 hj1 hj2;exact⟨e1,e2.fr hfr (fun k hk=>(e3 k hk).2),fun k hk=>⟨(e3 k hk).1,hne _ _ e2 (fun k hk=>(e3 k hk).2) k hk⟩⟩
 ·rw[h6]
  have:j=i:=by omega
  subst this;exact⟨hn,hx.fr hfr (fun k hk=>(hxb k hk).2),fun k hk=>⟨(hxb k hk).1,hne _ _ hx (fun k hk=>(hxb k hk).2) k hk⟩⟩
theorem growEntries_any (w:World) (p B:Nat) (X:Nat→Prop) (v:Value) (hs:List Hd) (ls:List (List Ent)) (q0:w.cell? ⟨p,6,none⟩=some v) (hp:¬ X p) (hX:∀ k,X k→k<w.heap.size) (hB:B≤w.heap.size) (hF:Fam entE entsE w B X v hs ls)
  (hn:ls.length≤1000) (hl:∀ l ∈ ls,l.length≤100000) (hM:∀ i (h:i<ls.length),ls[i]=marks mkEntries i 0 ls[i].length) :
  Calls Tryz.prog 38 #[.pointer (some ⟨p,0,none⟩)] w fun e w'=>∃ vo,e=.returned vo∧OutOk entE entsE mkEntries w w' B hs ls vo ls.length∧Fam entE entsE w' B X v hs ls∧Fr X w w':=by
 obtain⟨a,c,rfl⟩:=hF.slice;have HF:=k_ hF;clear hF;have HL:=k_ hl;clear hl;have HX:=k_ hX;clear hX;have HP:=k_ hp;clear hp;have HM:=k_ hM;clear hM
 go_enter Tryz.func38,Tryz.ntmps38
 go_wp2_with fail
 go_loopw [3,4] (fun vo s4 wr=>∃ i:Nat,i≤ls.length∧s4=.int .i64 i∧OutOk entE entsE mkEntries w wr B hs ls vo i∧Fam entE entsE wr B X (.slice a ls.length c) hs ls∧Fr X w wr) (fun _ s4 _=>ls.length - (intOf s4).toNat)
 case atStart=>exact⟨0,Nat.zero_le _,rfl,⟨[],Own.nil _ _ _,rfl,fun j hj _ _=>(by cases hj)⟩,HF.out,Fr.refl _ _⟩
 case round =>
  obtain⟨i,hi,rfl,hout,hf,hfr⟩:=hrel;have r0:=hfr.cell q0 HP.out
  by_cases hlt:i<ls.length
  ·obtain⟨g,c2,he,hXg,hj,hc,ho⟩:=hf.head rfl (fun _=>rfl) i hlt
   injection he with e1 e2 e3
   subst e1 e3;have hlk:=HL.out _ (List.getElem_mem hlt);have hm:=HM.out i hlt;have hmem:=hf.mem i hj;have hgs:GS entE wr B hs[i].val ls[i] hs[i].val (marks mkEntries i 0 (ls[i].length+0)):=by
    rw[Nat.add_zero,← hm];exact GS.init ho
   obtain⟨x,y,hxv⟩:∃ x y,hs[i].val=.slice x ls[i].length y:=by
    obtain⟨x,y,hx,_⟩:=own_elems ho;exact⟨x,y,hx⟩
   have mk:∀ W f d,1≤d→d≤60→f≤200000→Calls Tryz.prog 69 #[.int .i64 i,.int .i64 (f:Nat),.int .i64 (d:Nat)] W fun e w'=>∃ g c,e=.returned (.slice (some ⟨g,0,none⟩) (marks mkEntries i f d).length c)∧CellsAt w' g 0 ((marks mkEntries i f d).flatMap (entE).enc)∧Below W.heap.size W w':=fun W f d h1 h2 h3 =>
    (markEntries_any i f d W (by omega) (by omega) (by omega)).mono (by
     rintro e w' ⟨v,rfl,ho,hb⟩;obtain⟨g,c,rfl,_,_,hcs⟩:=ho.cells (by rw[marks_len];exact h1);exact⟨g,c,rfl,hcs,hb⟩)
   have hub:=fun (n:Nat) (h:n=ls[i].length)=>hlk
   obtain⟨hd,hhd⟩:∃ hd,hd=hs[i].val:=⟨_,rfl⟩;rw[← hhd] at hc hgs hxv hmem;rw[hxv] at hc;have hsz0:=hfr.size;obtain⟨N1,hn1⟩:∃ N1,N1=wr.heap.size:=⟨_,rfl⟩;have hvo:=fun k hk=>(hout.choose_spec.1.lt (k:=k) hk).2
   rw[← hn1] at hvo hsz0;have hg1:=hf;have hr1:=hfr;generalize hl0:ls[i]=l0 at *;generalize hn0:l0.length=n0 at *;have hmk1:=mk;clear hf hfr hm hub ho mk;have HMK1:=k_ hmk1;clear hmk1;have HG1:=k_ hg1;clear hg1;have HR1:=k_ hr1;clear hr1;have HGS:=k_ hgs;clear hgs;have HHD:=k_ hhd;clear hhd;have HXV:=k_ hxv;clear hxv;have HOUT:=k_ hout;clear hout;have HMEM:=k_ hmem;clear hmem;have HL0:=k_ hl0;clear hl0;have HN0:=k_ hn0;clear hn0;have HN1:=k_ hn1;clear hn1;have HVO:=k_ hvo;clear hvo;go_wp2_with fail;rw[← HXV.out]
   go_loopw [5,6] (fun vl s6 wk=>∃ t:Nat,t≤12∧s6=.int .i64 t∧GS entE wk B hd l0 vl (marks mkEntries i 0 (n0+t))∧(∀ k,vl.ownBlock=some k→hd.ownBlock=some k∨N1≤k)∧Fr (fun k=>hd.ownBlock=some k) wr wk) (fun _ s6 _=>12 - (intOf s6).toNat)
   case atStart=>exact⟨0,by omega,rfl,HGS.out,fun k hk=>.inl hk,Fr.refl _ _⟩
   case round =>
    obtain⟨t,ht,rfl,hgs2,hvb,hfk⟩:=hrel;obtain⟨L,hL⟩:∃ L,L=marks mkEntries i 0 (n0+t):=⟨_,rfl⟩;have hq:L.length=n0+t:=by rw[hL,marks_len]
    have hLb:L.length≤200000:=by omega
    rw[← hL] at hgs2;obtain⟨x1,y1,hv1⟩:∃ x1 y1,_=Value.slice x1 L.length y1:=by
     obtain⟨x,y,hx,_⟩:=own_elems hgs2.cur;exact⟨x,y,hx⟩
    subst hv1
    by_cases hlt12:t<12
    ·have hmk:=fun W=>HMK1.out W L.length 1 (by omega) (by omega) (by omega)
     rw[show ((1:Nat):Int)=1 from rfl] at hmk;obtain⟨M,hMe⟩:∃ M,M=marks mkEntries i L.length 1:=⟨_,rfl⟩;have hMl:M.length=1:=by rw[hMe,marks_len]
     rw[← hMe] at hmk;have hLM:L ++ M=marks mkEntries i 0 (n0+(t+1)):=by rw[hMe,hL,marks_len,← Nat.add_assoc,marks_add mkEntries i (n0+t) 1]
     have HMK:=k_ hmk;clear hmk;have HGS2:=k_ hgs2;clear hgs2;have HVB:=k_ hvb;clear hvb;have HFK:=k_ hfk;clear hfk;have HME:=k_ hMe;clear hMe;have HL:=k_ hL;clear hL;have HLM:=k_ hLM;clear hLM;have HML:=k_ hMl;clear hMl;have HQ:=k_ hq;clear hq;go_wp2_with fail;refine(HMK.out _).mono ?_;rintro e W ⟨g1,c1,rfl,hcs,hb⟩;have hgs3:=HGS2.out.below hb;have HB':=k_ hb;clear hb;have HGS3:=k_ hgs3;clear hgs3;have HCS:=k_ hcs;clear hcs
     go_wp2_with (at_builtin;refine append_keep entE rfl (.tmp 27) (.tmp 31) rfl B L M _ rfl HGS3.out.cur g1 0 c1 rfl HCS.out ?c1 ?c2 ?_)
     case c1=>rw[HML.out];omega
     case c2=>have:=HN1.out;have:=HFK.out.size;have:=HB'.out.size;omega
     intro v4 w4 h1 h2 h3 h4;have hgs4:=HGS3.out.step h1 h2 h3 h4;have hfr4:Fr (fun k=>hd.ownBlock=some k) _ w4:=(HFK.out.trans (Fr.of_below HB'.out (fun _=>False)) (fun _ _ h=>h.elim)).grown h2 (fun k hk hlt=>by
      rcases HVB.out k hk with h | h
      ·exact h
      ·have:=HN1.out;omega)
     have hvb4:∀ k,v4.ownBlock=some k→hd.ownBlock=some k∨N1≤k:=fun k hk=>by
      rcases h3 k hk with h | h
      ·exact HVB.out k h
      ·exact .inr (by have:=HN1.out;have:=HFK.out.size;have:=HB'.out.size;omega)
     rw[HLM.out] at hgs4;clear h1 h2 h3 h4;have HGS4:=k_ hgs4;clear hgs4;have HFR4:=k_ hfr4;clear hfr4;have HVB4:=k_ hvb4;clear hvb4;go_wp2_with fail
     go_roundw
     case rel=>exact⟨t+1,by omega,by go_num,HGS4.out,HVB4.out,HFR4.out⟩
     case measure=>simp[intOf];omega
    ·have ht2:t=12:=by omega
     subst ht2;have hmk:=fun W=>HMK1.out W L.length 60 (by omega) (by omega) (by omega)
     rw[show ((60:Nat):Int)=60 from rfl] at hmk;obtain⟨M,hMe⟩:∃ M,M=marks mkEntries i L.length 60:=⟨_,rfl⟩;have hMl:M.length=60:=by rw[hMe,marks_len]
     rw[← hMe] at hmk;have hLM:L ++ M=marks mkEntries i 0 (n0+72):=by rw[hMe,hL,marks_len,show n0+72=(n0+12)+60 from rfl,marks_add mkEntries i (n0+12) 60]
     have hll:(L ++ M).length=n0+72:=by rw[List.length_append];omega
     have HMK:=k_ hmk;clear hmk;have HGS2:=k_ hgs2;clear hgs2;have HVB:=k_ hvb;clear hvb;have HFK:=k_ hfk;clear hfk;have HME:=k_ hMe;clear hMe;have HL:=k_ hL;clear hL;have HLM:=k_ hLM;clear hLM;have HML:=k_ hMl;clear hMl;have HLL:=k_ hll;clear hll;have HQ:=k_ hq;clear hq;go_wp2_with fail;refine(HMK.out _).mono ?_;rintro e W ⟨g1,c1,rfl,hcs,hb⟩;have hgs3:=HGS2.out.below hb;have HB':=k_ hb;clear hb;have HGS3:=k_ hgs3;clear hgs3;have HCS:=k_ hcs;clear hcs
     go_wp2_with (at_builtin;refine append_keep entE rfl (.tmp 34) (.tmp 38) rfl B L M _ rfl HGS3.out.cur g1 0 c1 rfl HCS.out ?c1 ?c2 ?_)
     case c1=>rw[HML.out];omega
     case c2=>have:=HN1.out;have:=HFK.out.size;have:=HB'.out.size;omega
     intro v4 w4 h1 h2 h3 h4;have hgs4:=HGS3.out.step h1 h2 h3 h4;have hfr4:Fr (fun k=>hd.ownBlock=some k) _ w4:=(HFK.out.trans (Fr.of_below HB'.out (fun _=>False)) (fun _ _ h=>h.elim)).grown h2 (fun k hk hlt=>by
      rcases HVB.out k hk with h | h
      ·exact h
      ·have:=HN1.out;omega)
     have hvb4:∀ k,v4.ownBlock=some k→hd.ownBlock=some k∨N1≤k:=fun k hk=>by
      rcases h3 k hk with h | h
      ·exact HVB.out k h
      ·exact .inr (by have:=HN1.out;have:=HFK.out.size;have:=HB'.out.size;omega)
     obtain⟨x4,y4,hv4⟩:∃ x4 y4,v4=Value.slice x4 (L ++ M).length y4:=by
      obtain⟨x,y,hx,_⟩:=own_elems hgs4.cur;exact⟨x,y,hx⟩
     subst hv4;rw[HLL.out] at hgs4 hvb4 ⊢;rw[HLM.out] at hgs4;clear h1 h2 h3 h4;have hdb:∀ k,hd.ownBlock=some k→k<w.heap.size:=fun k hk=>HX.out k (HMEM.out k hk).1
     have hout4:=HOUT.out.fr (by omega) HG1.out.len hfr4 (fun k hk _ h=>by have:=hdb k h;omega) (fun j hj1 hj2 k hk h=>by
      have:=HG1.out.apart j i hj1 hj (by omega) k hk;rw[← HHD.out] at this;exact this h)
     have hout5:=hout4.fr (by omega) HG1.out.len ((Fr.refl (fun _=>False) _).alloc (.cells #[.slice x4 (n0+72) y4] 22)) (fun _ _ _ h=>h) (fun _ _ _ _ _ h=>h);have hf4:Fam entE entsE w4 B X (.slice (some ⟨g,0,none⟩) ls.length c) hs ls:=by
      have h:=HG1.out.upd i hj l0 (by rw[← HHD.out];exact hfr4) (by rw[← HHD.out];exact hgs4.old);rw[← HL0.out,List.set_getElem_self] at h;exact h
     have hall:Fr X w w4:=HR1.out.trans hfr4 (fun k _ h=>(HMEM.out k h).1);obtain⟨hs2,o1,o2,o3⟩:=hout5;have O1:=k_ o1;clear o1;have O2:=k_ o2;clear o2;have O3:=k_ o3;clear o3;have HGS4:=k_ hgs4;clear hgs4;have HF4:=k_ hf4;clear hf4;have HALL:=k_ hall;clear hall;have HDB:=k_ hdb;clear hdb;have HVB4:=k_ hvb4;clear hvb4;have HFR4:=k_ hfr4;clear hfr4;clear hout4
     go_wp2_with (at_builtin;refine append_fresh entsE rfl (.tmp 33) (.tmp 40) rfl w.heap.size hs2 [⟨x4,n0+72,y4⟩] _ rfl O1.out w4.heap.size 0 1 rfl (CellsAt.new _ _ _ _) ?d1 ?d2 ?_)
     case d1=>rw[O2.out];show i+1≤100000000;omega
     case d2=>have:=HALL.out.size;simp;omega
     intro v6 w6 g1 g2 g3;have hfr6:Fr (fun k=>w.heap.size≤k) w4 w6:=((Fr.refl _ _).alloc _).grown g2 (fun k hk _=>(O1.out.lt hk).1);have hnew:=OutOk.snoc (B:=B) (E:=entE) (mk:=mkEntries) (hs:=hs) (ls:=ls) hB O1.out O2.out O3.out hlt hj (x:=⟨x4,n0+72,y4⟩) (by rw[HL0.out,HN0.out]) (by rw[HL0.out,HN0.out];exact Own.alloc HGS4.out.cur _) (fun k hk=>⟨by
      rcases HVB4.out k hk with h | h
      ·rw[← HHD.out];exact .inl h
      ·exact .inr (by omega),fun e=>by
      have h1:=O1.out.lt e;have h2:=HVO.out k e
      rcases HVB4.out k hk with h | h
      ·have:=HDB.out k h;omega
      ·omega⟩) g1 g2 g3
     have HNEW:=k_ hnew;clear hnew;have HFR6:=k_ hfr6;clear hfr6;clear g1 g2 g3;go_wp2_with fail
     go_roundw
     case rel=>exact⟨i+1,by omega,by go_num,HNEW.out,HF4.out.fr HFR6.out (fun k hk h=>by have:=HX.out k hk;omega),HALL.out.trans HFR6.out (fun k hk h=>by omega)⟩
     case measure=>simp[intOf];omega
  ·have hi2:i=ls.length:=by omega
   subst hi2;have hP:∀ v',OutOk entE entsE mkEntries w wr B hs ls v' ls.length→∃ vo,Ending.returned v'=.returned vo∧OutOk entE entsE mkEntries w wr B hs ls vo ls.length∧Fam entE entsE wr B X (.slice a ls.length c) hs ls∧Fr X w wr:=fun v' h=>⟨v',rfl,h,hf,hfr⟩
   have HP2:=k_ (hP _ hout);clear hP hout hf hfr;go_wp2_with fail
   go_ret
   exact HP2.out
theorem noStillPairs (w:World) (p:Nat) (q0:w.cell? ⟨p,4,none⟩=some (.slice none 0 0)) :
  Calls Tryz.prog 27 #[.pointer (some ⟨p,0,none⟩)] w fun e w'=>e=.returned (.bool true)∧w'=w:=by
 go_enter Tryz.func27,Tryz.ntmps27
 go_wp2_with fail
 go_loopw [3] (fun i wr=>i=.int .i64 0∧wr=w) (fun i _=>0)
 case atStart=>exact⟨rfl,rfl⟩
 case round =>
  obtain⟨rfl,rfl⟩:=hrel;go_wp2_with fail
  go_ret
  exact⟨rfl,rfl⟩
theorem noPutPairs (w:World) (p:Nat) (q0:w.cell? ⟨p,4,none⟩=some (.slice none 0 0)) :
  Calls Tryz.prog 33 #[.pointer (some ⟨p,0,none⟩)] w fun e w'=>e=.returned (.tuple #[])∧w'=w:=by
 go_enter Tryz.func33,Tryz.ntmps33
 go_wp2_with fail
 go_loopw [2] (fun i wr=>i=.int .i64 0∧wr=w) (fun i _=>0)
 case atStart=>exact⟨rfl,rfl⟩
 case round =>
  obtain⟨rfl,rfl⟩:=hrel;go_wp2_with fail
  go_end0
  exact⟨rfl,rfl⟩
theorem noGrowPairs (w:World) (p:Nat) (q0:w.cell? ⟨p,4,none⟩=some (.slice none 0 0)) :
  Calls Tryz.prog 37 #[.pointer (some ⟨p,0,none⟩)] w fun e w'=>e=.returned (.slice none 0 0)∧w'=w:=by
 go_enter Tryz.func37,Tryz.ntmps37
 go_wp2_with fail
 go_loopw [3,4] (fun v i wr=>v=.slice none 0 0∧i=.int .i64 0∧wr=w) (fun _ i _=>0)
 case atStart=>exact⟨rfl,rfl,rfl⟩
 case round =>
  obtain⟨rfl,rfl,rfl⟩:=hrel;go_wp2_with fail
  go_ret
  exact⟨rfl,rfl⟩
theorem noMarkedPairs (w:World) :
  Calls Tryz.prog 42 #[.slice none 0 0] w fun e w'=>e=.returned (.bool true)∧w'=w:=by
 go_enter Tryz.func42,Tryz.ntmps42
 go_wp2_with fail
 go_loopw [3] (fun i wr=>i=.int .i64 0∧wr=w) (fun i _=>0)
 case atStart=>exact⟨rfl,rfl⟩
 case round =>
  obtain⟨rfl,rfl⟩:=hrel;go_wp2_with fail
  go_ret
  exact⟨rfl,rfl⟩
theorem noStillObjects (w:World) (p:Nat) (q0:w.cell? ⟨p,8,none⟩=some (.slice none 0 0)) :
  Calls Tryz.prog 29 #[.pointer (some ⟨p,0,none⟩)] w fun e w'=>e=.returned (.bool true)∧w'=w:=by
 go_enter Tryz.func29,Tryz.ntmps29
 go_wp2_with fail
 go_loopw [3] (fun i wr=>i=.int .i64 0∧wr=w) (fun i _=>0)
 case atStart=>exact⟨rfl,rfl⟩
 case round =>
  obtain⟨rfl,rfl⟩:=hrel;go_wp2_with fail
  go_ret
  exact⟨rfl,rfl⟩
theorem noPutObjects (w:World) (p:Nat) (q0:w.cell? ⟨p,8,none⟩=some (.slice none 0 0)) :
  Calls Tryz.prog 30 #[.pointer (some ⟨p,0,none⟩)] w fun e w'=>e=.returned (.tuple #[])∧w'=w:=by
 go_enter Tryz.func30,Tryz.ntmps30
 go_wp2_with fail
 go_loopw [2] (fun i wr=>i=.int .i64 0∧wr=w) (fun i _=>0)
 case atStart=>exact⟨rfl,rfl⟩
 case round =>
  obtain⟨rfl,rfl⟩:=hrel;go_wp2_with fail
  go_end0
  exact⟨rfl,rfl⟩
theorem noGrowObjects (w:World) (p:Nat) (q0:w.cell? ⟨p,8,none⟩=some (.slice none 0 0)) :
  Calls Tryz.prog 39 #[.pointer (some ⟨p,0,none⟩)] w fun e w'=>e=.returned (.slice none 0 0)∧w'=w:=by
 go_enter Tryz.func39,Tryz.ntmps39
 go_wp2_with fail
 go_loopw [3,4] (fun v i wr=>v=.slice none 0 0∧i=.int .i64 0∧wr=w) (fun _ i _=>0)
 case atStart=>exact⟨rfl,rfl,rfl⟩
 case round =>
  obtain⟨rfl,rfl,rfl⟩:=hrel;go_wp2_with fail
  go_ret
  exact⟨rfl,rfl⟩
theorem noMarkedObjects (w:World) :
  Calls Tryz.prog 44 #[.slice none 0 0] w fun e w'=>e=.returned (.bool true)∧w'=w:=by
 go_enter Tryz.func44,Tryz.ntmps44
 go_wp2_with fail
 go_loopw [3] (fun i wr=>i=.int .i64 0∧wr=w) (fun i _=>0)
 case atStart=>exact⟨rfl,rfl⟩
 case round =>
  obtain⟨rfl,rfl⟩:=hrel;go_wp2_with fail
  go_ret
  exact⟨rfl,rfl⟩
def Bk (w:World) (p:Nat) (cs:Array Value):Prop:=w.heap[p]?=some (.cells cs 39)
theorem Bk.cell {w:World} {p:Nat} {cs:Array Value} (h:Bk w p cs) (j:Nat):w.cell? ⟨p,j,none⟩=cs[j]?:=(row_cell h j).1
theorem Bk.frozen {w:World} {p:Nat} {cs:Array Value} (h:Bk w p cs) (j:Nat):w.frozen? ⟨p,j,none⟩=false:=(row_cell h j).2
theorem Fam.snoc {α:Type} {E:Elem Tryz.prog α} {HE:Elem Tryz.prog Hd} {w w':World} {B:Nat} {X:Nat→Prop} {v v':Value} {hs:List Hd} {ls:List (List α)} (h:Fam E HE w B X v hs ls) {x:Hd} {l:List α} (hx:Own E w B x.val l) (hxX:∀ k,x.val.ownBlock=some k→¬ X k)
  (hXw:∀ k,X k→k<w.heap.size) (ho:Own HE w' B v' (hs ++ [x])) (hg:w.grownBy w' v.ownBlock) (hf:Fresh w v v'):Fam E HE w' B (fun k=>X k∨x.val.ownBlock=some k∨v'.ownBlock=some k) v' (hs ++ [x]) (ls ++ [l]):=by
 have hfr:Fr (fun k=>v.ownBlock=some k) w w':=(Fr.refl _ _).grown hg (fun k hk _=>hk);have hxv:∀ k,x.val.ownBlock=some k→v.ownBlock≠some k:=fun k hk e=>hxX k hk (h.row k e)
 have hmem:∀ j (hj:j<hs.length) k,hs[j].val.ownBlock=some k→v'.ownBlock≠some k:=fun j hj k hk e=>by
  rcases hf k e with h5 | h5
  ·exact(h.mem j hj k hk).2 h5
  ·have:=hXw k (h.mem j hj k hk).1;omega
 refine⟨ho,by simp[h.len],fun j hj hj'=>?_,fun i j hi hj hij k hk e=>?_,fun k hk=>.inr (.inr hk),fun j hj k hk=>?_⟩
 ·rcases snoc_get hs x j hj with⟨h5,h6⟩ | ⟨h5,h6⟩
  ·rcases snoc_get ls l j hj' with⟨h7,h8⟩ | ⟨h7,h8⟩
   ·rw[h6,h8];exact(h.each j h5 h7).fr hfr (fun k hk=>(h.mem j h5 k hk).2)
   ·have:=h.len;omega
  ·rcases snoc_get ls l j hj' with⟨h7,h8⟩ | ⟨h7,h8⟩
   ·have:=h.len;omega
   ·rw[h6,h8];exact hx.fr hfr hxv
 ·rcases snoc_get hs x i hi with⟨h5,h6⟩ | ⟨h5,h6⟩
  ·rcases snoc_get hs x j hj with⟨h7,h8⟩ | ⟨h7,h8⟩
   ·rw[h6] at hk;rw[h8] at e;exact h.apart i j h5 h7 hij k hk e
   ·rw[h6] at hk;rw[h8] at e;exact hxX k e (h.mem i h5 k hk).1
  ·rcases snoc_get hs x j hj with⟨h7,h8⟩ | ⟨h7,h8⟩
   ·rw[h6] at hk;rw[h8] at e;exact hxX k hk (h.mem j h7 k e).1
   ·omega
 ·rcases snoc_get hs x j hj with⟨h5,h6⟩ | ⟨h5,h6⟩
  ·rw[h6] at hk;exact⟨.inl (h.mem j h5 k hk).1,hmem j h5 k hk⟩
  ·rw[h6] at hk
   refine⟨.inr (.inl hk),fun e=>?_⟩
   rcases hf k e with h7 | h7
   ·exact hxv k hk h7
   ·have:=(hx.lt hk).2;omega
theorem mkd_marks {α:Type} (mk:Nat→Nat→α) (ls:List (List α)):∀ i (h:i<(mkd mk ls.length ls).length),(mkd mk ls.length ls)[i]=marks mk i 0 (mkd mk ls.length ls)[i].length:=fun i h=>by
 have h':i<ls.length:=by simpa[mkd_len] using h
 rw[mkd_get mk ls.length ls i h h',if_pos h',marks_len]
theorem mkd_lens {α:Type} (mk:Nat→Nat→α) (ls:List (List α)) (n:Nat) (hl:∀ l ∈ ls,l.length≤n):∀ l ∈ mkd mk ls.length ls,l.length≤n:=fun l hl'=>by
 obtain⟨i,hi,rfl⟩:=List.getElem_of_mem hl';have h':i<ls.length:=by simpa[mkd_len] using hi
 rw[mkd_get mk ls.length ls i hi h',if_pos h',marks_len];exact hl _ (List.getElem_mem h')
section
variable {w W W':World} {p B:Nat} {X1 X2:Nat→Prop} {cs:Array Value} {v0 v2:Value} {hs1 hs2:List Hd} {L1:List (List Int)} {L2:List (List Ins)}
end
end Go.Proofs.YtlofbhoicbemnaaGreatDoor
namespace Go.Proofs.YtlofbhoicbemnaaGreatDoor
open Go.ChangeShapes Go.WideShapes Go.ChangeAt Go.RowKit
theorem fam_markedEntries {w:World} {B:Nat} {X:Nat→Prop} {v:Value} {hs:List Hd} {ls:List (List Ent)} (h:Fam entE entsE w B X v hs ls) (hm:∀ i (hi:i<ls.length),ls[i]=marks mkEntries i 0 ls[i].length):Marked EntSl mkEntries w X v (ls.map List.length):=by
 obtain⟨a,c,hv⟩:=h.slice;refine⟨a,c,by rw[hv,List.length_map],fun j hj=>?_⟩;have hj':j<ls.length:=by simpa using hj
 obtain⟨g,c2,he,hX,hh,hc,ho⟩:=h.head rfl (fun _=>rfl) j hj';rw[hv] at he
 injection he with e1 e2 e3
 obtain⟨x,y,hx,hsl⟩:=own_entD ho;refine⟨g,0,e1,hX,x,y,?_,?_⟩
 ·rw[Nat.zero_add,List.getElem_map,hc,hx]
 ·have h1:=hsl.dom (D':=X) (fun k hk=>(h.mem j hh k hk).1)
  rw[List.getElem_map,← hm j hj'];exact h1
theorem out_markedEntries {w wr:World} {B:Nat} {X D:Nat→Prop} {v vo:Value} {hs:List Hd} {ls:List (List Ent)} (h:OutOk entE entsE mkEntries w wr B hs ls vo ls.length) (hF:Fam entE entsE wr B X v hs ls) (h1:∀ k,X k→D k) (h2:∀ k,w.heap.size≤k→D k):Marked EntSl mkEntries wr D vo (ls.map fun l=>l.length+72):=by
 obtain⟨hs2,g1,g2,g3⟩:=h;obtain⟨a,c,hv,hel⟩:=own_elems g1;refine⟨a,c,by rw[hv,List.length_map,g2],fun j hj=>?_⟩;have hj':j<ls.length:=by simpa using hj
 have hj2:j<hs2.length:=by rw[g2];exact hj'
 have hj1:j<hs.length:=by rw[hF.len];exact hj'
 obtain⟨b,e1,e2,e3⟩:=hel j hj2;obtain⟨f1,f2,f3⟩:=g3 j hj2 hj1 hj';obtain⟨x,y,hx,hsl⟩:=own_entD f2;rw[marks_len] at hx;have hc:=e3 0 hs2[j].val rfl;have hsz:(entsE).size=1:=rfl;rw[hsz,Nat.mul_one,Nat.add_zero,hx] at hc;refine⟨b,0,e1,h2 b (g1.lt e2).1,x,y,?_,?_⟩
 ·rw[Nat.zero_add,List.getElem_map];exact hc
 ·rw[List.getElem_map]
  exact hsl.dom (fun k hk=>by
   rcases (f3 k hk).1 with h | h
   ·exact h1 k (hF.mem j hj1 k h).1
   ·exact h2 k h)
structure Kept {α:Type} (E:Elem Tryz.prog α) (HE:Elem Tryz.prog Hd) (w:World) (B:Nat) (X Y:Nat→Prop) (v v':Value) (hs:List Hd) (ls:List (List α)):Prop where
 fam:Fam E HE w B X v hs ls
 hs':∃ hs,Fam E HE w B Y v' hs ls
 xy:∀ k,X k→¬ Y k
 xw:∀ k,X k→B≤k∧k<w.heap.size
 yw:∀ k,Y k→B≤k∧k<w.heap.size
theorem Kept.add {α:Type} {E:Elem Tryz.prog α} {HE:Elem Tryz.prog Hd} {w w3 w5 w6:World} {p B:Nat} {X X2 Y:Nat→Prop} {v2 v1 v6:Value} {hs hs':List Hd} {ls:List (List α)} {l:List α} {x5:Hd} {o:Obj} (J:Nat)
  (f3:Fam E HE w3 B X2 v2 hs (ls ++ [l])) (f3':Fam E HE w3 B Y v1 hs' ls) (fr3:Fr (fun k=>k=p∨X k∨Y k) w w3)
  (hyw:∀ k,Y k→B≤k∧k<w.heap.size) (hX2w:∀ k,X2 k→B≤k∧k<w3.heap.size) (hX2y:∀ k,X2 k→¬ Y k) (hp2:¬ Y p) (hp3:¬ X2 p) (hpl:p<w.heap.size) (hpB:B≤p)
  (hbW:Below w3.heap.size w3 w5) (ho5:Own E w5 w3.heap.size x5.val l)
  (ho6:Own HE w6 B v6 (hs' ++ [x5])) (hg6:(w5.alloc o).grownBy w6 v1.ownBlock) (hf6:Fresh (w5.alloc o) v1 v6) :
  ∃ Y',Kept E HE (w6.setCell ⟨p,J,none⟩ v6) B X2 Y' v2 v6 hs (ls ++ [l])∧(∀ k,Y' k→Y k∨w.heap.size≤k)∧Fr (fun k=>k=p∨X k∨Y k) w (w6.setCell ⟨p,J,none⟩ v6):=by
 have hs3:=fr3.size;have hs5:=hbW.size;have fL:Fr (fun _=>False) w3 (w5.alloc o):=(Fr.of_below hbW _).alloc o;have hsa:(w5.alloc o).heap.size=w5.heap.size+1:=by simp
 have f0:Fr Y (w5.alloc o) w6:=(Fr.refl _ _).grown hg6 (fun k hk _=>f3'.row k hk);have hs6:=f0.size;have s6:=Fam.snoc (f3'.fr fL (fun _ _ h=>h)) (x:=x5) (l:=l) ((ho5.base (B':=B) (fun k hk=>by have:=(ho5.lt hk).1;omega)).alloc o) (fun k hk h=>by have:=(ho5.lt hk).1;have:=(hyw k h).2;omega) (fun k hk=>by have:=(hyw k hk).2;omega) ho6 hg6 hf6;have fr6:Fr Y w3 w6:=(fL.mono (fun _ h=>h.elim)).trans f0 (fun k _ h=>h);have g6:=f3.fr fr6 (fun k hk h=>hX2y k hk h);have frs:=Fr.setAt w6 p J v6;have hY6:∀ k,(Y k∨x5.val.ownBlock=some k∨v6.ownBlock=some k)→(Y k∨w3.heap.size≤k)∧B≤k∧k<w6.heap.size:=fun k hk=>by
  rcases hk with h | h | h
  ·have:=hyw k h;exact⟨.inl h,this.1,by omega⟩
  ·have:=ho5.lt h;exact⟨.inr this.1,by omega,by omega⟩
  ·have h2:=ho6.lt h
   rcases hf6 k h with h | h
   ·exact⟨.inl (f3'.row k h),h2.1,h2.2⟩
   ·exact⟨.inr (by omega),h2.1,h2.2⟩
 have hsz:(w6.setCell ⟨p,J,none⟩ v6).heap.size=w6.heap.size:=by simp[World.setCell]
 refine⟨_,⟨g6.fr frs (fun k hk h=>hp3 (by unfold onB at h;rw[← h];exact hk)),⟨_,s6.fr frs (fun k hk h=>?_)⟩,fun k h h2=>?_,fun k h=>?_,fun k h=>?_⟩,fun k h=>?_,?_⟩
 ·unfold onB at h
  rw[h] at hk
  rcases (hY6 p hk).1 with h | h
  ·exact hp2 h
  ·omega
 ·rcases (hY6 k h2).1 with h3 | h3
  ·exact hX2y k h h3
  ·have:=(hX2w k h).2;omega
 ·have:=hX2w k h;rw[hsz];exact⟨this.1,by omega⟩
 ·have:=(hY6 k h).2;rw[hsz];exact this
 ·rcases (hY6 k h).1 with h | h
  ·exact .inl h
  ·exact .inr (by omega)
 ·exact(fr3.trans fr6 (fun k _ h=>.inr (.inr h))).trans frs (fun k _ h=>.inl h)
end Go.Proofs.YtlofbhoicbemnaaGreatDoor
namespace Go.Proofs.YtlofbhoicbemnaaGreatDoor
open Go.RowKit
def bk0:Array Value:=#[.slice none 0 0,.slice none 0 0,.slice none 0 0,.slice none 0 0,.slice none 0 0,.slice none 0 0,.slice none 0 0,.slice none 0 0,.slice none 0 0,.slice none 0 0]
open Go.ChangeShapes Go.WideShapes Go.ChangeAt
theorem noStillInts (w:World) (p:Nat) (q0:w.cell? ⟨p,0,none⟩=some (.slice none 0 0)) :
  Calls Tryz.prog 25 #[.pointer (some ⟨p,0,none⟩)] w fun e w'=>e=.returned (.bool true)∧w'=w:=by
 go_enter Tryz.func25,Tryz.ntmps25
 go_wp2_with fail
 go_loopw [3] (fun i wr=>i=.int .i64 0∧wr=w) (fun i _=>0)
 case atStart=>exact⟨rfl,rfl⟩
 case round =>
  obtain⟨rfl,rfl⟩:=hrel;go_wp2_with fail
  go_ret
  exact⟨rfl,rfl⟩
theorem noPutInts (w:World) (p:Nat) (q0:w.cell? ⟨p,0,none⟩=some (.slice none 0 0)) :
  Calls Tryz.prog 31 #[.pointer (some ⟨p,0,none⟩)] w fun e w'=>e=.returned (.tuple #[])∧w'=w:=by
 go_enter Tryz.func31,Tryz.ntmps31
 go_wp2_with fail
 go_loopw [2] (fun i wr=>i=.int .i64 0∧wr=w) (fun i _=>0)
 case atStart=>exact⟨rfl,rfl⟩
 case round =>
  obtain⟨rfl,rfl⟩:=hrel;go_wp2_with fail
  go_end0
  exact⟨rfl,rfl⟩
theorem noGrowInts (w:World) (p:Nat) (q0:w.cell? ⟨p,0,none⟩=some (.slice none 0 0)) :
  Calls Tryz.prog 35 #[.pointer (some ⟨p,0,none⟩)] w fun e w'=>e=.returned (.slice none 0 0)∧w'=w:=by
 go_enter Tryz.func35,Tryz.ntmps35
 go_wp2_with fail
 go_loopw [3,4] (fun v i wr=>v=.slice none 0 0∧i=.int .i64 0∧wr=w) (fun _ i _=>0)
 case atStart=>exact⟨rfl,rfl,rfl⟩
 case round =>
  obtain⟨rfl,rfl,rfl⟩:=hrel;go_wp2_with fail
  go_ret
  exact⟨rfl,rfl⟩
theorem noMarkedInts (w:World) :
  Calls Tryz.prog 40 #[.slice none 0 0] w fun e w'=>e=.returned (.bool true)∧w'=w:=by
 go_enter Tryz.func40,Tryz.ntmps40
 go_wp2_with fail
 go_loopw [3] (fun i wr=>i=.int .i64 0∧wr=w) (fun i _=>0)
 case atStart=>exact⟨rfl,rfl⟩
 case round =>
  obtain⟨rfl,rfl⟩:=hrel;go_wp2_with fail
  go_ret
  exact⟨rfl,rfl⟩
theorem noStillInstrs (w:World) (p:Nat) (q0:w.cell? ⟨p,2,none⟩=some (.slice none 0 0)) :
  Calls Tryz.prog 26 #[.pointer (some ⟨p,0,none⟩)] w fun e w'=>e=.returned (.bool true)∧w'=w:=by
 go_enter Tryz.func26,Tryz.ntmps26
 go_wp2_with fail
 go_loopw [3] (fun i wr=>i=.int .i64 0∧wr=w) (fun i _=>0)
 case atStart=>exact⟨rfl,rfl⟩
 case round =>
  obtain⟨rfl,rfl⟩:=hrel;go_wp2_with fail
  go_ret
  exact⟨rfl,rfl⟩
theorem noPutInstrs (w:World) (p:Nat) (q0:w.cell? ⟨p,2,none⟩=some (.slice none 0 0)) :
  Calls Tryz.prog 32 #[.pointer (some ⟨p,0,none⟩)] w fun e w'=>e=.returned (.tuple #[])∧w'=w:=by
 go_enter Tryz.func32,Tryz.ntmps32
 go_wp2_with fail
 go_loopw [2] (fun i wr=>i=.int .i64 0∧wr=w) (fun i _=>0)
 case atStart=>exact⟨rfl,rfl⟩
 case round =>
  obtain⟨rfl,rfl⟩:=hrel;go_wp2_with fail
  go_end0
  exact⟨rfl,rfl⟩
theorem noGrowInstrs (w:World) (p:Nat) (q0:w.cell? ⟨p,2,none⟩=some (.slice none 0 0)) :
  Calls Tryz.prog 36 #[.pointer (some ⟨p,0,none⟩)] w fun e w'=>e=.returned (.slice none 0 0)∧w'=w:=by
 go_enter Tryz.func36,Tryz.ntmps36
 go_wp2_with fail
 go_loopw [3,4] (fun v i wr=>v=.slice none 0 0∧i=.int .i64 0∧wr=w) (fun _ i _=>0)
 case atStart=>exact⟨rfl,rfl,rfl⟩
 case round =>
  obtain⟨rfl,rfl,rfl⟩:=hrel;go_wp2_with fail
  go_ret
  exact⟨rfl,rfl⟩
theorem noMarkedInstrs (w:World) :
  Calls Tryz.prog 41 #[.slice none 0 0] w fun e w'=>e=.returned (.bool true)∧w'=w:=by
 go_enter Tryz.func41,Tryz.ntmps41
 go_wp2_with fail
 go_loopw [3] (fun i wr=>i=.int .i64 0∧wr=w) (fun i _=>0)
 case atStart=>exact⟨rfl,rfl⟩
 case round =>
  obtain⟨rfl,rfl⟩:=hrel;go_wp2_with fail
  go_ret
  exact⟨rfl,rfl⟩
def bkE (v v':Value):Array Value:=#[.slice none 0 0,.slice none 0 0,.slice none 0 0,.slice none 0 0,.slice none 0 0,.slice none 0 0,v,v',.slice none 0 0,.slice none 0 0]
theorem Bk.nils {W:World} {p:Nat} {v v':Value} (h:Bk W p (bkE v v')):W.cell? ⟨p,0,none⟩=some (.slice none 0 0)∧W.cell? ⟨p,2,none⟩=some (.slice none 0 0)∧W.cell? ⟨p,4,none⟩=some (.slice none 0 0)∧W.cell? ⟨p,6,none⟩=some v∧W.cell? ⟨p,7,none⟩=some v'∧W.cell? ⟨p,8,none⟩=some (.slice none 0 0) :=
 ⟨(h.cell 0).trans rfl,(h.cell 2).trans rfl,(h.cell 4).trans rfl,(h.cell 6).trans rfl,(h.cell 7).trans rfl,(h.cell 8).trans rfl⟩
theorem apartE_any (w:World) (p B:Nat) (X Y:Nat→Prop) (v v':Value) (hs hs':List Hd) (ls:List (List Ent)) (hb:Bk w p (bkE v v'))
  (hF:Fam entE entsE w B X v hs ls) (hF':Fam entE entsE w B Y v' hs' ls) (hp:¬ X p) (hX:∀ k,X k→k<w.heap.size) (hB:B≤w.heap.size) (hn:ls.length≤1000) (hl:∀ l ∈ ls,l.length≤100000) :
  Calls Tryz.prog 13 #[.pointer (some ⟨p,0,none⟩)] w fun e w'=>e=.returned (.bool true)∧Fr X w w':=by
 obtain⟨k0,k2,k4,k6,k7,k8⟩:=hb.nils;have si:=stillEntries_any w p B X Y v v' hs hs' ls ⟨k6,k7⟩ hF hF' hn hl;have SI:=k_ si;have HB:=k_ hb;have HF:=k_ hF;have HX:=k_ hX;have HP:=k_ hp;have HBB:=k_ hB;have HNN:=k_ hn;have HLL:=k_ hl;clear si hb hF hF' hX hp hB hn hl
 go_enter Tryz.func13,Tryz.ntmps13
 go_wp2_with fail;refine(noStillInts w p k0).mono ?_;rintro e wq ⟨rfl,hwq⟩;rw[hwq];clear hwq wq;go_wp2_with fail;refine(noStillInstrs w p k2).mono ?_;rintro e wq ⟨rfl,hwq⟩;rw[hwq];clear hwq wq;go_wp2_with fail;refine(noStillPairs w p k4).mono ?_;rintro e wq ⟨rfl,hwq⟩;rw[hwq];clear hwq wq;go_wp2_with fail;refine SI.out.mono ?_;rintro e w1 ⟨rfl,nd,hw1⟩;have hf1:Fr (fun _=>False) w w1:=by rw[hw1];exact(Fr.refl _ w).drewN nd
 have hb1:=Bk.cell (hf1.heap HB.out (fun h=>h));have bk1:Bk w1 p (bkE v v'):=hf1.heap HB.out (fun h=>h);have hF1:=HF.out.fr hf1 (fun _ _ h=>h);have hz1:w1.heap.size=w.heap.size:=by rw[hw1];rfl
 clear k0 k2 k4 k6 k7 k8 hb1 hw1;obtain⟨k0,k2,k4,k6,k7,k8⟩:=bk1.nils;have pu:=putEntries_any w1 p B X v hs ls k6 HP.out (fun k hk=>by rw[hz1];exact HX.out k hk) hF1 HNN.out HLL.out;have PU:=k_ pu;have BK1:=k_ bk1;have HF1:=k_ hf1;have HZ1:=k_ hz1;clear pu bk1 hF1 hf1 hz1 SI;go_wp2_with fail;refine(noStillObjects w1 p k8).mono ?_;rintro e wq ⟨rfl,hwq⟩;rw[hwq];clear hwq wq;go_wp2_with fail;refine(noPutObjects w1 p k8).mono ?_;rintro e wq ⟨rfl,hwq⟩;rw[hwq];clear hwq wq;go_wp2_with fail;refine(noPutInts w1 p k0).mono ?_;rintro e wq ⟨rfl,hwq⟩;rw[hwq];clear hwq wq;go_wp2_with fail;refine(noPutInstrs w1 p k2).mono ?_;rintro e wq ⟨rfl,hwq⟩;rw[hwq];clear hwq wq;go_wp2_with fail;refine(noPutPairs w1 p k4).mono ?_;rintro e wq ⟨rfl,hwq⟩;rw[hwq];clear hwq wq;go_wp2_with fail;refine PU.out.mono ?_;rintro e w2 ⟨rfl,hF2,hf2⟩;have bk2:Bk w2 p (bkE v v'):=hf2.heap BK1.out HP.out;have hL:=mkd_len mkEntries ls.length ls;have hM:=mkd_marks mkEntries ls;have hK:=mkd_lens mkEntries ls 100000 HLL.out;obtain⟨L,hLe⟩:∃ L,L=mkd mkEntries ls.length ls:=⟨_,rfl⟩;rw[← hLe] at hF2 hL hM hK;clear hLe k0 k2 k4 k6 k7 k8;obtain⟨k0,k2,k4,k6,k7,k8⟩:=bk2.nils;have hz2:=hf2.size;have gr:=growEntries_any w2 p B X v hs L k6 HP.out (fun k hk=>by have:=HX.out k hk;have:=HZ1.out;omega) (by have:=HBB.out;have:=HZ1.out;omega) hF2 (by have:=HNN.out;omega) hK hM;have GR:=k_ gr;have BK2:=k_ bk2;have HF2:=k_ ((HF1.out.mono (fun _ h=>h.elim)).trans hf2 (fun _ _ h=>h));have HL:=k_ (And.intro hL (And.intro hM hK));clear gr bk2 hF2 hf2 hL hM hK PU BK1 hz2;go_wp2_with fail;refine(noGrowInts w2 p k0).mono ?_;rintro e wq ⟨rfl,hwq⟩;rw[hwq];clear hwq wq;go_wp2_with fail;refine(noGrowInstrs w2 p k2).mono ?_;rintro e wq ⟨rfl,hwq⟩;rw[hwq];clear hwq wq;go_wp2_with fail;refine(noGrowPairs w2 p k4).mono ?_;rintro e wq ⟨rfl,hwq⟩;rw[hwq];clear hwq wq;go_wp2_with fail;refine GR.out.mono ?_;rintro e w3 ⟨g,rfl,ho,hF3,hf3⟩;have bk3:Bk w3 p (bkE v v'):=hf3.heap BK2.out HP.out;clear k0 k2 k4 k6 k7 k8;obtain⟨k0,k2,k4,k6,k7,k8⟩:=bk3.nils;have mg:=markedEntries_any w3 (fun _=>True) g (L.map fun l=>l.length+72) (out_markedEntries ho hF3 (fun _ _=>trivial) (fun _ _=>trivial)) (by rw[List.length_map,HL.out.1];exact HNN.out) (fun n hn=>by
  obtain⟨l,hl,rfl⟩:=List.mem_map.1 hn;have:=HL.out.2.2 l hl;omega)
 have MG:=k_ mg;have HF3:=k_ hF3;have BK3:=k_ bk3;have HFR:=k_ (HF2.out.trans hf3 (fun _ _ h=>h));clear mg ho hF3 hf3 bk3 GR BK2 HF2;go_wp2_with fail;refine(noGrowObjects w3 p k8).mono ?_;rintro e wq ⟨rfl,hwq⟩;rw[hwq];clear hwq wq;go_wp2_with fail;refine(noMarkedInts w3).mono ?_;rintro e wq ⟨rfl,hwq⟩;rw[hwq];clear hwq wq;go_wp2_with fail;refine(noMarkedInts w3).mono ?_;rintro e wq ⟨rfl,hwq⟩;rw[hwq];clear hwq wq;go_wp2_with fail;refine(noMarkedInstrs w3).mono ?_;rintro e wq ⟨rfl,hwq⟩;rw[hwq];clear hwq wq;go_wp2_with fail;refine(noMarkedInstrs w3).mono ?_;rintro e wq ⟨rfl,hwq⟩;rw[hwq];clear hwq wq;go_wp2_with fail;refine(noMarkedPairs w3).mono ?_;rintro e wq ⟨rfl,hwq⟩;rw[hwq];clear hwq wq;go_wp2_with fail;refine(noMarkedPairs w3).mono ?_;rintro e wq ⟨rfl,hwq⟩;rw[hwq];clear hwq wq;go_wp2_with fail;refine MG.out.mono ?_;rintro e w4 ⟨rfl,hb4⟩;have hf4:=Fr.of_below hb4 (fun _=>False);have bk4:Bk w4 p (bkE v v'):=hf4.heap BK3.out (fun h=>h);have hF4:=HF3.out.fr hf4 (fun _ _ h=>h);clear k0 k2 k4 k6 k7 k8;obtain⟨k0,k2,k4,k6,k7,k8⟩:=bk4.nils;have mb:=markedEntries_any w4 X v (L.map List.length) (fam_markedEntries hF4 HL.out.2.1) (by rw[List.length_map,HL.out.1];exact HNN.out) (fun n hn=>by
  obtain⟨l,hl,rfl⟩:=List.mem_map.1 hn;have:=HL.out.2.2 l hl;omega)
 have MB:=k_ mb;have BK4:=k_ bk4;have HFR4:=k_ (HFR.out.trans hf4 (fun _ _ h=>h.elim));clear mb hF4 hf4 hb4 bk4 MG HF3 BK3 HFR;go_wp2_with fail;refine MB.out.mono ?_;rintro e w5 ⟨rfl,hb5⟩;have hf5:=Fr.of_below hb5 (fun _=>False);have bk5:Bk w5 p (bkE v v'):=hf5.heap BK4.out (fun h=>h);clear k0 k2 k4 k6 k7 k8;obtain⟨k0,k2,k4,k6,k7,k8⟩:=bk5.nils;have HFR5:=k_ (HFR4.out.trans hf5 (fun _ _ h=>h.elim));clear hf5 hb5 bk5 MB BK4 HFR4;go_wp2_with fail;refine(noMarkedObjects w5).mono ?_;rintro e wq ⟨rfl,hwq⟩;rw[hwq];clear hwq wq;go_wp2_with fail;refine(noMarkedObjects w5).mono ?_;rintro e wq ⟨rfl,hwq⟩;rw[hwq];clear hwq wq;go_wp2_with fail
 go_ret
 exact⟨rfl,HFR5.out⟩
end Go.Proofs.YtlofbhoicbemnaaGreatDoor
