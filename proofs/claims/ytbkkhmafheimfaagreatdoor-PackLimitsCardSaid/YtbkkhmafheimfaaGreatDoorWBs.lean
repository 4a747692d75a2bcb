/- Walk: a file's run (besom.Run), of the first program. The first file's bytes, plainly. Walk: besom.Play of the first file, given what .. -/
import Derived.Test.YtbkkhmafheimfaaGreatDoorWBq
import Derived.Test.YtbkkhmafheimfaaGreatDoorWBr
set_option linter.unusedVariables false
set_option linter.unusedSimpArgs false
set_option maxRecDepth 100000
set_option maxHeartbeats 1600000
namespace Go.Proofs.YtbkkhmafheimfaaGreatDoor.Tk
open Go.ChangeShapes Go.WideShapes Go.ChangeAt Go.RowKit Go.Maps
theorem own_ent {w:World} {B:Nat} {v:Value} {l:List Ent} (h:Own entE w B v l):∃ a c,v=.slice a l.length c∧EntSl w (fun q=>B≤q∧q<w.heap.size) a l:=by
 obtain⟨a,c,e,hc⟩:=own_elems h;refine⟨a,c,e,fun j hj=>?_⟩;obtain⟨b,h1,h2,h3⟩:=hc j hj;have hlt:=World.ownsRow.lt h b h2;have h4:=h3 0 (.int .i64 l[j].who) rfl;have h5:=h3 1 (.int .i64 l[j].n) rfl;have e2:entE.size=2:=rfl;rw[e2] at h4 h5;exact⟨b,0,h1,hlt,by rw[Nat.zero_add];exact h4,by rw[Nat.zero_add];exact h5⟩
theorem wb_eq {a b:Nat} (h:(Ending.returned (.tuple #[.pointer (some ⟨a,0,none⟩),.int .i64 0,.agg #[.int .i64 0,.int .i64 0]]):Ending)=.returned (.tuple #[.pointer (some ⟨b,0,none⟩),.int .i64 0,.agg #[.int .i64 0,.int .i64 0]])):a=b:=by
 simpa using h
theorem run_any (b:ByteArray) (w:World) (v:Int) (hv5:v=5∨v=-7) (hsz:b.size≤100000) (hE:unE b=0) (hP:readP (unImg b).1=pZ v) (hC:unCfg b=cfgP) (hall:∀ x ∈ entsL (unN b 5).2.1,x=⟨0,0⟩) (h5:5≤(entsL (unN b 5).2.1).length) (hln:(entsL (unN b 5).2.1).length≤10000) :
  Calls Tryz.prog 15 #[.string b] w fun e w'=>∃ vs,e=.returned (.tuple #[.int .i64 1,vs,.int .i64 0])∧Own intE w' w.heap.size vs [v]∧Below w.heap.size w w':=by
 have up:=unpack_any b w hsz;have hvw:wrap32 v=v:=by rcases hv5 with rfl | rfl <;> (unfold wrap32;omega)
 obtain⟨l,hl⟩:∃ l,l=entsL (unN b 5).2.1:=⟨_,rfl⟩;rw[← hl] at hall h5 hln;have HLE:=k_ hl;clear hl;have UP:=k_ up;have HE:=k_ hE;have HP:=k_ hP;have HC:=k_ hC;have HALL:=k_ hall;have HV5:=k_ hv5;have HVW:=k_ hvw;have HL:=k_ (And.intro h5 hln);clear up hE hP hC hall hv5 hvw hsz h5 hln
 go_enter Tryz.func15,Tryz.ntmps15
 go_wp2_with fail;refine UP.out.mono ?_;rintro e w1 ⟨hb,he⟩
 rcases he with he | ⟨_,c0,c1,c2,vs,rfl,hp,ho⟩
 ·exact absurd HE.out he.1
 rw[HP.out] at hp;rw[show (unCfg b).val=.agg #[.int .i64 8,.int .i64 16,.int .i64 512,.int .i64 40,.int .i64 8] from by rw[HC.out];rfl];rw[← HLE.out] at ho;obtain⟨a,cp,rfl,hent⟩:=own_ent ho;obtain⟨⟨a0,m0,e0,_⟩,⟨a1,m1,e1,_⟩,a2,m2,e2,_⟩:=(show PrgVal w1 _ (pZ v) c0 c1 c2 from hp);have e0:c0=.slice a0 0 m0:=e0;have e1:c1=.slice a1 0 m1:=e1;have e2:c2=.slice a2 1 m2:=e2;subst e0 e1 e2;have hb2:Below w1.heap.size w1 ((w1.alloc (.cells #[.slice a0 0 m0,.slice a1 0 m1,.slice a2 1 m2] 40)).alloc (.cells #[.int .i64 8,.int .i64 16,.int .i64 512,.int .i64 40,.int .i64 8] 45)):=((Below.refl _ _).alloc (Nat.le_refl _) _).alloc (by simp) _;have HP2:=k_ (hp.fr (Fr.of_below hb2 (fun _=>False)) (fun _ _ h=>h));have HENT2:=k_ (hent.below' hb2);have HB2:=k_ (hb.trans (hb2.mono hb.size));have HS1:=k_ hb2.size;clear hb hb2 hp ho hent;go_wp2_with fail;obtain⟨w2,hw2⟩:∃ u,u=(w1.alloc (.cells #[.slice a0 0 m0,.slice a1 0 m1,.slice a2 1 m2] 40)).alloc (.cells #[.int .i64 8,.int .i64 16,.int .i64 512,.int .i64 40,.int .i64 8] 45):=⟨_,rfl⟩;rw[← hw2] at HP2 HENT2 HB2 HS1 ⊢;clear hw2;refine(worldNew_z w2 v HV5.out (fun k=>w.heap.size≤k∧k<w1.heap.size) (fun k hk=>Nat.lt_of_lt_of_le hk.2 HS1.out) _ _ _ HP2.out).mono ?_;rintro e w3 hnp;have hnp2:=hnp;obtain⟨wb,_,_,_,_,_,_,_,_,_,he,_⟩:=hnp2;subst he;have hb3:Below w3.heap.size w3 (w3.alloc (.cells #[.int .i64 0,.int .i64 0] 81)):=(Below.refl _ _).alloc (Nat.le_refl _) _;have HNP:=k_ (hnp.below hb3);clear hnp hb3;go_wp2_with fail;obtain⟨w4,hw4⟩:∃ u,u=w3.alloc (.cells #[.int .i64 0,.int .i64 0] 81):=⟨_,rfl⟩;rw[← hw4] at HNP ⊢;clear hw4;obtain⟨M,hMe,hM,hMv,hMa,hMl,hMn,hMB,hMD,hMlo,hb4,h0⟩:=ms_new v w2 w4 _ HNP.out a l (fun q=>w.heap.size≤q∧q<w1.heap.size) HENT2.out (fun k hk=>Nat.lt_of_lt_of_le hk.2 HS1.out);have hwb:wb=M.wb:=wb_eq hMe;have rz:=run_z hM (by rw[hMv];exact HVW.out) w4 hMn (by rw[hMl];exact HALL.out) (by rw[hMl];exact HL.out.2) (by rw[hMl];exact HL.out.1) cp h0;rw[hMa,hMl,hMlo,← hwb,hMv] at rz;have HRZ:=k_ rz;have HW2:=k_ (HB2.out.trans (hb4.mono HB2.out.size));have HB20:=k_ HB2.out.size;have HMB:=k_ hMB;have HMW:=k_ hwb;have hw24:=k_ hb4.size;clear rz hMe hM hMv hMa hMl hMn hMD hMlo hb4 h0 hwb hMB HNP HENT2 HP2 HB2;refine HRZ.out.mono ?_;rintro e w5 ⟨rfl,hfin,hb5⟩;obtain⟨X,hwo,hst,hot,_⟩:=hfin;rw[← HMW.out] at hwo;have HB5:=k_ (HW2.out.trans (hb5.mono HB20.out));obtain⟨ao,co,heo,hco⟩:=own_elems hot;obtain⟨ob,h1,_,h3⟩:=hco 0 (by show 0<1;decide);subst h1;have oa:=out_any w5 wb X hwo ob [v] co heo (fun j hj=>by
  have hj0:j=0:=by have hj:j<1:=hj;omega
  subst hj0;have h4:=h3 0 (.int .i64 v) rfl;have e1:intE.size=1:=rfl;rw[e1] at h4;exact h4) (by show 1≤100000;decide)
 have sa:=status_any w5 wb X hwo;rw[hst] at sa;have HOA:=k_ oa;have HSA:=k_ sa;clear oa sa hwo hst hot hb5 heo hco h3 HRZ HW2;go_wp2_with fail;refine HSA.out.mono ?_;rintro e w6 ⟨rfl,rfl⟩;go_wp2_with fail;refine HOA.out.mono ?_;rintro e w7 ⟨vs,rfl,ho,hb⟩;have HO:=k_ (own_low ho HB5.out.size);have HB:=k_ (HB5.out.trans (hb.mono HB5.out.size));clear ho hb;go_wp2_with fail
 go_ret3
 exact⟨vs,rfl,HO.out,HB.out⟩
def l26:List Ent:=List.replicate 5 ⟨0,0⟩
def b26:ByteArray:=(packS (pZ (-7)) cfgP l26).1
theorem pack26:packS (pZ (-7)) cfgP l26=(b26,0):=by
 have h:(packS (pZ (-7)) cfgP l26).2=0:=by kernel_rfl
 exact Prod.ext rfl h
theorem size26:b26.size≤100000:=by decide +kernel
theorem unE26:unE b26=0:=by kernel_rfl
theorem cfg26:unCfg b26=cfgP:=by kernel_rfl
theorem ents26:entsL (unN b26 5).2.1=l26:=by kernel_rfl
theorem prg26:readP (unImg b26).1=pZ (-7):=by kernel_rfl
def sOne:ByteArray:=⟨#[49]⟩
def sSev:ByteArray:=⟨#[45,55]⟩
structure BuiC (IS:Nat→Nat→List UInt8→World→Prop):Prop where
 fresh:∀ w:World,IS w.heap.size w.heap.size [] (w.alloc (.cells #[.pointer none,.slice none 0 0] 59))
 keep:∀ B b l w w',IS B b l w→Below w.heap.size w w'→IS B b l w'
 write:∀ B b l s w,IS B b l w→l.length+s.size≤1000→B≤w.heap.size→Calls Tryz.prog 17 #[.pointer (some ⟨b,0,none⟩),.string s] w fun e w'=>e=.returned (.tuple #[.int .i64 s.size,.nilIface])∧IS B b (l ++ s.data.toList) w'∧Below B w w'
 str:∀ B b l w,IS B b l w→B≤w.heap.size→Calls Tryz.prog 18 #[.pointer (some ⟨b,0,none⟩)] w fun e w'=>e=.returned (.string ⟨l.toArray⟩)∧Below B w w'
theorem play26 (IS:Nat→Nat→List UInt8→World→Prop) (hI:BuiC IS) (w:World) (one:∀ w',Below w.heap.size w w'→Calls Tryz.prog 16 #[.int .i64 1] w' fun e w2=>e=.returned (.string sOne)∧Below w'.heap.size w' w2)
  (sev:∀ w',Below w.heap.size w w'→Calls Tryz.prog 16 #[.int .i64 (-7)] w' fun e w2=>e=.returned (.string sSev)∧Below w'.heap.size w' w2) :
  Calls Tryz.prog 11 #[.string b26] w fun e w'=>e=.returned (.string ⟨#[115,116,97,116,117,115,32,49,32,45,55]⟩)∧Below w.heap.size w w':=by
 have rn:=run_any b26 w (-7) (Or.inr rfl) size26 unE26 prg26 cfg26 (by rw[ents26];intro x hx;exact List.eq_of_mem_replicate hx) (by rw[ents26];decide) (by rw[ents26];decide);have HRN:=k_ rn;have HI:=k_ hI;have HONE:=k_ one;have HSEV:=k_ sev;clear rn hI one sev;generalize b26=b at *
 go_enter Tryz.func11,Tryz.ntmps11
 go_wp2_with fail;refine HRN.out.mono ?_;rintro e w1 ⟨vs,rfl,ho,hb⟩;obtain⟨a,c,heo,hco⟩:=own_elems ho;obtain⟨g,h1,_,h3⟩:=hco 0 (by show 0<1;decide);subst h1;have heo:vs=.slice (some ⟨g,0,none⟩) 1 c:=heo;subst heo;have hc0:w1.cell? ⟨g,0,none⟩=some (.int .i64 (-7)):=h3 0 _ rfl;have HC0:=k_ hc0;have HB1:=k_ hb;clear ho hb hco h3 hc0 HRN;go_wp2_with fail;obtain⟨w2,hw2⟩:∃ u,u=w1.alloc (.cells #[.pointer none,.slice none 0 0] 59):=⟨_,rfl⟩;have hf:=HI.out.fresh w1;have hb2:Below w1.heap.size w1 w2:=by rw[hw2];exact(Below.refl _ _).alloc (Nat.le_refl _) _
 rw[← hw2] at hf ⊢;have hbb:w.heap.size≤w1.heap.size:=HB1.out.size;have HB2:=k_ (HB1.out.trans (hb2.mono hbb));have HC2:=k_ (below_cell hb2 HC0.out);have hlt:=World.block_lt HC0.out;have hb12:=hb2.size;obtain⟨bb,hbbe⟩:∃ u,u=w1.heap.size:=⟨_,rfl⟩;rw[← hbbe] at hf hbb hlt hb12 ⊢;have HF:=k_ hf;have HBB:=k_ (And.intro hbb (And.intro (show g<bb from hlt) hb12));clear hw2 hf hb2 hbb hlt hb12 hbbe HC0 HB1;refine(HONE.out w2 HB2.out).mono ?_;rintro e w3 ⟨rfl,hb⟩;have HB3:=k_ (HB2.out.trans (hb.mono HB2.out.size));have HC3:=k_ (below_cell hb HC2.out);have HF3:=k_ (HI.out.keep _ _ _ _ _ HF.out hb);have HZ3:=k_ (Nat.le_trans HBB.out.2.2 hb.size);clear hb HB2 HC2 HF;go_wp2_with fail;refine(HI.out.write bb bb [] _ w3 HF3.out (by decide +kernel) HZ3.out).mono ?_;rintro e w4 ⟨rfl,hi,hb⟩;obtain⟨L1,hL1⟩:∃ L,L=([]:List UInt8) ++ ((⟨#[115,116,97,116,117,115,32]⟩:ByteArray) ++ sOne).data.toList:=⟨_,rfl⟩;rw[← hL1] at hi;have HL1:=k_ (show L1=[115,116,97,116,117,115,32,49] from by rw[hL1];decide +kernel);have HI4:=k_ hi;have HB4:=k_ (HB3.out.trans (hb.mono HBB.out.1));have HC4:=k_ ((hb.cell (show g<bb from HBB.out.2.1)).trans HC3.out);have HZ4:=k_ (Nat.le_trans HZ3.out hb.size);clear hb hi hL1 HB3 HC3 HF3 HZ3;generalize (({ data:=#[115,116,97,116,117,115,32] }:ByteArray) ++ sOne)=z1 at *;go_wp2_with fail
 go_loopw [26] (fun i wr=>(i=.int .i64 0∧IS bb bb L1 wr∧Below w.heap.size w wr∧wr.cell? ⟨g,0,none⟩=some (.int .i64 (-7))∧bb≤wr.heap.size)∨(i=.int .i64 1∧(∃ L,IS bb bb L wr∧L=[115,116,97,116,117,115,32,49,32,45,55])∧Below w.heap.size w wr∧bb≤wr.heap.size)) (fun i _=>1 - (intOf i).toNat)
 case atStart=>exact Or.inl ⟨rfl,HI4.out,HB4.out,HC4.out,HZ4.out⟩
 case round =>
  clear HI4 HB4 HC4 HZ4
  rcases hrel with⟨rfl,hi,hB,hc,hz⟩ | ⟨rfl,⟨L,hi,hL⟩,hB,hz⟩
  ·have HIr:=k_ hi
   have HBr:=k_ hB;have HCr:=k_ hc;have HZr:=k_ hz;clear hi hB hz;go_wp2_with fail;refine(HSEV.out wr HBr.out).mono ?_;rintro e w5 ⟨rfl,hb⟩;have HI5:=k_ (HI.out.keep _ _ _ _ _ HIr.out hb);have HB5:=k_ (HBr.out.trans (hb.mono HBr.out.size));have HZ5:=k_ (Nat.le_trans HZr.out hb.size);clear hb hc HIr HBr HCr HZr;go_wp2_with fail;refine(HI.out.write bb bb L1 _ w5 HI5.out (by rw[HL1.out];decide +kernel) HZ5.out).mono ?_;rintro e w6 ⟨rfl,hi,hb⟩;have HI6:=k_ hi;have HB6:=k_ (HB5.out.trans (hb.mono HBB.out.1));have HZ6:=k_ (Nat.le_trans HZ5.out hb.size);clear hi hb HI5 HB5 HZ5;go_wp2_with fail
   go_roundw
   case rel=>exact Or.inr ⟨rfl,⟨_,HI6.out,by rw[HL1.out];decide +kernel⟩,HB6.out,HZ6.out⟩
   case measure=>simp[intOf]
  ·have HIr:=k_ hi
   have HLr:=k_ hL;have HBr:=k_ hB;have HZr:=k_ hz;clear hi hL hB hz;go_wp2_with fail;refine(HI.out.str bb bb L wr HIr.out HZr.out).mono ?_;rintro e w7 ⟨rfl,hb⟩;have HB7:=k_ (HBr.out.trans (hb.mono HBB.out.1));clear hb;go_wp2_with fail
   go_ret
   exact⟨by rw[HLr.out];rfl,HB7.out⟩
end Go.Proofs.YtbkkhmafheimfaaGreatDoor.Tk
