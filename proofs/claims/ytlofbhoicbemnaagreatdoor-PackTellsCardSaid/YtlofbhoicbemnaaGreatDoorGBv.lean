/- Walk: a file's run (besom.Run), of the first program. The first file's bytes, plainly. Walk: besom.Play of the first file, given what .. -/
import Derived.Test.YtlofbhoicbemnaaGreatDoorGBu
import Derived.Test.YtlofbhoicbemnaaGreatDoorGBr
set_option linter.unusedVariables false
set_option linter.unusedSimpArgs false
set_option maxRecDepth 100000
set_option maxHeartbeats 1600000
namespace Go.Proofs.YtlofbhoicbemnaaGreatDoor.Tk
open Go.ChangeShapes Go.WideShapes Go.ChangeAt Go.RowKit Go.Maps
theorem Bz {w:World} {B:Nat} {v:Value} {l:List Ent} (h:Own qp w B v l):∃ a c,v=.slice a l.length c∧dz w (fun q=>B≤q∧q<w.heap.size) a l:=by
 obtain⟨a,c,e,hc⟩:=aP h;refine⟨a,c,e,fun j hj=>?_⟩;obtain⟨b,h1,h2,h3⟩:=hc j hj;have hlt:=World.ownsRow.lt h b h2;have h4:=h3 0 (.int .i64 l[j].who) rfl;have h5:=h3 1 (.int .i64 l[j].n) rfl;have e2:qp.size=2:=rfl;rw[e2] at h4 h5;exact⟨b,0,h1,hlt,by rw[Nat.zero_add];exact h4,by rw[Nat.zero_add];exact h5⟩
theorem Kl {a b:Nat} (h:(Ending.returned (.tuple #[.pointer (some ⟨a,0,none⟩),.int .i64 0,.agg #[.int .i64 0,.int .i64 0]]):Ending)=.returned (.tuple #[.pointer (some ⟨b,0,none⟩),.int .i64 0,.agg #[.int .i64 0,.int .i64 0]])):a=b:=by
 simpa using h
theorem vP (b:ByteArray) (w:World) (v:Int) (hv5:v=5∨v=-7) (hsz:b.size≤100000) (hE:unE b=0) (hP:gT (jT b).1=pZ v) (hC:oD b=qw) (hall:∀ x ∈ eT (unN b 5).2.1,x=⟨0,0⟩) (h5:5≤(eT (unN b 5).2.1).length) (hln:(eT (unN b 5).2.1).length≤10000) :
  Calls Tryz.prog 57 #[.string b] w fun e w'=>∃ vs,e=.returned (.tuple #[.int .i64 1,vs,.int .i64 0])∧Own aG w' w.heap.size vs [v]∧Below w.heap.size w w':=by
 have up:=nR b w hsz;have hvw:wrap32 v=v:=by rcases hv5 with rfl | rfl <;> (unfold wrap32;omega)
 obtain⟨l,hl⟩:∃ l,l=eT (unN b 5).2.1:=⟨_,rfl⟩;rw[← hl] at hall h5 hln;have HLE:=k_ hl;clear hl;have UP:=k_ up;have HE:=k_ hE;have HP:=k_ hP;have HC:=k_ hC;have HALL:=k_ hall;have HV5:=k_ hv5;have HVW:=k_ hvw;have HL:=k_ (And.intro h5 hln);clear up hE hP hC hall hv5 hvw hsz h5 hln
 go_enter Tryz.func57,Tryz.ntmps57
 go_wp2_with fail;refine UP.out.mono ?_;rintro e w1 ⟨hb,he⟩
 rcases he with he | ⟨_,c0,c1,c2,vs,rfl,hp,ho⟩
 ·exact absurd HE.out he.1
 rw[HP.out] at hp;rw[show (oD b).val=.agg #[.int .i64 8,.int .i64 16,.int .i64 512,.int .i64 40,.int .i64 8] from by rw[HC.out];rfl];rw[← HLE.out] at ho;obtain⟨a,cp,rfl,hent⟩:=Bz ho;obtain⟨⟨a0,m0,e0,_⟩,⟨a1,m1,e1,_⟩,a2,m2,e2,_⟩:=(show aD w1 _ (pZ v) c0 c1 c2 from hp);have e0:c0=.slice a0 0 m0:=e0;have e1:c1=.slice a1 0 m1:=e1;have e2:c2=.slice a2 1 m2:=e2;subst e0 e1 e2;have hb2:Below w1.heap.size w1 ((w1.alloc (.cells #[.slice a0 0 m0,.slice a1 0 m1,.slice a2 1 m2] 48)).alloc (.cells #[.int .i64 8,.int .i64 16,.int .i64 512,.int .i64 40,.int .i64 8] 50)):=((Below.refl _ _).alloc (Nat.le_refl _) _).alloc (by simp) _;have HP2:=k_ (hp.fr (fb_ hb2) (fun _ _ h=>h));have HENT2:=k_ (hent.below' hb2);have HB2:=k_ (hb.trans (hb2.mono hb.size));have HS1:=k_ hb2.size;clear hb hb2 hp ho hent;go_wp2_with fail;obtain⟨w2,hw2⟩:∃ u,u=(w1.alloc (.cells #[.slice a0 0 m0,.slice a1 0 m1,.slice a2 1 m2] 48)).alloc (.cells #[.int .i64 8,.int .i64 16,.int .i64 512,.int .i64 40,.int .i64 8] 50):=⟨_,rfl⟩;rw[← hw2] at HP2 HENT2 HB2 HS1 ⊢;clear hw2;refine(Al w2 v HV5.out (fun k=>w.heap.size≤k∧k<w1.heap.size) (fun k hk=>Nat.lt_of_lt_of_le hk.2 HS1.out) _ _ _ HP2.out).mono ?_;rintro e w3 hnp;have hnp2:=hnp;obtain⟨wb,_,_,_,_,_,_,_,_,_,he,_⟩:=hnp2;subst he;have hb3:Below w3.heap.size w3 (w3.alloc (.cells #[.int .i64 0,.int .i64 0] 147)):=(Below.refl _ _).alloc (Nat.le_refl _) _;have HNP:=k_ (hnp.below hb3);clear hnp hb3;go_wp2_with fail;obtain⟨w4,hw4⟩:∃ u,u=w3.alloc (.cells #[.int .i64 0,.int .i64 0] 147):=⟨_,rfl⟩;rw[← hw4] at HNP ⊢;clear hw4;obtain⟨M,hMe,hM,hMv,hMa,hMl,hMn,hMB,hMD,hMlo,hb4,h0⟩:=JD v w2 w4 _ HNP.out a l (fun q=>w.heap.size≤q∧q<w1.heap.size) HENT2.out (fun k hk=>Nat.lt_of_lt_of_le hk.2 HS1.out);have hwb:wb=M.wb:=Kl hMe;have rz:=Kw hM (by rw[hMv];exact HVW.out) w4 hMn (by rw[hMl];exact HALL.out) (by rw[hMl];exact HL.out.2) (by rw[hMl];exact HL.out.1) cp h0;rw[hMa,hMl,hMlo,← hwb,hMv] at rz;have HRZ:=k_ rz;have HW2:=k_ (HB2.out.trans (hb4.mono HB2.out.size));have HB20:=k_ HB2.out.size;have HMB:=k_ hMB;have HMW:=k_ hwb;have hw24:=k_ hb4.size;clear rz hMe hM hMv hMa hMl hMn hMD hMlo hb4 h0 hwb hMB HNP HENT2 HP2 HB2;refine HRZ.out.mono ?_;rintro e w5 ⟨rfl,hfin,hb5⟩;obtain⟨X,hwo,hst,hot,_⟩:=hfin;rw[← HMW.out] at hwo;have HB5:=k_ (HW2.out.trans (hb5.mono HB20.out));obtain⟨ao,co,heo,hco⟩:=aP hot;obtain⟨ob,h1,_,h3⟩:=hco 0 (by show 0<1;decide);subst h1;have oa:=Hr w5 wb X hwo ob [v] co heo (fun j hj=>by
  have hj0:j=0:=by have hj:j<1:=hj;omega
  subst hj0;have h4:=h3 0 (.int .i64 v) rfl;have e1:aG.size=1:=rfl;rw[e1] at h4;exact h4) (by show 1≤100000;decide)
 have sa:=zK w5 wb X hwo;rw[hst] at sa;have HOA:=k_ oa;have HSA:=k_ sa;clear oa sa hwo hst hot hb5 heo hco h3 HRZ HW2;go_wp2_with fail;refine HSA.out.mono ?_;rintro e w6 ⟨rfl,rfl⟩;go_wp2_with fail;refine HOA.out.mono ?_;rintro e w7 ⟨vs,rfl,ho,hb⟩;have HO:=k_ (Bq ho HB5.out.size);have HB:=k_ (HB5.out.trans (hb.mono HB5.out.size));clear ho hb;go_wp2_with fail
 go_ret3
 exact⟨vs,rfl,HO.out,HB.out⟩
def l26:List Ent:=List.replicate 5 ⟨0,0⟩
def b26:ByteArray:=(iZ (pZ (-7)) qw l26).1
theorem Ea:iZ (pZ (-7)) qw l26=(b26,0):=by
 have h:(iZ (pZ (-7)) qw l26).2=0:=by kernel_rfl
 exact Prod.ext rfl h
theorem JF:b26.size≤100000:=by decide +kernel
theorem Kb:unE b26=0:=by kernel_rfl
theorem Ki:oD b26=qw:=by kernel_rfl
theorem zD:eT (unN b26 5).2.1=l26:=by kernel_rfl
theorem Ka:gT (jT b26).1=pZ (-7):=by kernel_rfl
def IC:ByteArray:=⟨#[49]⟩
def Kq:ByteArray:=⟨#[45,55]⟩
structure BuiC (IS:Nat→Nat→List UInt8→World→Prop):Prop where
 fresh:∀ w:World,IS w.heap.size w.heap.size [] (w.alloc (.cells #[.pointer none,.slice none 0 0] 102))
 keep:∀ B b l w w',IS B b l w→Below w.heap.size w w'→IS B b l w'
 write:∀ B b l s w,IS B b l w→l.length+s.size≤1000→B≤w.heap.size→Calls Tryz.prog 59 #[.pointer (some ⟨b,0,none⟩),.string s] w fun e w'=>e=.returned (.tuple #[.int .i64 s.size,.nilIface])∧IS B b (l ++ s.data.toList) w'∧Below B w w'
 str:∀ B b l w,IS B b l w→B≤w.heap.size→Calls Tryz.prog 60 #[.pointer (some ⟨b,0,none⟩)] w fun e w'=>e=.returned (.string ⟨l.toArray⟩)∧Below B w w'
theorem Jp (IS:Nat→Nat→List UInt8→World→Prop) (hI:BuiC IS) (w:World) (one:∀ w',Below w.heap.size w w'→Calls Tryz.prog 58 #[.int .i64 1] w' fun e w2=>e=.returned (.string IC)∧Below w'.heap.size w' w2)
  (sev:∀ w',Below w.heap.size w w'→Calls Tryz.prog 58 #[.int .i64 (-7)] w' fun e w2=>e=.returned (.string Kq)∧Below w'.heap.size w' w2) :
  Calls Tryz.prog 23 #[.string b26] w fun e w'=>e=.returned (.string ⟨#[115,116,97,116,117,115,32,49,32,45,55]⟩)∧Below w.heap.size w w':=by
 have rn:=vP b26 w (-7) (Or.inr rfl) JF Kb Ka Ki (by rw[zD];intro x hx;exact List.eq_of_mem_replicate hx) (by rw[zD];decide) (by rw[zD];decide);have HRN:=k_ rn;have HI:=k_ hI;have HONE:=k_ one;have HSEV:=k_ sev;clear rn hI one sev;generalize b26=b at *
 go_enter Tryz.func23,Tryz.ntmps23
 go_wp2_with fail;refine HRN.out.mono ?_;rintro e w1 ⟨vs,rfl,ho,hb⟩;obtain⟨a,c,heo,hco⟩:=aP ho;obtain⟨g,h1,_,h3⟩:=hco 0 (by show 0<1;decide);subst h1;have heo:vs=.slice (some ⟨g,0,none⟩) 1 c:=heo;subst heo;have hc0:w1.cell? ⟨g,0,none⟩=some (.int .i64 (-7)):=h3 0 _ rfl;have HC0:=k_ hc0;have HB1:=k_ hb;clear ho hb hco h3 hc0 HRN;go_wp2_with fail;obtain⟨w2,hw2⟩:∃ u,u=w1.alloc (.cells #[.pointer none,.slice none 0 0] 102):=⟨_,rfl⟩;have hf:=HI.out.fresh w1;have hb2:Below w1.heap.size w1 w2:=by rw[hw2];exact(Below.refl _ _).alloc (Nat.le_refl _) _
 rw[← hw2] at hf ⊢;have hbb:w.heap.size≤w1.heap.size:=HB1.out.size;have HB2:=k_ (HB1.out.trans (hb2.mono hbb));have HC2:=k_ (ae hb2 HC0.out);have hlt:=World.block_lt HC0.out;have hb12:=hb2.size;obtain⟨bb,hbbe⟩:∃ u,u=w1.heap.size:=⟨_,rfl⟩;rw[← hbbe] at hf hbb hlt hb12 ⊢;have HF:=k_ hf;have HBB:=k_ (And.intro hbb (And.intro (show g<bb from hlt) hb12));clear hw2 hf hb2 hbb hlt hb12 hbbe HC0 HB1;refine(HONE.out w2 HB2.out).mono ?_;rintro e w3 ⟨rfl,hb⟩;have HB3:=k_ (HB2.out.trans (hb.mono HB2.out.size));have HC3:=k_ (ae hb HC2.out);have HF3:=k_ (HI.out.keep _ _ _ _ _ HF.out hb);have HZ3:=k_ (Nat.le_trans HBB.out.2.2 hb.size);clear hb HB2 HC2 HF;go_wp2_with fail;refine(HI.out.write bb bb [] _ w3 HF3.out (by decide +kernel) HZ3.out).mono ?_;rintro e w4 ⟨rfl,hi,hb⟩;obtain⟨L1,hL1⟩:∃ L,L=([]:List UInt8) ++ ((⟨#[115,116,97,116,117,115,32]⟩:ByteArray) ++ IC).data.toList:=⟨_,rfl⟩;rw[← hL1] at hi;have HL1:=k_ (show L1=[115,116,97,116,117,115,32,49] from by rw[hL1];decide +kernel);have HI4:=k_ hi;have HB4:=k_ (HB3.out.trans (hb.mono HBB.out.1));have HC4:=k_ ((hb.cell (show g<bb from HBB.out.2.1)).trans HC3.out);have HZ4:=k_ (Nat.le_trans HZ3.out hb.size);clear hb hi hL1 HB3 HC3 HF3 HZ3;generalize (({ data:=#[115,116,97,116,117,115,32] }:ByteArray) ++ IC)=z1 at *;go_wp2_with fail
 go_loopw [26] (fun i wr=>(i=.int .i64 0∧IS bb bb L1 wr∧Below w.heap.size w wr∧wr.cell? ⟨g,0,none⟩=some (.int .i64 (-7))∧bb≤wr.heap.size)∨(i=.int .i64 1∧(∃ L,IS bb bb L wr∧L=[115,116,97,116,117,115,32,49,32,45,55])∧Below w.heap.size w wr∧bb≤wr.heap.size)) (fun i _=>1 - (intOf i).toNat)
 case atStart=>exact Or.inl ⟨rfl,HI4.out,HB4.out,HC4.out,HZ4.out⟩
 case round =>
  clear HI4 HB4 HC4 HZ4
  rcases hrel with⟨rfl,hi,hB,hc,hz⟩ | ⟨rfl,⟨L,hi,hL⟩,hB,hz⟩
  ·have HIr:=k_ hi
   have HBr:=k_ hB;have HCr:=k_ hc;have HZr:=k_ hz;clear hi hB hz;go_wp2_with fail;refine(HSEV.out wr HBr.out).mono ?_;rintro e w5 ⟨rfl,hb⟩;have HI5:=k_ (HI.out.keep _ _ _ _ _ HIr.out hb);have HB5:=k_ (HBr.out.trans (hb.mono HBr.out.size));have HZ5:=k_ (Nat.le_trans HZr.out hb.size);clear hb hc HIr HBr HCr HZr;go_wp2_with fail;refine(HI.out.write bb bb L1 _ w5 HI5.out (by rw[HL1.out];decide +kernel) HZ5.out).mono ?_;rintro e w6 ⟨rfl,hi,hb⟩;have HI6:=k_ hi;have HB6:=k_ (HB5.out.trans (hb.mono HBB.out.1));have HZ6:=k_ (Nat.le_trans HZ5.out hb.size);clear hi hb HI5 HB5 HZ5;go_wp2_with fail
   go_roundw
   case rel=>exact Or.inr ⟨rfl,⟨_,HI6.out,by rw[HL1.out];decide +kernel⟩,HB6.out,HZ6.out⟩
   case measure=>simp[intOf]
  ·have HIr:=k_ hi
   have HLr:=k_ hL;have HBr:=k_ hB;have HZr:=k_ hz;clear hi hL hB hz;go_wp2_with fail;refine(HI.out.str bb bb L wr HIr.out HZr.out).mono ?_;rintro e w7 ⟨rfl,hb⟩;have HB7:=k_ (HBr.out.trans (hb.mono HBB.out.1));clear hb;go_wp2_with fail
   go_ret
   exact⟨by rw[HLr.out];rfl,HB7.out⟩
def e26:List Ent:=[⟨0,3⟩,⟨1,0⟩]
theorem Kk:jW e26=(⟨#[3,32]⟩,0):=by kernel_rfl
theorem Km:bZ ⟨#[3,32]⟩=(e26,0):=by kernel_rfl
def zB (w:World):World:=((w.alloc (.cells #[.int .i64 1,.int .i64 0,.int .i64 (-7),.int .i64 0,.int .i64 29,.int .i64 0,.int .i64 0,.int .i64 0,.int .i64 27,.int .i64 0,.int .i64 0,.int .i64 0] 63)).alloc (.cells #[.slice none 0 0,.int .i64 0,.int .i64 1,.slice none 0 0,.slice (some ⟨w.heap.size,0,none⟩) 3 3] 66)).alloc (.cells #[.slice none 0 0,.slice none 0 0,.slice (some ⟨w.heap.size+1,0,none⟩) 1 1] 48)
theorem EJ (w:World):Below w.heap.size w (zB w):=(((Below.refl _ _).alloc (Nat.le_refl _) _).alloc (by simp) _).alloc (by simp;omega) _
theorem Iu (w:World):(zB w).heap.size=w.heap.size+3:=by simp[zB]
theorem Ec (w:World):(∀ (j:Nat) u,(#[Value.int .i64 1,.int .i64 0,.int .i64 (-7),.int .i64 0,.int .i64 29,.int .i64 0,.int .i64 0,.int .i64 0,.int .i64 27,.int .i64 0,.int .i64 0,.int .i64 0])[j]?=some u→(zB w).cell? ⟨w.heap.size,j,none⟩=some u)∧(∀ (j:Nat) u,(#[Value.slice none 0 0,.int .i64 0,.int .i64 1,.slice none 0 0,.slice (some ⟨w.heap.size,0,none⟩) 3 3])[j]?=some u→(zB w).cell? ⟨w.heap.size+1,j,none⟩=some u):=by
 refine⟨fun j u h=>?_,fun j u h=>?_⟩
 ·unfold zB
  rw[aY _ _ (by simp;omega),aY _ _ (by simp),aI];exact h
 ·unfold zB
  rw[aY _ _ (by simp)];rw[show w.heap.size+1=(w.alloc (.cells #[.int .i64 1,.int .i64 0,.int .i64 (-7),.int .i64 0,.int .i64 29,.int .i64 0,.int .i64 0,.int .i64 0,.int .i64 27,.int .i64 0,.int .i64 0,.int .i64 0] 63)).heap.size from by simp,aI]
  simpa using h
theorem JI (w:World):aD (zB w) (fun k=>k<w.heap.size+2) (pZ (-7)) (.slice none 0 0) (.slice none 0 0) (.slice (some ⟨w.heap.size+1,0,none⟩) 1 1):=by
 obtain⟨h1,h2⟩:=Ec w;refine⟨⟨none,0,rfl,fun j hj=>by cases hj⟩,⟨none,0,rfl,fun j hj=>by cases hj⟩,_,1,rfl,fun j hj=>?_⟩;have hj0:j=0:=by have:j<1:=hj;omega
 subst hj0;refine⟨w.heap.size+1,0,rfl,by show w.heap.size+1<w.heap.size+2;omega,_,_,_,_,_,h2 0 _ rfl,h2 1 _ rfl,h2 2 _ rfl,h2 3 _ rfl,h2 4 _ rfl,rfl,rfl,⟨none,0,rfl,fun j hj=>by cases hj⟩,⟨none,0,rfl,fun j hj=>by cases hj⟩,_,3,rfl,fun i hi=>?_⟩;have hi0:i=0∨i=1∨i=2:=by have:i<3:=hi;omega
 rcases hi0 with rfl | rfl | rfl
 ·exact⟨w.heap.size,0,rfl,by show w.heap.size<w.heap.size+2;omega,h1 0 _ rfl,h1 1 _ rfl,h1 2 _ rfl,h1 3 _ rfl⟩
 ·exact⟨w.heap.size,0,rfl,by show w.heap.size<w.heap.size+2;omega,h1 4 _ rfl,h1 5 _ rfl,h1 6 _ rfl,h1 7 _ rfl⟩
 ·exact⟨w.heap.size,0,rfl,by show w.heap.size<w.heap.size+2;omega,h1 8 _ rfl,h1 9 _ rfl,h1 10 _ rfl,h1 11 _ rfl⟩
theorem G8 (w:World) (PLAY:∀ w1:World,Below w.heap.size w w1→Calls Tryz.prog 23 #[.string b26] w1 fun e w'=>e=.returned (.string ⟨#[115,116,97,116,117,115,32,49,32,45,55]⟩)∧Below w1.heap.size w1 w') :
  Calls Tryz.prog 5 #[] w fun e w'=>e=.returned (.bool true)∧Below w.heap.size w w':=by
 have HPLAY:=k_ PLAY;clear PLAY;have hsc:aA (w.alloc (.cells #[.int .i64 0,.int .i64 3,.int .i64 1,.int .i64 0] 29)) w.heap.size 0 _:=aA.new w #[.int .i64 0,.int .i64 3,.int .i64 1,.int .i64 0] 29 (0,0);have hes:dz (w.alloc (.cells #[.int .i64 0,.int .i64 3,.int .i64 1,.int .i64 0] 29)) (fun _=>True) (some ⟨w.heap.size,0,none⟩) e26:=fun j hj=>by
  have hj2:j<2:=hj;have h2:j=0∨j=1:=by omega
  rcases h2 with rfl | rfl
  ·exact⟨_,_,rfl,trivial,hsc 0 _ rfl,hsc 1 _ rfl⟩
  ·exact⟨_,_,rfl,trivial,hsc 2 _ rfl,hsc 3 _ rfl⟩
 have sc:=rT e26 _ _ 2 _ (by decide) hes;rw[Kk] at sc;have HSC:=k_ sc;have HB0:=k_ ((Below.refl w.heap.size w).alloc (Nat.le_refl _) (.cells #[.int .i64 0,.int .i64 3,.int .i64 1,.int .i64 0] 29));clear sc hsc hes
 go_enter Tryz.func5,Tryz.ntmps5
 go_wp2_with fail;refine HSC.out.mono ?_;rintro e w1 ⟨rfl,hb⟩;have HB1:=k_ (HB0.out.trans (hb.mono HB0.out.size));clear hb HB0 HSC;go_wp2_with fail;have en:=qE ⟨#[3,32]⟩ w1 (by decide);rw[Km] at en;refine en.mono ?_;rintro e w2 ⟨v,rfl,ho,hb⟩;have HB2:=k_ (HB1.out.trans (hb.mono HB1.out.size));obtain⟨a,cp,hv,hent⟩:=Bz ho;have hv:v=.slice a 2 cp:=hv;subst hv;have HENT:=k_ hent;clear hb ho HB1 hent en
 go_upto_region 4 with fail
 have hzp:=JI w2;have hzb:=EJ w2;have hz3:(zB w2).heap[w2.heap.size+2]?=some (.cells #[.slice none 0 0,.slice none 0 0,.slice (some ⟨w2.heap.size+1,0,none⟩) 1 1] 48):=by
  unfold zB;rw[show w2.heap.size+2=((w2.alloc (.cells #[.int .i64 1,.int .i64 0,.int .i64 (-7),.int .i64 0,.int .i64 29,.int .i64 0,.int .i64 0,.int .i64 0,.int .i64 27,.int .i64 0,.int .i64 0,.int .i64 0] 63)).alloc (.cells #[.slice none 0 0,.int .i64 0,.int .i64 1,.slice none 0 0,.slice (some ⟨w2.heap.size,0,none⟩) 3 3] 66)).heap.size from by simp];exact ai _ _
 rw[show ((w2.alloc (.cells #[.int .i64 1,.int .i64 0,.int .i64 (-7),.int .i64 0,.int .i64 29,.int .i64 0,.int .i64 0,.int .i64 0,.int .i64 27,.int .i64 0,.int .i64 0,.int .i64 0] 63)).alloc (.cells #[.slice none 0 0,.int .i64 0,.int .i64 1,.slice none 0 0,.slice (some ⟨w2.heap.size,0,none⟩) 3 3] 66)).alloc (.cells #[.slice none 0 0,.slice none 0 0,.slice (some ⟨w2.heap.size+1,0,none⟩) 1 1] 48)=zB w2 from rfl];obtain⟨Z,hZ⟩:∃ Z,Z=zB w2:=⟨_,rfl⟩;have hzs:Z.heap.size=w2.heap.size+3:=by rw[hZ,Iu]
 rw[← hZ] at hzp hzb hz3 ⊢;clear hZ;have HZP:=k_ hzp;have HB3:=k_ (HB2.out.trans (hzb.mono HB2.out.size));have HENT3:=k_ (HENT.out.below' hzb);obtain⟨pb,hpb⟩:∃ pb,pb=w2.heap.size+2:=⟨_,rfl⟩;have HPB:=k_ hpb;have HZS:=k_ hzs;obtain⟨fb,hfb⟩:∃ fb,fb=w2.heap.size+1:=⟨_,rfl⟩;have HFB:=k_ hfb
 try rw[show w2.heap.size+1+1=pb from hpb.symm]
 rw[← hpb] at hz3
 try rw[← hpb]
 rw[← hfb] at hz3 HZP ⊢;obtain⟨z0,z1,z2⟩:=(aH hz3).1;clear hzp hzb hz3 hzs hpb hfb HENT HB2;refine wp_region_noPanic ?_;refine wp_region_held_drew (S:=fun w'=>w'.cell? ⟨pb,0,none⟩=some (.slice none 0 0)∧w'.cell? ⟨pb,1,none⟩=some (.slice none 0 0)∧w'.cell? ⟨pb,2,none⟩=some (.slice (some ⟨fb,0,none⟩) 1 1)) (by kernel_rfl) ⟨z0,z1,z2⟩ (fun _=>?_);have HSS:=k_ (show Z.drew.cell? ⟨pb,0,none⟩=some (.slice none 0 0)∧Z.drew.cell? ⟨pb,1,none⟩=some (.slice none 0 0)∧Z.drew.cell? ⟨pb,2,none⟩=some (.slice (some ⟨fb,0,none⟩) 1 1) from⟨z0,z1,z2⟩);have HZD:=k_ (show Below Z.heap.size Z Z.drew from(Below.refl _ _).drew);clear z0 z1 z2;generalize Z.drew=Y at *;refine tk_ (i:=0) (v:=?_) rfl (by kernel_rfl) (fun _ _ _ h=>h) ?tq0 HSS.out ?_
 case tq0=>(intro wq hq;obtain⟨q0,q1,q2⟩:=hq;go_simp;first | done | with_reducible rfl)
 refine tk_ (i:=2) (v:=?_) rfl (by kernel_rfl) (fun _ _ _ h=>h) ?tq2 HSS.out ?_
 case tq2=>(intro wq hq;obtain⟨q0,q1,q2⟩:=hq;go_simp;first | done | with_reducible rfl)
 refine tk_ (i:=3) (v:=?_) rfl (by kernel_rfl) (fun _ _ _ h=>h) ?tq3 HSS.out ?_
 case tq3=>(intro wq hq;obtain⟨q0,q1,q2⟩:=hq;go_simp;first | done | with_reducible rfl)
 refine tk_ (i:=4) (v:=?_) rfl (by kernel_rfl) (fun _ _ _ h=>h) ?tq4 HSS.out ?_
 case tq4=>(intro wq hq;obtain⟨q0,q1,q2⟩:=hq;go_simp;first | done | with_reducible rfl)
 refine tk_ (i:=5) (v:=?_) rfl (by kernel_rfl) (fun _ _ _ h=>h) ?tq5 HSS.out ?_
 case tq5=>(intro wq hq;obtain⟨q0,q1,q2⟩:=hq;go_simp;first | done | with_reducible rfl)
 refine tk_ (i:=6) (v:=?_) rfl (by kernel_rfl) (fun _ _ _ h=>h) ?tq6 HSS.out ?_
 case tq6=>(intro wq hq;obtain⟨q0,q1,q2⟩:=hq;go_simp;first | done | with_reducible rfl)
 refine wpAnyH_ready (rs:=[1,7]) (by kernel_rfl) (by simp) ?_;refine(AllReadyH.cons rfl (fun K hK=>?_) (AllReadyH.cons rfl (fun K hK=>?_) AllReadyH.nil))
 ·go_simp
  refine(vk Y).mono ?_;rintro e Y1 ⟨rfl,hbw⟩;have HZ1:=k_ (HZD.out.trans (hbw.mono HZD.out.size));have HS1:=k_ (And.intro (ae hbw HSS.out.1) (And.intro (ae hbw HSS.out.2.1) (ae hbw HSS.out.2.2)));have HBW:=k_ hbw;clear hbw;refine hK.out _ _ HS1.out (fun _=>?_);clear hK K;refine rd_ (i:=7) (by kernel_rfl) rfl fun K hK=>?_
  go_simp;obtain⟨Y2,hn⟩:∃ u,u=World.alloc Y1 (.cells #[.int .i64 0,.int .i64 0,.int .i64 0,.int .i64 0,.int .i64 0,.int .i64 0,.int .i64 0,.int .i64 0,.int .i64 0,.int .i64 0] 29):=⟨_,rfl⟩;have hcl:∀ (j:Nat) u,(#[Value.int .i64 0,.int .i64 0,.int .i64 0,.int .i64 0,.int .i64 0,.int .i64 0,.int .i64 0,.int .i64 0,.int .i64 0,.int .i64 0]:Array Value)[j]?=some u→(Y2).cell? ⟨(Y1).heap.size,j,none⟩=some u:=fun j u hj=>by rw[hn,aI];exact hj
  have hbw:Below (Y1).heap.size Y1 Y2:=by rw[hn];exact(Below.refl _ _).alloc (Nat.le_refl _) _
  obtain⟨nb,hnb⟩:∃ u,u=(Y1).heap.size:=⟨_,rfl⟩;rw[← hnb] at hcl;rw[← hn,← hnb];have HCL:=k_ hcl;have HZ2:=k_ (HZ1.out.trans (hbw.mono HZ1.out.size));have HS2:=k_ (And.intro (ae hbw HS1.out.1) (And.intro (ae hbw HS1.out.2.1) (ae hbw HS1.out.2.2)));clear hn hcl hbw hnb;refine hK.out _ _ HS2.out (fun _=>?_);clear hK K;have hes:dz Y2 (fun _=>True) (some ⟨nb,0,none⟩) l26:=fun j hj=>by
   have hj5:j<5:=hj;have h5:j=0∨j=1∨j=2∨j=3∨j=4:=by omega
   rcases h5 with rfl | rfl | rfl | rfl | rfl
   ·exact⟨_,_,rfl,trivial,HCL.out 0 _ rfl,HCL.out 1 _ rfl⟩
   ·exact⟨_,_,rfl,trivial,HCL.out 2 _ rfl,HCL.out 3 _ rfl⟩
   ·exact⟨_,_,rfl,trivial,HCL.out 4 _ rfl,HCL.out 5 _ rfl⟩
   ·exact⟨_,_,rfl,trivial,HCL.out 6 _ rfl,HCL.out 7 _ rfl⟩
   ·exact⟨_,_,rfl,trivial,HCL.out 8 _ rfl,HCL.out 9 _ rfl⟩
  have pk:=tF Y2 _ _ (pZ (-7)) qw l26 _ _ _ _ 5 (HZP.out.fr (fb_ HZ2.out) (fun _ _ h=>h)) (fun k hk=>by have:=HZS.out;have:=HZ2.out.size;have hk:k<w2.heap.size+2:=hk;omega) (by decide) (by decide +kernel) (by decide) hes;rw[Ea] at pk;have HPK:=k_ pk;clear pk hes;refine rd_ (i:=8) (by kernel_rfl) rfl fun K hK=>?_
  go_simp;refine HPK.out.mono ?_;rintro e w9 ⟨rfl,hbw⟩;have hs9:=And.intro (ae hbw HS2.out.1) (And.intro (ae hbw HS2.out.2.1) (ae hbw HS2.out.2.2));have HB9:=k_ (HB3.out.trans ((HZ2.out.trans (hbw.mono HZ2.out.size)).mono HB3.out.size));have HE9:=k_ ((HENT3.out.below' HZ2.out).below' hbw);have HS9:=k_ hs9;clear hbw hs9;refine hK.out _ _ HS9.out (fun _=>?_);clear hK K HPK;refine tk_ (i:=9) (v:=?_) rfl (by kernel_rfl) (fun _ _ _ h=>h) ?tq9 HS9.out ?_
  case tq9=>(intro wq hq;obtain⟨q0,q1,q2⟩:=hq;go_simp;first | done | with_reducible rfl)
  refine tk_ (i:=10) (v:=?_) rfl (by kernel_rfl) (fun _ _ _ h=>h) ?tq10 HS9.out ?_
  case tq10=>(intro wq hq;obtain⟨q0,q1,q2⟩:=hq;go_simp;first | done | with_reducible rfl)
  refine tk_ (i:=11) (v:=?_) rfl (by kernel_rfl) (fun _ _ _ h=>h) ?tq11 HS9.out ?_
  case tq11=>(intro wq hq;obtain⟨q0,q1,q2⟩:=hq;go_simp;first | done | with_reducible rfl)
  refine tk_ (i:=12) (v:=?_) rfl (by kernel_rfl) (fun _ _ _ h=>h) ?tq12 HS9.out ?_
  case tq12=>(intro wq hq;obtain⟨q0,q1,q2⟩:=hq;go_simp;first | done | with_reducible rfl)
  refine tk_ (i:=13) (v:=?_) rfl (by kernel_rfl) (fun _ _ _ h=>h) ?tq13 HS9.out ?_
  case tq13=>(intro wq hq;obtain⟨q0,q1,q2⟩:=hq;go_simp;first | done | with_reducible rfl)
  refine wpAnyH_done (by kernel_rfl) ?_ _;refine NoPanic.normal ?_;obtain⟨eb,eo,rfl,_,c0,_⟩:=HE9.out 1 (by decide);have c0:w9.cell? ⟨eb,eo+2,none⟩=some (.int .i64 1):=c0;clear HE9 HS9 HENT3;go_wp2_with fail;refine(HPLAY.out _ HB9.out).mono ?_;rintro e w10 ⟨rfl,hb⟩;have HBB:=k_ (HB9.out.trans (hb.mono HB9.out.size));clear hb c0;go_wp2_with fail
  go_ret
  exact⟨rfl,HBB.out⟩
 ·go_simp
  obtain⟨Y1,hn⟩:∃ u,u=World.alloc Y (.cells #[.int .i64 0,.int .i64 0,.int .i64 0,.int .i64 0,.int .i64 0,.int .i64 0,.int .i64 0,.int .i64 0,.int .i64 0,.int .i64 0] 29):=⟨_,rfl⟩;have hcl:∀ (j:Nat) u,(#[Value.int .i64 0,.int .i64 0,.int .i64 0,.int .i64 0,.int .i64 0,.int .i64 0,.int .i64 0,.int .i64 0,.int .i64 0,.int .i64 0]:Array Value)[j]?=some u→(Y1).cell? ⟨(Y).heap.size,j,none⟩=some u:=fun j u hj=>by rw[hn,aI];exact hj
  have hbw:Below (Y).heap.size Y Y1:=by rw[hn];exact(Below.refl _ _).alloc (Nat.le_refl _) _
  obtain⟨nb,hnb⟩:∃ u,u=(Y).heap.size:=⟨_,rfl⟩;rw[← hnb] at hcl;rw[← hn,← hnb];have HCL:=k_ hcl;have HZ1:=k_ (HZD.out.trans (hbw.mono HZD.out.size));have HS1:=k_ (And.intro (ae hbw HSS.out.1) (And.intro (ae hbw HSS.out.2.1) (ae hbw HSS.out.2.2)));clear hn hcl hbw hnb;refine hK.out _ _ HS1.out (fun _=>?_);clear hK K;refine rd_ (i:=1) (by kernel_rfl) rfl fun K hK=>?_
  go_simp;refine(vk Y1).mono ?_;rintro e Y2 ⟨rfl,hbw⟩;have HZ2:=k_ (HZ1.out.trans (hbw.mono HZ1.out.size));have HS2:=k_ (And.intro (ae hbw HS1.out.1) (And.intro (ae hbw HS1.out.2.1) (ae hbw HS1.out.2.2)));have HBW:=k_ hbw;clear hbw;refine hK.out _ _ HS2.out (fun _=>?_);clear hK K;have HCL2:=k_ (show ∀ (j:Nat) u,(#[Value.int .i64 0,.int .i64 0,.int .i64 0,.int .i64 0,.int .i64 0,.int .i64 0,.int .i64 0,.int .i64 0,.int .i64 0,.int .i64 0]:Array Value)[j]?=some u→Y2.cell? ⟨nb,j,none⟩=some u from fun j u hj=>ae HBW.out (HCL.out j u hj));have hes:dz Y2 (fun _=>True) (some ⟨nb,0,none⟩) l26:=fun j hj=>by
   have hj5:j<5:=hj;have h5:j=0∨j=1∨j=2∨j=3∨j=4:=by omega
   rcases h5 with rfl | rfl | rfl | rfl | rfl
   ·exact⟨_,_,rfl,trivial,HCL2.out 0 _ rfl,HCL2.out 1 _ rfl⟩
   ·exact⟨_,_,rfl,trivial,HCL2.out 2 _ rfl,HCL2.out 3 _ rfl⟩
   ·exact⟨_,_,rfl,trivial,HCL2.out 4 _ rfl,HCL2.out 5 _ rfl⟩
   ·exact⟨_,_,rfl,trivial,HCL2.out 6 _ rfl,HCL2.out 7 _ rfl⟩
   ·exact⟨_,_,rfl,trivial,HCL2.out 8 _ rfl,HCL2.out 9 _ rfl⟩
  have pk:=tF Y2 _ _ (pZ (-7)) qw l26 _ _ _ _ 5 (HZP.out.fr (fb_ HZ2.out) (fun _ _ h=>h)) (fun k hk=>by have:=HZS.out;have:=HZ2.out.size;have hk:k<w2.heap.size+2:=hk;omega) (by decide) (by decide +kernel) (by decide) hes;rw[Ea] at pk;have HPK:=k_ pk;clear pk hes;refine rd_ (i:=8) (by kernel_rfl) rfl fun K hK=>?_
  go_simp;refine HPK.out.mono ?_;rintro e w9 ⟨rfl,hbw⟩;have hs9:=And.intro (ae hbw HS2.out.1) (And.intro (ae hbw HS2.out.2.1) (ae hbw HS2.out.2.2));have HB9:=k_ (HB3.out.trans ((HZ2.out.trans (hbw.mono HZ2.out.size)).mono HB3.out.size));have HE9:=k_ ((HENT3.out.below' HZ2.out).below' hbw);have HS9:=k_ hs9;clear hbw hs9;refine hK.out _ _ HS9.out (fun _=>?_);clear hK K HPK;refine tk_ (i:=9) (v:=?_) rfl (by kernel_rfl) (fun _ _ _ h=>h) ?tq9 HS9.out ?_
  case tq9=>(intro wq hq;obtain⟨q0,q1,q2⟩:=hq;go_simp;first | done | with_reducible rfl)
  refine tk_ (i:=10) (v:=?_) rfl (by kernel_rfl) (fun _ _ _ h=>h) ?tq10 HS9.out ?_
  case tq10=>(intro wq hq;obtain⟨q0,q1,q2⟩:=hq;go_simp;first | done | with_reducible rfl)
  refine tk_ (i:=11) (v:=?_) rfl (by kernel_rfl) (fun _ _ _ h=>h) ?tq11 HS9.out ?_
  case tq11=>(intro wq hq;obtain⟨q0,q1,q2⟩:=hq;go_simp;first | done | with_reducible rfl)
  refine tk_ (i:=12) (v:=?_) rfl (by kernel_rfl) (fun _ _ _ h=>h) ?tq12 HS9.out ?_
  case tq12=>(intro wq hq;obtain⟨q0,q1,q2⟩:=hq;go_simp;first | done | with_reducible rfl)
  refine tk_ (i:=13) (v:=?_) rfl (by kernel_rfl) (fun _ _ _ h=>h) ?tq13 HS9.out ?_
  case tq13=>(intro wq hq;obtain⟨q0,q1,q2⟩:=hq;go_simp;first | done | with_reducible rfl)
  refine wpAnyH_done (by kernel_rfl) ?_ _;refine NoPanic.normal ?_;obtain⟨eb,eo,rfl,_,c0,_⟩:=HE9.out 1 (by decide);have c0:w9.cell? ⟨eb,eo+2,none⟩=some (.int .i64 1):=c0;clear HE9 HS9 HENT3;go_wp2_with fail;refine(HPLAY.out _ HB9.out).mono ?_;rintro e w10 ⟨rfl,hb⟩;have HBB:=k_ (HB9.out.trans (hb.mono HB9.out.size));clear hb c0;go_wp2_with fail
  go_ret
  exact⟨rfl,HBB.out⟩
end Go.Proofs.YtlofbhoicbemnaaGreatDoor.Tk
