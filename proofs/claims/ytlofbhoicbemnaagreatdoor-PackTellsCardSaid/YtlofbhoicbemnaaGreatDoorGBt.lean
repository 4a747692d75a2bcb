/- Walks: what a task's step leads to: nothing; a number is put out; the end. -/
import Derived.Test.YtlofbhoicbemnaaGreatDoorGBn
set_option linter.unusedVariables false
set_option linter.unusedSimpArgs false
set_option maxRecDepth 100000
set_option maxHeartbeats 1600000
namespace Go.Proofs.YtlofbhoicbemnaaGreatDoor.Tk
open Go.ChangeShapes Go.WideShapes Go.ChangeAt Go.RowKit Go.Maps
theorem GR (w:World) (wb:Nat) (a f v fn:Int) (bb:Bool) (s0:Option Addr) (s1 s2:Nat) :
  Calls Tryz.prog 132 #[.pointer (some ⟨wb,0,none⟩),.int .i64 0,bA 0 a f v fn bb (.slice s0 s1 s2)] w fun e w'=>e=.returned (.tuple #[])∧Below w.heap.size w w':=by
 unfold bA
 go_enter Tryz.func132,Tryz.ntmps132
 go_wp2_with fail
 go_end0
 exact⟨rfl,(Below.refl _ _).alloc (Nat.le_refl _) _⟩
theorem JS (w:World) (wb:Nat) (X:WoD) (h:dw w wb X) (B:Nat) (hBw:B≤w.heap.size) (hwb:wb<B) (L:List Int) (ho:Own aG w B X.ot L) (hn:L.length<500) (a f x fn:Int) (bb:Bool) (s0:Option Addr) (s1 s2:Nat) :
  Calls Tryz.prog 132 #[.pointer (some ⟨wb,0,none⟩),.int .i64 0,bA 2 a f x fn bb (.slice s0 s1 s2)] w fun e w'=>e=.returned (.tuple #[])∧∃ v,dw w' wb { X with ot:=v }∧Own aG w' B v (L ++ [x])∧Fr (fun q=>q=wb∨X.ot.ownBlock=some q) w w'∧∀ q,v.ownBlock=some q→X.ot.ownBlock=some q∨w.heap.size≤q:=by
 obtain⟨o0,o2,hot,_⟩:=aP ho;have hnb:∀ q,X.ot.ownBlock=some q→q≠w.heap.size∧q≠wb:=fun q hq=>by have:=ho.lt hq;constructor <;> omega
 have hnv:∀ w1 v1,Own aG w1 B v1 (L ++ [x])→∀ q,v1.ownBlock=some q→q≠wb:=fun w1 v1 h1 q hq=>by have:=(h1.lt hq).1;omega
 have HNB:=k_ hnb;clear hnb;have HNV:=k_ hnv;clear hnv;have HNW:=k_ (show wb<w.heap.size by omega);have hl0:¬ (500:Int)≤(L.length:Int):=by omega
 obtain⟨W,hW⟩:∃ W,W=w.alloc (.cells #[.int .i64 2,.int .i64 a,.int .i64 f,.int .i64 x,.int .i64 fn,.bool bb,.slice s0 s1 s2] 218):=⟨_,rfl⟩;have hbW:Below w.heap.size w W:=by rw[hW];exact(Below.refl _ _).alloc (Nat.le_refl _) _
 have hrW:W.heap[w.heap.size]?=some (.cells #[.int .i64 2,.int .i64 a,.int .i64 f,.int .i64 x,.int .i64 fn,.bool bb,.slice s0 s1 s2] 218):=by rw[hW];exact ai _ _
 have hA:=h.below hbW;have hO:=ho.below hbW;have c0:=(aa hrW 0).1;have c3:=(aa hrW 3).1;simp only[List.getElem?_toArray,List.getElem?_cons_zero,List.getElem?_cons_succ] at c0 c3;have cot:W.cell? ⟨wb,18,none⟩=some (.slice o0 L.length o2):=by rw[← hot];exact(hA.cell 18).1
 have HW:=k_ hW;have HOT:=k_ hot;clear hW hot h ho hrW;have HA:=k_ hA;clear hA;have HO:=k_ hO;clear hO;have HBW:=k_ hbW;clear hbW;unfold bA
 go_enter Tryz.func132,Tryz.ntmps132
 go_upto_region 1 with fail
 rw[← HW.out]
 go_upto_region 7 with fail
 clear cot c0;have hS:W.drew.cell? ⟨w.heap.size,3,none⟩=some (.int .i64 x):=c3;have HS:=k_ hS;have HA0:=k_ (show dw W.drew wb X from HA.out);have HO0:=k_ (show Own aG W.drew B X.ot L from HO.out.below (Below.refl _ _).drew);have HB0:=k_ (show Below w.heap.size w W.drew from HBW.out.drew);refine wp_region_noPanic ?_;refine wp_region_held_drew (S:=fun w'=>w'.cell? ⟨w.heap.size,3,none⟩=some (.int .i64 x)) (by kernel_rfl) HS.out (fun _=>?_);clear c3 hS;generalize W.drew=r1 at *;refine tk_ (i:=0) (v:=?_) rfl (by kernel_rfl) (fun _ _ _ h=>h) ?tq0 HS.out ?_
 case tq0=>(intro wq hq;have q3:=hq;go_simp;first | done | with_reducible rfl)
 refine tk_ (i:=1) (v:=?_) rfl (by kernel_rfl) (fun _ _ _ h=>h) ?tq1 HS.out ?_
 case tq1=>(intro wq hq;have q3:=hq;go_simp;first | done | with_reducible rfl)
 refine tk_ (i:=2) (v:=?_) rfl (by kernel_rfl) (fun _ _ _ h=>h) ?tq2 HS.out ?_
 case tq2=>(intro wq hq;have q3:=hq;go_simp;first | done | with_reducible rfl)
 refine tk_ (i:=3) (v:=?_) rfl (by kernel_rfl) (fun _ _ _ h=>h) ?tq3 HS.out ?_
 case tq3=>(intro wq hq;have q3:=hq;go_simp;first | done | with_reducible rfl)
 refine tk_ (i:=5) (v:=?_) rfl (by kernel_rfl) (fun _ _ _ h=>h) ?tq5 HS.out ?_
 case tq5=>(intro wq hq;have q3:=hq;go_simp;first | done | with_reducible rfl)
 refine tk_ (i:=6) (v:=?_) rfl (by kernel_rfl) (fun _ _ _ h=>h) ?tq6 HS.out ?_
 case tq6=>(intro wq hq;have q3:=hq;go_simp;first | done | with_reducible rfl)
 refine wpAnyH_ready (rs:=[4,7]) (by kernel_rfl) (by simp) ?_;refine(AllReadyH.cons rfl (fun K hK=>?_) (AllReadyH.cons rfl (fun K hK=>?_) AllReadyH.nil))
 ·skip
  have c18:World.cell? r1 ⟨wb,18,none⟩=some X.ot:=(HA0.out.cell 18).1;go_simp;refine hK.out _ _ HS.out (fun _=>?_);clear hK K c18;refine rd_ (i:=7) (by kernel_rfl) rfl fun K hK=>?_
  go_simp;obtain⟨r2,hr2⟩:∃ u,u=World.alloc r1 (.cells #[.int .i64 x] 3):=⟨_,rfl⟩;have hcl:=aA.new r1 #[.int .i64 x] 3 (0,0);have hba:Below (r1).heap.size r1 r2:=by rw[hr2];exact(Below.refl _ _).alloc (Nat.le_refl _) _
  rw[← hr2] at hcl ⊢;have HAr2:=k_ (HA0.out.below hba);have HSr2:=k_ (ae hba HS.out);have HOr2:=k_ (HO0.out.below hba);have HBr2:=k_ (HB0.out.trans (hba.mono HB0.out.size));obtain⟨y,hy⟩:∃ y,y=(r1).heap.size:=⟨_,rfl⟩;rw[← hy] at hcl ⊢;have HCL:=k_ hcl;clear hr2 hcl hba hy;refine hK.out _ _ HSr2.out (fun _=>?_);clear hK K;refine rd_ (i:=8) (by kernel_rfl) rfl fun K hK=>?_
  refine aS aG rfl (.tmp 31) (.tmp 34) rfl B L [x] _ rfl HOr2.out y 0 1 rfl HCL.out (by simp;omega) (Nat.le_trans hBw HBr2.out.size) ?_;intro v1 w1 ho1 hg1 hfr1;obtain⟨a1,n1,c1,rfl⟩:=ho1.slice;obtain⟨v1,hv1⟩:∃ v,v=Value.slice a1 n1 c1:=⟨_,rfl⟩;rw[← hv1] at ho1 hfr1 ⊢;have HV1:=k_ hv1;clear hv1;have hnb:∀ q,X.ot.ownBlock=some q→q≠w.heap.size∧q≠wb:=HNB.out;have hf1:=(Fr.of_below HBr2.out (fun q=>X.ot.ownBlock=some q)).grown hg1 (fun k hk _=>hk);have ha1:=HAr2.out.fr ((Fr.refl (fun q=>X.ot.ownBlock=some q) _).grown hg1 (fun k hk _=>hk)) (fun h=>(hnb _ h).2 rfl);have hs1:=((Fr.refl (fun q=>X.ot.ownBlock=some q) _).grown hg1 (fun k hk _=>hk)).cell HSr2.out (fun h=>(hnb _ h).1 rfl);have HO1:=k_ ho1;have HFRE:=k_ (show ∀ q,v1.ownBlock=some q→X.ot.ownBlock=some q∨w.heap.size≤q from fun q hq=>(hfr1 q hq).imp id (fun h=>Nat.le_trans HBr2.out.size h));have HF1:=k_ hf1;have HA1:=k_ ha1;have HS1:=k_ hs1;clear ho1 hg1 hfr1 hf1 ha1 hs1 hnb;refine hK.out _ _ HS1.out (fun _=>?_);clear hK K;refine tk_ (i:=9) (v:=?_) rfl (by kernel_rfl) (fun _ _ _ h=>h) ?tq9 HS1.out ?_
  case tq9=>(intro wq hq;have q3:=hq;go_simp;first | done | with_reducible rfl)
  refine tk_ (i:=10) (v:=?_) rfl (by kernel_rfl) (fun _ _ _ h=>h) ?tq10 HS1.out ?_
  case tq10=>(intro wq hq;have q3:=hq;go_simp;first | done | with_reducible rfl)
  refine rd_ (i:=11) (by kernel_rfl) rfl fun K hK=>?_
  have c18:=(HA1.out.cell 18).2;have c18v:w1.cell? ⟨wb,18,none⟩=some X.ot:=(HA1.out.cell 18).1;have hr2:dw (w1.setCell ⟨wb,18,none⟩ v1) wb { X with ot:=v1 }:=ag HA1.out 18 v1;have hf2:Fr (fun q=>q=wb) w1 (w1.setCell ⟨wb,18,none⟩ v1):=(Fr.refl (fun q=>q=wb) w1).setCell (p:=⟨wb,18,none⟩) (fun _=>rfl) _;have hs2:=hf2.cell HS1.out (fun e=>by have:=HNW.out;have e:w.heap.size=wb:=e;omega);have hf:=(HF1.out.mono (G:=fun q=>q=wb∨X.ot.ownBlock=some q) (fun _ h=>.inr h)).trans (hf2.mono (G:=fun q=>q=wb∨X.ot.ownBlock=some q) (fun _ h=>.inl h)) (fun _ _ h=>h);have ho2:=HO1.out.fr hf2 (fun q hq e=>HNV.out w1 v1 HO1.out q hq e);have HP:=k_ (And.intro hr2 (And.intro ho2 (And.intro hf HFRE.out)));have HS2:=k_ hs2;clear hr2 hf2 hs2 hf ho2;have hv1:=HV1.out;subst hv1;go_simp;refine hK.out _ _ HS2.out (fun _=>?_);clear hK K c18 c18v;refine wpAnyH_done (by kernel_rfl) ?_ _;refine NoPanic.normal ?_;go_wp2_with fail
  go_end0
  exact⟨rfl,_,HP.out⟩
 ·skip
  go_simp;obtain⟨r2,hr2⟩:∃ u,u=World.alloc r1 (.cells #[.int .i64 x] 3):=⟨_,rfl⟩;have hcl:=aA.new r1 #[.int .i64 x] 3 (0,0);have hba:Below (r1).heap.size r1 r2:=by rw[hr2];exact(Below.refl _ _).alloc (Nat.le_refl _) _
  rw[← hr2] at hcl ⊢;have HAr2:=k_ (HA0.out.below hba);have HSr2:=k_ (ae hba HS.out);have HOr2:=k_ (HO0.out.below hba);have HBr2:=k_ (HB0.out.trans (hba.mono HB0.out.size));obtain⟨y,hy⟩:∃ y,y=(r1).heap.size:=⟨_,rfl⟩;rw[← hy] at hcl ⊢;have HCL:=k_ hcl;clear hr2 hcl hba hy;refine hK.out _ _ HSr2.out (fun _=>?_);clear hK K;refine rd_ (i:=4) (by kernel_rfl) rfl fun K hK=>?_
  have c18:World.cell? r2 ⟨wb,18,none⟩=some X.ot:=(HAr2.out.cell 18).1;go_simp;refine hK.out _ _ HSr2.out (fun _=>?_);clear hK K c18;refine rd_ (i:=8) (by kernel_rfl) rfl fun K hK=>?_
  refine aS aG rfl (.tmp 31) (.tmp 34) rfl B L [x] _ rfl HOr2.out y 0 1 rfl HCL.out (by simp;omega) (Nat.le_trans hBw HBr2.out.size) ?_;intro v1 w1 ho1 hg1 hfr1;obtain⟨a1,n1,c1,rfl⟩:=ho1.slice;obtain⟨v1,hv1⟩:∃ v,v=Value.slice a1 n1 c1:=⟨_,rfl⟩;rw[← hv1] at ho1 hfr1 ⊢;have HV1:=k_ hv1;clear hv1;have hnb:∀ q,X.ot.ownBlock=some q→q≠w.heap.size∧q≠wb:=HNB.out;have hf1:=(Fr.of_below HBr2.out (fun q=>X.ot.ownBlock=some q)).grown hg1 (fun k hk _=>hk);have ha1:=HAr2.out.fr ((Fr.refl (fun q=>X.ot.ownBlock=some q) _).grown hg1 (fun k hk _=>hk)) (fun h=>(hnb _ h).2 rfl);have hs1:=((Fr.refl (fun q=>X.ot.ownBlock=some q) _).grown hg1 (fun k hk _=>hk)).cell HSr2.out (fun h=>(hnb _ h).1 rfl);have HO1:=k_ ho1;have HFRE:=k_ (show ∀ q,v1.ownBlock=some q→X.ot.ownBlock=some q∨w.heap.size≤q from fun q hq=>(hfr1 q hq).imp id (fun h=>Nat.le_trans HBr2.out.size h));have HF1:=k_ hf1;have HA1:=k_ ha1;have HS1:=k_ hs1;clear ho1 hg1 hfr1 hf1 ha1 hs1 hnb;refine hK.out _ _ HS1.out (fun _=>?_);clear hK K;refine tk_ (i:=9) (v:=?_) rfl (by kernel_rfl) (fun _ _ _ h=>h) ?tq9 HS1.out ?_
  case tq9=>(intro wq hq;have q3:=hq;go_simp;first | done | with_reducible rfl)
  refine tk_ (i:=10) (v:=?_) rfl (by kernel_rfl) (fun _ _ _ h=>h) ?tq10 HS1.out ?_
  case tq10=>(intro wq hq;have q3:=hq;go_simp;first | done | with_reducible rfl)
  refine rd_ (i:=11) (by kernel_rfl) rfl fun K hK=>?_
  have c18:=(HA1.out.cell 18).2;have c18v:w1.cell? ⟨wb,18,none⟩=some X.ot:=(HA1.out.cell 18).1;have hr2:dw (w1.setCell ⟨wb,18,none⟩ v1) wb { X with ot:=v1 }:=ag HA1.out 18 v1;have hf2:Fr (fun q=>q=wb) w1 (w1.setCell ⟨wb,18,none⟩ v1):=(Fr.refl (fun q=>q=wb) w1).setCell (p:=⟨wb,18,none⟩) (fun _=>rfl) _;have hs2:=hf2.cell HS1.out (fun e=>by have:=HNW.out;have e:w.heap.size=wb:=e;omega);have hf:=(HF1.out.mono (G:=fun q=>q=wb∨X.ot.ownBlock=some q) (fun _ h=>.inr h)).trans (hf2.mono (G:=fun q=>q=wb∨X.ot.ownBlock=some q) (fun _ h=>.inl h)) (fun _ _ h=>h);have ho2:=HO1.out.fr hf2 (fun q hq e=>HNV.out w1 v1 HO1.out q hq e);have HP:=k_ (And.intro hr2 (And.intro ho2 (And.intro hf HFRE.out)));have HS2:=k_ hs2;clear hr2 hf2 hs2 hf ho2;have hv1:=HV1.out;subst hv1;go_simp;refine hK.out _ _ HS2.out (fun _=>?_);clear hK K c18 c18v;refine wpAnyH_done (by kernel_rfl) ?_ _;refine NoPanic.normal ?_;go_wp2_with fail
  go_end0
  exact⟨rfl,_,HP.out⟩
theorem zk (w:World) (s:Int) (b:Bool) :
  Calls Tryz.prog 194 #[.agg #[.int .i64 s,.bool b]] w fun e w'=>e=.returned (.agg #[.int .i64 4,.bool b])∧Below w.heap.size w w':=by
 have hb0:=((Below.refl w.heap.size w).alloc (Nat.le_refl _) (.cells #[.int .i64 s,.bool b] 213));have hb1:=hb0.alloc hb0.size hand0;have hr0:=aU (ai w (.cells #[.int .i64 s,.bool b] 213)) hand0;have hr1:=ai (w.alloc (.cells #[.int .i64 s,.bool b] 213)) hand0;obtain⟨W,hW⟩:∃ W,W=(w.alloc (.cells #[.int .i64 s,.bool b] 213)).alloc hand0:=⟨_,rfl⟩;rw[← hW] at hb1 hr0 hr1;obtain⟨z0,hz0⟩:∃ z0,z0=w.heap.size:=⟨_,rfl⟩;obtain⟨z1,hz1⟩:∃ z1,z1=w.heap.size+1:=⟨_,rfl⟩;rw[show (w.alloc (.cells #[.int .i64 s,.bool b] 213)).heap.size=z1 from by rw[hz1];simp] at hr1;rw[← hz0] at hr0;have hne:¬ z0=z1:=by omega
 have hne':¬ z1=z0:=by omega
 unfold hand0 at hr1 hW;have hf:Fr (fun k=>k=z0∨k=z1) W _:=(((Fr.refl (fun k=>k=z0∨k=z1) W).setCell (p:=⟨z0,0,none⟩) (fun _=>.inl rfl) (.int .i64 4)).setCell (p:=⟨z1,0,none⟩) (fun _=>.inr rfl) (.int .i64 4)).setCell (p:=⟨z1,1,none⟩) (fun _=>.inr rfl) (.bool b);have hb2:=hb1.trans (hf.below hb1.size (fun k hk=>by rcases hk with h | h <;> omega));have hra:=((Fr.refl (fun k=>k=z0) W).setCell (p:=⟨z0,0,none⟩) (fun _=>rfl) (.int .i64 4)).heap hr1 hne';have hrs:=ag (ag hra 0 (.int .i64 4)) 1 (.bool b);have k0:=(aa hr0 0).1;have k1:=(aa hr0 1).1;have f0:=(aa hr0 0).2;have l0:=(aa hr1 0).1;have l1:=(aa hr1 1).1;have g0:=(aa hr1 0).2;have g1:=(aa hr1 1).2;simp only[List.getElem?_toArray,List.getElem?_cons_zero,List.getElem?_cons_succ] at k0 k1 l0 l1;have HW:=k_ hW;have HZ0:=k_ hz0;have HZ1:=k_ hz1;clear hb0 hW hz0 hz1 hb1 hr0 hr1 hf hra;have HB2:=k_ hb2;clear hb2;have HRS:=k_ hrs;clear hrs
 go_enter Tryz.func194,Tryz.ntmps194
 go_upto_region 1 with fail
 rw[← HW.out,← HZ1.out,← HZ0.out];go_wp2_with fail;refine bodyPost_ret ?_ rfl (And.intro rfl HB2.out);have q0:=(aa HRS.out 0).1;have q1:=(aa HRS.out 1).1
 simp at q0 q1
 simp[results,Tryz.results194,go_sem,q0,q1]
theorem Jg (w:World) (wb:Nat) (X:WoD) (h:dw w wb X) (hb hc:Nat) (hhd:X.hd=.slice (some ⟨hb,0,none⟩) 1 hc) (s:Int) (b:Bool) (cs:Array Value) (hr:w.heap[hb]?=some (.cells cs 213)) (e0:cs[0]?=some (.int .i64 s)) (e1:cs[1]?=some (.bool b)) (hne:wb≠hb) (a f v fn:Int) (bb:Bool) (s0:Option Addr) (s1 s2:Nat) :
  Calls Tryz.prog 132 #[.pointer (some ⟨wb,0,none⟩),.int .i64 0,bA 10 a f v fn bb (.slice s0 s1 s2)] w fun e w'=>e=.returned (.tuple #[])∧dw w' wb { X with st:=1 }∧Fr (fun q=>q=wb∨q=hb) w w':=by
 have en:=fun w=>zk w s b
 have hsz:1<cs.size:=(Array.getElem?_eq_some_iff.1 e1).1;have HX:=k_ (show ((cs.setIfInBounds 0 (.int .i64 4)).setIfInBounds 1 (.bool b))[0]?=some (.int .i64 4)∧((cs.setIfInBounds 0 (.int .i64 4)).setIfInBounds 1 (.bool b))[1]?=some (.bool b) from by
  constructor
  ·rw[Array.getElem?_setIfInBounds_ne (by decide),Array.getElem?_setIfInBounds_self_of_lt (by omega)]
  ·rw[Array.getElem?_setIfInBounds_self_of_lt (by simpa using hsz)])
 have HE0:=k_ e0;have HE1:=k_ e1;clear e0 e1 hsz;have EN:=k_ en;clear en;obtain⟨W,hW⟩:∃ W,W=w.alloc (.cells #[.int .i64 10,.int .i64 a,.int .i64 f,.int .i64 v,.int .i64 fn,.bool bb,.slice s0 s1 s2] 218):=⟨_,rfl⟩;have hbW:Below w.heap.size w W:=by rw[hW];exact(Below.refl _ _).alloc (Nat.le_refl _) _
 have hrW:W.heap[w.heap.size]?=some (.cells #[.int .i64 10,.int .i64 a,.int .i64 f,.int .i64 v,.int .i64 fn,.bool bb,.slice s0 s1 s2] 218):=by rw[hW];exact ai _ _
 have hA:=h.below hbW;have hH:=(fb_ hbW).heap hr (fun h=>h);have c0:=(aa hrW 0).1;simp only[List.getElem?_toArray,List.getElem?_cons_zero,List.getElem?_cons_succ] at c0;have HW:=k_ hW;have HNE:=k_ hne;clear hW h hr hrW;have HA:=k_ hA;clear hA;have HH:=k_ hH;clear hH;have HBW:=k_ hbW;clear hbW;unfold bA
 go_enter Tryz.func132,Tryz.ntmps132
 go_upto_region 1 with fail
 rw[← HW.out]
 go_upto_region 11 with fail
 clear c0;have hS:W.drew.cell? ⟨wb,16,none⟩=some (.slice (some ⟨hb,0,none⟩) 1 hc):=by rw[← hhd];exact(HA.out.cell 16).1
 have HS:=k_ hS;have HA0:=k_ (show dw W.drew wb X from HA.out);have HH0:=k_ (show W.drew.heap[hb]?=_ from HH.out);have HB0:=k_ (show Below w.heap.size w W.drew from HBW.out.drew);refine wp_region_noPanic ?_;refine wp_region_held_drew (S:=fun w'=>w'.cell? ⟨wb,16,none⟩=some (.slice (some ⟨hb,0,none⟩) 1 hc)) (by kernel_rfl) HS.out (fun _=>?_);clear hS;generalize W.drew=r1 at *;refine tk_ (i:=0) (v:=?_) rfl (by kernel_rfl) (fun _ _ _ h=>h) ?tq0 HS.out ?_
 case tq0=>(intro wq hq;have q16:wq.cell? ⟨wb,16,none⟩=some (.slice (some ⟨hb,0,none⟩) 1 hc):=hq;go_simp;first | done | with_reducible rfl)
 refine tk_ (i:=1) (v:=?_) rfl (by kernel_rfl) (fun _ _ _ h=>h) ?tq1 HS.out ?_
 case tq1=>(intro wq hq;have q16:wq.cell? ⟨wb,16,none⟩=some (.slice (some ⟨hb,0,none⟩) 1 hc):=hq;go_simp;first | done | with_reducible rfl)
 refine tk_ (i:=2) (v:=?_) rfl (by kernel_rfl) (fun _ _ _ h=>h) ?tq2 HS.out ?_
 case tq2=>(intro wq hq;have q16:wq.cell? ⟨wb,16,none⟩=some (.slice (some ⟨hb,0,none⟩) 1 hc):=hq;go_simp;first | done | with_reducible rfl)
 refine tk_ (i:=3) (v:=?_) rfl (by kernel_rfl) (fun _ _ _ h=>h) ?tq3 HS.out ?_
 case tq3=>(intro wq hq;have q16:wq.cell? ⟨wb,16,none⟩=some (.slice (some ⟨hb,0,none⟩) 1 hc):=hq;go_simp;first | done | with_reducible rfl)
 refine tk_ (i:=4) (v:=?_) rfl (by kernel_rfl) (fun _ _ _ h=>h) ?tq4 HS.out ?_
 case tq4=>(intro wq hq;have q16:wq.cell? ⟨wb,16,none⟩=some (.slice (some ⟨hb,0,none⟩) 1 hc):=hq;go_simp;first | done | with_reducible rfl)
 refine tk_ (i:=5) (v:=?_) rfl (by kernel_rfl) (fun _ _ _ h=>h) ?tq5 HS.out ?_
 case tq5=>(intro wq hq;have q16:wq.cell? ⟨wb,16,none⟩=some (.slice (some ⟨hb,0,none⟩) 1 hc):=hq;go_simp;first | done | with_reducible rfl)
 refine tk_ (i:=6) (v:=?_) rfl (by kernel_rfl) (fun _ _ _ h=>h) ?tq6 HS.out ?_
 case tq6=>(intro wq hq;have q16:wq.cell? ⟨wb,16,none⟩=some (.slice (some ⟨hb,0,none⟩) 1 hc):=hq;go_simp;first | done | with_reducible rfl)
 refine tk_ (i:=7) (v:=?_) rfl (by kernel_rfl) (fun _ _ _ h=>h) ?tq7 HS.out ?_
 case tq7=>(intro wq hq;have q16:wq.cell? ⟨wb,16,none⟩=some (.slice (some ⟨hb,0,none⟩) 1 hc):=hq;go_simp;first | done | with_reducible rfl)
 refine tk_ (i:=8) (v:=?_) rfl (by kernel_rfl) (fun _ _ _ h=>h) ?tq8 HS.out ?_
 case tq8=>(intro wq hq;have q16:wq.cell? ⟨wb,16,none⟩=some (.slice (some ⟨hb,0,none⟩) 1 hc):=hq;go_simp;first | done | with_reducible rfl)
 refine tk_ (i:=9) (v:=?_) rfl (by kernel_rfl) (fun _ _ _ h=>h) ?tq9 HS.out ?_
 case tq9=>(intro wq hq;have q16:wq.cell? ⟨wb,16,none⟩=some (.slice (some ⟨hb,0,none⟩) 1 hc):=hq;go_simp;first | done | with_reducible rfl)
 refine tk_ (i:=10) (v:=?_) rfl (by kernel_rfl) (fun _ _ _ h=>h) ?tq10 HS.out ?_
 case tq10=>(intro wq hq;have q16:wq.cell? ⟨wb,16,none⟩=some (.slice (some ⟨hb,0,none⟩) 1 hc):=hq;go_simp;first | done | with_reducible rfl)
 refine rd_ (i:=11) (by kernel_rfl) rfl fun K hK=>?_
 have k0:=(aa HH0.out 0).1.trans HE0.out;have k1:=(aa HH0.out 1).1.trans HE1.out;go_simp;refine hK.out _ _ HS.out (fun _=>?_);clear hK K k0 k1;refine rd_ (i:=12) (by kernel_rfl) rfl fun K hK=>?_
 go_simp
 go_at_call 194
 refine(EN.out _).mono ?_;rintro e r2 ⟨rfl,hb2⟩;have HS2:=k_ (ae hb2 HS.out);have HA2:=k_ (HA0.out.below hb2);have HH2:=k_ ((fb_ hb2).heap HH0.out (fun h=>h));have HB2:=k_ (HB0.out.trans (hb2.mono HB0.out.size));clear hb2;refine hK.out _ _ HS2.out (fun _=>?_);clear hK K;refine tk_ (i:=13) (v:=?_) rfl (by kernel_rfl) (fun _ _ _ h=>h) ?tq13 HS2.out ?_
 case tq13=>(intro wq hq;have q16:wq.cell? ⟨wb,16,none⟩=some (.slice (some ⟨hb,0,none⟩) 1 hc):=hq;go_simp;first | done | with_reducible rfl)
 refine rd_ (i:=14) (by kernel_rfl) rfl fun K hK=>?_
 have l0:=(aa HH2.out 0).1.trans HE0.out;have l1:=(aa HH2.out 1).1.trans HE1.out;have g0:=(aa HH2.out 0).2;have g1:=(aa HH2.out 1).2;obtain⟨r3,hr3⟩:∃ r3,r3=(r2.setCell ⟨hb,0,none⟩ (.int .i64 4)).setCell ⟨hb,1,none⟩ (.bool b):=⟨_,rfl⟩;have hf3:Fr (fun q=>q=hb) r2 r3:=by rw[hr3];exact((Fr.refl (fun q=>q=hb) r2).setCell (p:=⟨hb,0,none⟩) (fun _=>rfl) (.int .i64 4)).setCell (p:=⟨hb,1,none⟩) (fun _=>rfl) (.bool b)
 have hrw:r3.heap[hb]?=some (.cells ((cs.setIfInBounds 0 (.int .i64 4)).setIfInBounds 1 (.bool b)) 213):=by rw[hr3];exact ag (ag HH2.out 0 (.int .i64 4)) 1 (.bool b)
 have HA3:=k_ (HA2.out.fr hf3 HNE.out);have HS3:=k_ (hf3.cell HS2.out HNE.out);have HF3:=k_ (((Fr.of_below HB2.out (fun q=>q=hb)).trans hf3 (fun _ _ h=>h)).mono (G:=fun q=>q=wb∨q=hb) (fun _ h=>.inr h));have HRW:=k_ hrw;have HR3:=k_ hr3;clear hr3 hf3 hrw;go_simp;rw[← HR3.out];refine hK.out _ _ HS3.out (fun _=>?_);clear hK K l0 l1 g0 g1;refine wpAnyH_done (by kernel_rfl) ?_ _;refine NoPanic.normal ?_;have hr4:dw (r3.setCell ⟨wb,20,none⟩ (.int .i64 1)) wb { X with st:=1 }:=ag HA3.out 20 (.int .i64 1);have c20:=(HA3.out.cell 20).2;have c20v:r3.cell? ⟨wb,20,none⟩=some (.int .i64 X.st):=(HA3.out.cell 20).1;have hf4:Fr (fun q=>q=wb∨q=hb) r3 (r3.setCell ⟨wb,20,none⟩ (.int .i64 1)):=(Fr.refl (fun q=>q=wb∨q=hb) r3).setCell (p:=⟨wb,20,none⟩) (fun _=>.inl rfl) _;have hrow4:=((Fr.refl (fun q=>q=wb) r3).setCell (p:=⟨wb,20,none⟩) (fun _=>rfl) (.int .i64 1)).heap HRW.out (fun e=>HNE.out e.symm);obtain⟨r4,hr4e⟩:∃ r4,r4=r3.setCell ⟨wb,20,none⟩ (.int .i64 1):=⟨_,rfl⟩;rw[← hr4e] at hr4 hf4 hrow4;have HR4:=k_ hr4;have HF4:=k_ (HF3.out.trans hf4 (fun _ _ h=>h));have HROW:=k_ hrow4;have HR4E:=k_ hr4e;clear hr4 hf4 hrow4 hr4e
 go_upto_region 13 with fail
 rw[← HR4E.out];clear c20 c20v;have q16:r4.cell? ⟨wb,16,none⟩=some (.slice (some ⟨hb,0,none⟩) 1 hc):=by rw[← hhd];exact(HR4.out.cell 16).1
 go_wp2_with fail;clear q16
 go_loopw [67] (fun i wr=>∃ k:Nat,k≤1∧i=.int .i64 k∧Below r4.heap.size r4 wr) (fun i _=>1 - (intOf i).toNat)
 case atStart=>exact⟨0,by omega,rfl,Below.refl _ _⟩
 case round =>
  obtain⟨k,hk,rfl,hB⟩:=hrel
  by_cases hlt:k<1
  ·obtain rfl:k=0:=by omega
   have hrw:=(fb_ hB).heap HROW.out (fun h=>h);have l0:=(aa hrw 0).1.trans HX.out.1;have l1:=(aa hrw 1).1.trans HX.out.2;have HBW:=k_ (hB.alloc hB.size (.cells #[.int .i64 4,.bool b] 213));clear hrw hB;go_wp2_with fail
   go_roundw
   case rel=>exact⟨1,by omega,rfl,HBW.out⟩
   case measure=>simp[intOf]
  ·obtain rfl:k=1:=by omega
   have HE:=k_ (HF4.out.trans (Fr.of_below hB (fun q=>q=wb∨q=hb)) (fun _ _ h=>h));have HAE:=k_ (HR4.out.below hB);clear hB;go_wp2_with fail
   go_end0
   exact⟨rfl,HAE.out,HE.out⟩
end Go.Proofs.YtlofbhoicbemnaaGreatDoor.Tk
