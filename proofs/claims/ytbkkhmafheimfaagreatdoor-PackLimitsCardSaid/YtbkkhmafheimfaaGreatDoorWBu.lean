/- Walk: chapter 26's alive, given what Play answers. -/
import Derived.Test.YtbkkhmafheimfaaGreatDoorWBs
import Derived.Test.YtbkkhmafheimfaaGreatDoorWBt
set_option linter.unusedVariables false
set_option linter.unusedSimpArgs false
set_option maxRecDepth 100000
set_option maxHeartbeats 1600000
namespace Go.Proofs.YtbkkhmafheimfaaGreatDoor.Tk
open Go.ChangeShapes Go.WideShapes Go.ChangeAt Go.RowKit Go.Maps
def e26:List Ent:=[⟨0,3⟩,⟨1,0⟩]
theorem scr26:scrS e26=(⟨#[3,32]⟩,0):=by kernel_rfl
theorem ent26:entsS ⟨#[3,32]⟩=(e26,0):=by kernel_rfl
def zB (w:World):World:=((w.alloc (.cells #[.int .i64 1,.int .i64 0,.int .i64 (-7),.int .i64 0,.int .i64 29,.int .i64 0,.int .i64 0,.int .i64 0,.int .i64 27,.int .i64 0,.int .i64 0,.int .i64 0] 32)).alloc (.cells #[.slice none 0 0,.int .i64 0,.int .i64 1,.slice none 0 0,.slice (some ⟨w.heap.size,0,none⟩) 3 3] 36)).alloc (.cells #[.slice none 0 0,.slice none 0 0,.slice (some ⟨w.heap.size+1,0,none⟩) 1 1] 40)
theorem zB_below (w:World):Below w.heap.size w (zB w):=(((Below.refl _ _).alloc (Nat.le_refl _) _).alloc (by simp) _).alloc (by simp;omega) _
theorem zB_size (w:World):(zB w).heap.size=w.heap.size+3:=by simp[zB]
theorem zB_cells (w:World):(∀ (j:Nat) u,(#[Value.int .i64 1,.int .i64 0,.int .i64 (-7),.int .i64 0,.int .i64 29,.int .i64 0,.int .i64 0,.int .i64 0,.int .i64 27,.int .i64 0,.int .i64 0,.int .i64 0])[j]?=some u→(zB w).cell? ⟨w.heap.size,j,none⟩=some u)∧(∀ (j:Nat) u,(#[Value.slice none 0 0,.int .i64 0,.int .i64 1,.slice none 0 0,.slice (some ⟨w.heap.size,0,none⟩) 3 3])[j]?=some u→(zB w).cell? ⟨w.heap.size+1,j,none⟩=some u):=by
 refine⟨fun j u h=>?_,fun j u h=>?_⟩
 ·unfold zB
  rw[cell_under _ _ (by simp;omega),cell_under _ _ (by simp),cell_new];exact h
 ·unfold zB
  rw[cell_under _ _ (by simp)];rw[show w.heap.size+1=(w.alloc (.cells #[.int .i64 1,.int .i64 0,.int .i64 (-7),.int .i64 0,.int .i64 29,.int .i64 0,.int .i64 0,.int .i64 0,.int .i64 27,.int .i64 0,.int .i64 0,.int .i64 0] 32)).heap.size from by simp,cell_new]
  simpa using h
theorem zB_prg (w:World):PrgVal (zB w) (fun k=>k<w.heap.size+2) (pZ (-7)) (.slice none 0 0) (.slice none 0 0) (.slice (some ⟨w.heap.size+1,0,none⟩) 1 1):=by
 obtain⟨h1,h2⟩:=zB_cells w;refine⟨⟨none,0,rfl,fun j hj=>by cases hj⟩,⟨none,0,rfl,fun j hj=>by cases hj⟩,_,1,rfl,fun j hj=>?_⟩;have hj0:j=0:=by have:j<1:=hj;omega
 subst hj0;refine⟨w.heap.size+1,0,rfl,by show w.heap.size+1<w.heap.size+2;omega,_,_,_,_,_,h2 0 _ rfl,h2 1 _ rfl,h2 2 _ rfl,h2 3 _ rfl,h2 4 _ rfl,rfl,rfl,⟨none,0,rfl,fun j hj=>by cases hj⟩,⟨none,0,rfl,fun j hj=>by cases hj⟩,_,3,rfl,fun i hi=>?_⟩;have hi0:i=0∨i=1∨i=2:=by have:i<3:=hi;omega
 rcases hi0 with rfl | rfl | rfl
 ·exact⟨w.heap.size,0,rfl,by show w.heap.size<w.heap.size+2;omega,h1 0 _ rfl,h1 1 _ rfl,h1 2 _ rfl,h1 3 _ rfl⟩
 ·exact⟨w.heap.size,0,rfl,by show w.heap.size<w.heap.size+2;omega,h1 4 _ rfl,h1 5 _ rfl,h1 6 _ rfl,h1 7 _ rfl⟩
 ·exact⟨w.heap.size,0,rfl,by show w.heap.size<w.heap.size+2;omega,h1 8 _ rfl,h1 9 _ rfl,h1 10 _ rfl,h1 11 _ rfl⟩
theorem alive26 (w:World) (PLAY:∀ w1:World,Below w.heap.size w w1→Calls Tryz.prog 11 #[.string b26] w1 fun e w'=>e=.returned (.string ⟨#[115,116,97,116,117,115,32,49,32,45,55]⟩)∧Below w1.heap.size w1 w') :
  Calls Tryz.prog 5 #[] w fun e w'=>e=.returned (.bool true)∧Below w.heap.size w w':=by
 have HPLAY:=k_ PLAY;clear PLAY;have hsc:CellsAt (w.alloc (.cells #[.int .i64 0,.int .i64 3,.int .i64 1,.int .i64 0] 42)) w.heap.size 0 _:=CellsAt.new w #[.int .i64 0,.int .i64 3,.int .i64 1,.int .i64 0] 42 (0,0);have hes:EntSl (w.alloc (.cells #[.int .i64 0,.int .i64 3,.int .i64 1,.int .i64 0] 42)) (fun _=>True) (some ⟨w.heap.size,0,none⟩) e26:=fun j hj=>by
  have hj2:j<2:=hj;have h2:j=0∨j=1:=by omega
  rcases h2 with rfl | rfl
  ·exact⟨_,_,rfl,trivial,hsc 0 _ rfl,hsc 1 _ rfl⟩
  ·exact⟨_,_,rfl,trivial,hsc 2 _ rfl,hsc 3 _ rfl⟩
 have sc:=script_any e26 _ _ 2 _ (by decide) hes;rw[scr26] at sc;have HSC:=k_ sc;have HB0:=k_ ((Below.refl w.heap.size w).alloc (Nat.le_refl _) (.cells #[.int .i64 0,.int .i64 3,.int .i64 1,.int .i64 0] 42));clear sc hsc hes
 go_enter Tryz.func5,Tryz.ntmps5
 go_wp2_with fail;refine HSC.out.mono ?_;rintro e w1 ⟨rfl,hb⟩;have HB1:=k_ (HB0.out.trans (hb.mono HB0.out.size));clear hb HB0 HSC;go_wp2_with fail;have en:=entries_any ⟨#[3,32]⟩ w1 (by decide);rw[ent26] at en;refine en.mono ?_;rintro e w2 ⟨v,rfl,ho,hb⟩;have HB2:=k_ (HB1.out.trans (hb.mono HB1.out.size));obtain⟨a,cp,hv,hent⟩:=own_ent ho;have hv:v=.slice a 2 cp:=hv;subst hv;have HENT:=k_ hent;clear hb ho HB1 hent en
 go_upto_region 4 with fail
 have hzp:=zB_prg w2;have hzb:=zB_below w2;have hz3:(zB w2).heap[w2.heap.size+2]?=some (.cells #[.slice none 0 0,.slice none 0 0,.slice (some ⟨w2.heap.size+1,0,none⟩) 1 1] 40):=by
  unfold zB;rw[show w2.heap.size+2=((w2.alloc (.cells #[.int .i64 1,.int .i64 0,.int .i64 (-7),.int .i64 0,.int .i64 29,.int .i64 0,.int .i64 0,.int .i64 0,.int .i64 27,.int .i64 0,.int .i64 0,.int .i64 0] 32)).alloc (.cells #[.slice none 0 0,.int .i64 0,.int .i64 1,.slice none 0 0,.slice (some ⟨w2.heap.size,0,none⟩) 3 3] 36)).heap.size from by simp];exact heap_new _ _
 rw[show ((w2.alloc (.cells #[.int .i64 1,.int .i64 0,.int .i64 (-7),.int .i64 0,.int .i64 29,.int .i64 0,.int .i64 0,.int .i64 0,.int .i64 27,.int .i64 0,.int .i64 0,.int .i64 0] 32)).alloc (.cells #[.slice none 0 0,.int .i64 0,.int .i64 1,.slice none 0 0,.slice (some ⟨w2.heap.size,0,none⟩) 3 3] 36)).alloc (.cells #[.slice none 0 0,.slice none 0 0,.slice (some ⟨w2.heap.size+1,0,none⟩) 1 1] 40)=zB w2 from rfl];obtain⟨Z,hZ⟩:∃ Z,Z=zB w2:=⟨_,rfl⟩;have hzs:Z.heap.size=w2.heap.size+3:=by rw[hZ,zB_size]
 rw[← hZ] at hzp hzb hz3 ⊢;clear hZ;have HZP:=k_ hzp;have HB3:=k_ (HB2.out.trans (hzb.mono HB2.out.size));have HENT3:=k_ (HENT.out.below' hzb);obtain⟨pb,hpb⟩:∃ pb,pb=w2.heap.size+2:=⟨_,rfl⟩;have HPB:=k_ hpb;have HZS:=k_ hzs;obtain⟨fb,hfb⟩:∃ fb,fb=w2.heap.size+1:=⟨_,rfl⟩;have HFB:=k_ hfb
 try rw[show w2.heap.size+1+1=pb from hpb.symm]
 rw[← hpb] at hz3
 try rw[← hpb]
 rw[← hfb] at hz3 HZP ⊢;obtain⟨z0,z1,z2⟩:=(three_cells hz3).1;clear hzp hzb hz3 hzs hpb hfb HENT HB2;refine wp_region_noPanic ?_;refine wp_region_held_drew (S:=fun w'=>w'.cell? ⟨pb,0,none⟩=some (.slice none 0 0)∧w'.cell? ⟨pb,1,none⟩=some (.slice none 0 0)∧w'.cell? ⟨pb,2,none⟩=some (.slice (some ⟨fb,0,none⟩) 1 1)) (by kernel_rfl) ⟨z0,z1,z2⟩ (fun _=>?_);have HSS:=k_ (show Z.drew.cell? ⟨pb,0,none⟩=some (.slice none 0 0)∧Z.drew.cell? ⟨pb,1,none⟩=some (.slice none 0 0)∧Z.drew.cell? ⟨pb,2,none⟩=some (.slice (some ⟨fb,0,none⟩) 1 1) from⟨z0,z1,z2⟩);have HZD:=k_ (show Below Z.heap.size Z Z.drew from(Below.refl _ _).drew);clear z0 z1 z2;generalize Z.drew=Y at *;refine wpAnyH_take (i:=0) (v:=?_) rfl (by kernel_rfl) (by kernel_rfl) (by kernel_rfl) (fun _ _ _ h=>h) (Or.inl ⟨by kernel_rfl,?tq0⟩) HSS.out ?_
 case tq0=>(intro wq hq;obtain⟨q0,q1,q2⟩:=hq;go_simp;first | done | with_reducible rfl)
 refine wpAnyH_take (i:=2) (v:=?_) rfl (by kernel_rfl) (by kernel_rfl) (by kernel_rfl) (fun _ _ _ h=>h) (Or.inl ⟨by kernel_rfl,?tq2⟩) HSS.out ?_
 case tq2=>(intro wq hq;obtain⟨q0,q1,q2⟩:=hq;go_simp;first | done | with_reducible rfl)
 refine wpAnyH_take (i:=3) (v:=?_) rfl (by kernel_rfl) (by kernel_rfl) (by kernel_rfl) (fun _ _ _ h=>h) (Or.inl ⟨by kernel_rfl,?tq3⟩) HSS.out ?_
 case tq3=>(intro wq hq;obtain⟨q0,q1,q2⟩:=hq;go_simp;first | done | with_reducible rfl)
 refine wpAnyH_take (i:=4) (v:=?_) rfl (by kernel_rfl) (by kernel_rfl) (by kernel_rfl) (fun _ _ _ h=>h) (Or.inl ⟨by kernel_rfl,?tq4⟩) HSS.out ?_
 case tq4=>(intro wq hq;obtain⟨q0,q1,q2⟩:=hq;go_simp;first | done | with_reducible rfl)
 refine wpAnyH_take (i:=5) (v:=?_) rfl (by kernel_rfl) (by kernel_rfl) (by kernel_rfl) (fun _ _ _ h=>h) (Or.inl ⟨by kernel_rfl,?tq5⟩) HSS.out ?_
 case tq5=>(intro wq hq;obtain⟨q0,q1,q2⟩:=hq;go_simp;first | done | with_reducible rfl)
 refine wpAnyH_take (i:=6) (v:=?_) rfl (by kernel_rfl) (by kernel_rfl) (by kernel_rfl) (fun _ _ _ h=>h) (Or.inl ⟨by kernel_rfl,?tq6⟩) HSS.out ?_
 case tq6=>(intro wq hq;obtain⟨q0,q1,q2⟩:=hq;go_simp;first | done | with_reducible rfl)
 refine wpAnyH_ready (rs:=[1,7]) (by kernel_rfl) (by simp) ?_;refine(AllReadyH.cons rfl (fun K hK=>?_) (AllReadyH.cons rfl (fun K hK=>?_) AllReadyH.nil))
 ·go_simp
  refine(plain_cfg Y).mono ?_;rintro e Y1 ⟨rfl,hbw⟩;have HZ1:=k_ (HZD.out.trans (hbw.mono HZD.out.size));have HS1:=k_ (And.intro (below_cell hbw HSS.out.1) (And.intro (below_cell hbw HSS.out.2.1) (below_cell hbw HSS.out.2.2)));have HBW:=k_ hbw;clear hbw;refine hK.out _ _ HS1.out (fun _=>?_);clear hK K;refine wpAnyH_ready (rs:=[7]) (by kernel_rfl) (by simp) ?_;refine(AllReadyH.cons rfl (fun K hK=>?_) AllReadyH.nil);go_simp;obtain⟨Y2,hn⟩:∃ u,u=World.alloc Y1 (.cells #[.int .i64 0,.int .i64 0,.int .i64 0,.int .i64 0,.int .i64 0,.int .i64 0,.int .i64 0,.int .i64 0,.int .i64 0,.int .i64 0] 42):=⟨_,rfl⟩;have hcl:∀ (j:Nat) u,(#[Value.int .i64 0,.int .i64 0,.int .i64 0,.int .i64 0,.int .i64 0,.int .i64 0,.int .i64 0,.int .i64 0,.int .i64 0,.int .i64 0]:Array Value)[j]?=some u→(Y2).cell? ⟨(Y1).heap.size,j,none⟩=some u:=fun j u hj=>by rw[hn,cell_new];exact hj
  have hbw:Below (Y1).heap.size Y1 Y2:=by rw[hn];exact(Below.refl _ _).alloc (Nat.le_refl _) _
  obtain⟨nb,hnb⟩:∃ u,u=(Y1).heap.size:=⟨_,rfl⟩;rw[← hnb] at hcl;rw[← hn,← hnb];have HCL:=k_ hcl;have HZ2:=k_ (HZ1.out.trans (hbw.mono HZ1.out.size));have HS2:=k_ (And.intro (below_cell hbw HS1.out.1) (And.intro (below_cell hbw HS1.out.2.1) (below_cell hbw HS1.out.2.2)));clear hn hcl hbw hnb;refine hK.out _ _ HS2.out (fun _=>?_);clear hK K;have hes:EntSl Y2 (fun _=>True) (some ⟨nb,0,none⟩) l26:=fun j hj=>by
   have hj5:j<5:=hj;have h5:j=0∨j=1∨j=2∨j=3∨j=4:=by omega
   rcases h5 with rfl | rfl | rfl | rfl | rfl
   ·exact⟨_,_,rfl,trivial,HCL.out 0 _ rfl,HCL.out 1 _ rfl⟩
   ·exact⟨_,_,rfl,trivial,HCL.out 2 _ rfl,HCL.out 3 _ rfl⟩
   ·exact⟨_,_,rfl,trivial,HCL.out 4 _ rfl,HCL.out 5 _ rfl⟩
   ·exact⟨_,_,rfl,trivial,HCL.out 6 _ rfl,HCL.out 7 _ rfl⟩
   ·exact⟨_,_,rfl,trivial,HCL.out 8 _ rfl,HCL.out 9 _ rfl⟩
  have pk:=pack_any Y2 _ _ (pZ (-7)) cfgP l26 _ _ _ _ 5 (HZP.out.fr (Fr.of_below HZ2.out (fun _=>False)) (fun _ _ h=>h)) (fun k hk=>by have:=HZS.out;have:=HZ2.out.size;have hk:k<w2.heap.size+2:=hk;omega) (by decide) (by decide +kernel) (by decide) hes;rw[pack26] at pk;have HPK:=k_ pk;clear pk hes;refine wpAnyH_ready (rs:=[8]) (by kernel_rfl) (by simp) ?_;refine(AllReadyH.cons rfl (fun K hK=>?_) AllReadyH.nil);go_simp;refine HPK.out.mono ?_;rintro e w9 ⟨rfl,hbw⟩;have hs9:=And.intro (below_cell hbw HS2.out.1) (And.intro (below_cell hbw HS2.out.2.1) (below_cell hbw HS2.out.2.2));have HB9:=k_ (HB3.out.trans ((HZ2.out.trans (hbw.mono HZ2.out.size)).mono HB3.out.size));have HE9:=k_ ((HENT3.out.below' HZ2.out).below' hbw);have HS9:=k_ hs9;clear hbw hs9;refine hK.out _ _ HS9.out (fun _=>?_);clear hK K HPK;refine wpAnyH_take (i:=9) (v:=?_) rfl (by kernel_rfl) (by kernel_rfl) (by kernel_rfl) (fun _ _ _ h=>h) (Or.inl ⟨by kernel_rfl,?tq9⟩) HS9.out ?_
  case tq9=>(intro wq hq;obtain⟨q0,q1,q2⟩:=hq;go_simp;first | done | with_reducible rfl)
  refine wpAnyH_take (i:=10) (v:=?_) rfl (by kernel_rfl) (by kernel_rfl) (by kernel_rfl) (fun _ _ _ h=>h) (Or.inl ⟨by kernel_rfl,?tq10⟩) HS9.out ?_
  case tq10=>(intro wq hq;obtain⟨q0,q1,q2⟩:=hq;go_simp;first | done | with_reducible rfl)
  refine wpAnyH_take (i:=11) (v:=?_) rfl (by kernel_rfl) (by kernel_rfl) (by kernel_rfl) (fun _ _ _ h=>h) (Or.inl ⟨by kernel_rfl,?tq11⟩) HS9.out ?_
  case tq11=>(intro wq hq;obtain⟨q0,q1,q2⟩:=hq;go_simp;first | done | with_reducible rfl)
  refine wpAnyH_take (i:=12) (v:=?_) rfl (by kernel_rfl) (by kernel_rfl) (by kernel_rfl) (fun _ _ _ h=>h) (Or.inl ⟨by kernel_rfl,?tq12⟩) HS9.out ?_
  case tq12=>(intro wq hq;obtain⟨q0,q1,q2⟩:=hq;go_simp;first | done | with_reducible rfl)
  refine wpAnyH_take (i:=13) (v:=?_) rfl (by kernel_rfl) (by kernel_rfl) (by kernel_rfl) (fun _ _ _ h=>h) (Or.inl ⟨by kernel_rfl,?tq13⟩) HS9.out ?_
  case tq13=>(intro wq hq;obtain⟨q0,q1,q2⟩:=hq;go_simp;first | done | with_reducible rfl)
  refine wpAnyH_done (by kernel_rfl) ?_ _;refine NoPanic.normal ?_;obtain⟨eb,eo,rfl,_,c0,_⟩:=HE9.out 1 (by decide);have c0:w9.cell? ⟨eb,eo+2,none⟩=some (.int .i64 1):=c0;clear HE9 HS9 HENT3;go_wp2_with fail;refine(HPLAY.out _ HB9.out).mono ?_;rintro e w10 ⟨rfl,hb⟩;have HBB:=k_ (HB9.out.trans (hb.mono HB9.out.size));clear hb c0;go_wp2_with fail
  go_ret
  exact⟨rfl,HBB.out⟩
 ·go_simp
  obtain⟨Y1,hn⟩:∃ u,u=World.alloc Y (.cells #[.int .i64 0,.int .i64 0,.int .i64 0,.int .i64 0,.int .i64 0,.int .i64 0,.int .i64 0,.int .i64 0,.int .i64 0,.int .i64 0] 42):=⟨_,rfl⟩;have hcl:∀ (j:Nat) u,(#[Value.int .i64 0,.int .i64 0,.int .i64 0,.int .i64 0,.int .i64 0,.int .i64 0,.int .i64 0,.int .i64 0,.int .i64 0,.int .i64 0]:Array Value)[j]?=some u→(Y1).cell? ⟨(Y).heap.size,j,none⟩=some u:=fun j u hj=>by rw[hn,cell_new];exact hj
  have hbw:Below (Y).heap.size Y Y1:=by rw[hn];exact(Below.refl _ _).alloc (Nat.le_refl _) _
  obtain⟨nb,hnb⟩:∃ u,u=(Y).heap.size:=⟨_,rfl⟩;rw[← hnb] at hcl;rw[← hn,← hnb];have HCL:=k_ hcl;have HZ1:=k_ (HZD.out.trans (hbw.mono HZD.out.size));have HS1:=k_ (And.intro (below_cell hbw HSS.out.1) (And.intro (below_cell hbw HSS.out.2.1) (below_cell hbw HSS.out.2.2)));clear hn hcl hbw hnb;refine hK.out _ _ HS1.out (fun _=>?_);clear hK K;refine wpAnyH_ready (rs:=[1]) (by kernel_rfl) (by simp) ?_;refine(AllReadyH.cons rfl (fun K hK=>?_) AllReadyH.nil);go_simp;refine(plain_cfg Y1).mono ?_;rintro e Y2 ⟨rfl,hbw⟩;have HZ2:=k_ (HZ1.out.trans (hbw.mono HZ1.out.size));have HS2:=k_ (And.intro (below_cell hbw HS1.out.1) (And.intro (below_cell hbw HS1.out.2.1) (below_cell hbw HS1.out.2.2)));have HBW:=k_ hbw;clear hbw;refine hK.out _ _ HS2.out (fun _=>?_);clear hK K;have HCL2:=k_ (show ∀ (j:Nat) u,(#[Value.int .i64 0,.int .i64 0,.int .i64 0,.int .i64 0,.int .i64 0,.int .i64 0,.int .i64 0,.int .i64 0,.int .i64 0,.int .i64 0]:Array Value)[j]?=some u→Y2.cell? ⟨nb,j,none⟩=some u from fun j u hj=>below_cell HBW.out (HCL.out j u hj));have hes:EntSl Y2 (fun _=>True) (some ⟨nb,0,none⟩) l26:=fun j hj=>by
   have hj5:j<5:=hj;have h5:j=0∨j=1∨j=2∨j=3∨j=4:=by omega
   rcases h5 with rfl | rfl | rfl | rfl | rfl
   ·exact⟨_,_,rfl,trivial,HCL2.out 0 _ rfl,HCL2.out 1 _ rfl⟩
   ·exact⟨_,_,rfl,trivial,HCL2.out 2 _ rfl,HCL2.out 3 _ rfl⟩
   ·exact⟨_,_,rfl,trivial,HCL2.out 4 _ rfl,HCL2.out 5 _ rfl⟩
   ·exact⟨_,_,rfl,trivial,HCL2.out 6 _ rfl,HCL2.out 7 _ rfl⟩
   ·exact⟨_,_,rfl,trivial,HCL2.out 8 _ rfl,HCL2.out 9 _ rfl⟩
  have pk:=pack_any Y2 _ _ (pZ (-7)) cfgP l26 _ _ _ _ 5 (HZP.out.fr (Fr.of_below HZ2.out (fun _=>False)) (fun _ _ h=>h)) (fun k hk=>by have:=HZS.out;have:=HZ2.out.size;have hk:k<w2.heap.size+2:=hk;omega) (by decide) (by decide +kernel) (by decide) hes;rw[pack26] at pk;have HPK:=k_ pk;clear pk hes;refine wpAnyH_ready (rs:=[8]) (by kernel_rfl) (by simp) ?_;refine(AllReadyH.cons rfl (fun K hK=>?_) AllReadyH.nil);go_simp;refine HPK.out.mono ?_;rintro e w9 ⟨rfl,hbw⟩;have hs9:=And.intro (below_cell hbw HS2.out.1) (And.intro (below_cell hbw HS2.out.2.1) (below_cell hbw HS2.out.2.2));have HB9:=k_ (HB3.out.trans ((HZ2.out.trans (hbw.mono HZ2.out.size)).mono HB3.out.size));have HE9:=k_ ((HENT3.out.below' HZ2.out).below' hbw);have HS9:=k_ hs9;clear hbw hs9;refine hK.out _ _ HS9.out (fun _=>?_);clear hK K HPK;refine wpAnyH_take (i:=9) (v:=?_) rfl (by kernel_rfl) (by kernel_rfl) (by kernel_rfl) (fun _ _ _ h=>h) (Or.inl ⟨by kernel_rfl,?tq9⟩) HS9.out ?_
  case tq9=>(intro wq hq;obtain⟨q0,q1,q2⟩:=hq;go_simp;first | done | with_reducible rfl)
  refine wpAnyH_take (i:=10) (v:=?_) rfl (by kernel_rfl) (by kernel_rfl) (by kernel_rfl) (fun _ _ _ h=>h) (Or.inl ⟨by kernel_rfl,?tq10⟩) HS9.out ?_
  case tq10=>(intro wq hq;obtain⟨q0,q1,q2⟩:=hq;go_simp;first | done | with_reducible rfl)
  refine wpAnyH_take (i:=11) (v:=?_) rfl (by kernel_rfl) (by kernel_rfl) (by kernel_rfl) (fun _ _ _ h=>h) (Or.inl ⟨by kernel_rfl,?tq11⟩) HS9.out ?_
  case tq11=>(intro wq hq;obtain⟨q0,q1,q2⟩:=hq;go_simp;first | done | with_reducible rfl)
  refine wpAnyH_take (i:=12) (v:=?_) rfl (by kernel_rfl) (by kernel_rfl) (by kernel_rfl) (fun _ _ _ h=>h) (Or.inl ⟨by kernel_rfl,?tq12⟩) HS9.out ?_
  case tq12=>(intro wq hq;obtain⟨q0,q1,q2⟩:=hq;go_simp;first | done | with_reducible rfl)
  refine wpAnyH_take (i:=13) (v:=?_) rfl (by kernel_rfl) (by kernel_rfl) (by kernel_rfl) (fun _ _ _ h=>h) (Or.inl ⟨by kernel_rfl,?tq13⟩) HS9.out ?_
  case tq13=>(intro wq hq;obtain⟨q0,q1,q2⟩:=hq;go_simp;first | done | with_reducible rfl)
  refine wpAnyH_done (by kernel_rfl) ?_ _;refine NoPanic.normal ?_;obtain⟨eb,eo,rfl,_,c0,_⟩:=HE9.out 1 (by decide);have c0:w9.cell? ⟨eb,eo+2,none⟩=some (.int .i64 1):=c0;clear HE9 HS9 HENT3;go_wp2_with fail;refine(HPLAY.out _ HB9.out).mono ?_;rintro e w10 ⟨rfl,hb⟩;have HBB:=k_ (HB9.out.trans (hb.mono HB9.out.size));clear hb c0;go_wp2_with fail
  go_ret
  exact⟨rfl,HBB.out⟩
end Go.Proofs.YtbkkhmafheimfaaGreatDoor.Tk
