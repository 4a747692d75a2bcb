/- Walks: the handshake of a task and the coordinator. A machine as it lies in memory; what is asked of it. Walks: shape.Check, the .. -/
import Derived.Test.YtbkkhmafheimfaaGreatDoorWAg
set_option linter.unusedVariables false
set_option linter.unusedSimpArgs false
set_option maxRecDepth 100000
set_option maxHeartbeats 1600000
namespace Go.Proofs.YtbkkhmafheimfaaGreatDoor.Tk
open Go.ChangeShapes Go.WideShapes Go.ChangeAt Go.RowKit Go.Maps
def stepA (s g:Int):Int × Bool:=if s=0∧g=0 then (1,true) else if s=1∧g=1 then (2,true) else if s=1∧g=2 then (3,true) else if s=2∧g=3 then (0,true) else if s=3∧g=3 then (0,true) else (0,false)
abbrev I2:={ x:Int × Int // i64B x.1∧i64B x.2 }
theorem i64s (n:Int) (h:0≤n∧n≤100):i64B n:=by unfold i64B;omega
def i2 (a b:Int) (h:(0≤a∧a≤100)∧(0≤b∧b≤100)):I2:=⟨(a,b),i64s a h.1,i64s b h.2⟩
def tabA:List (Nat × I2 × Int):=[(2,i2 0 0 (by omega),1),(4,i2 1 1 (by omega),2),(6,i2 1 2 (by omega),3),(8,i2 2 3 (by omega),0),(10,i2 3 3 (by omega),0)]
theorem tabA_has {g:I2→Option Int} (h1:∀ x ∈ tabA,g x.2.1=some x.2.2) (h2:∀ k,(∀ x ∈ tabA,x.2.1≠k)→g k=none) (s d:Int) (hk:i64B s∧i64B d) :
  (g ⟨(s,d),hk⟩=some (stepA s d).1∧(stepA s d).2=true)∨(g ⟨(s,d),hk⟩=none∧stepA s d=(0,false)):=by
 have e:∀ x y:I2,x.1=y.1→x=y:=fun x y h=>Subtype.ext h
 by_cases c0:s=0∧d=0
 ·left
  have:=h1 _ (List.mem_cons_self ..);rw[show (⟨(s,d),hk⟩:I2)=i2 0 0 (by omega) from e _ _ (by show (s,d)=((0:Int),(0:Int));rw[c0.1,c0.2])];exact⟨by rw[this,c0.1,c0.2];rfl,by rw[c0.1,c0.2];rfl⟩
 by_cases c1:s=1∧d=1
 ·left
  have:=h1 _ (List.mem_cons_of_mem _ (List.mem_cons_self ..));rw[show (⟨(s,d),hk⟩:I2)=i2 1 1 (by omega) from e _ _ (by show (s,d)=((1:Int),(1:Int));rw[c1.1,c1.2])];exact⟨by rw[this,c1.1,c1.2];rfl,by rw[c1.1,c1.2];rfl⟩
 by_cases c2:s=1∧d=2
 ·left
  have:=h1 _ (List.mem_cons_of_mem _ (List.mem_cons_of_mem _ (List.mem_cons_self ..)));rw[show (⟨(s,d),hk⟩:I2)=i2 1 2 (by omega) from e _ _ (by show (s,d)=((1:Int),(2:Int));rw[c2.1,c2.2])];exact⟨by rw[this,c2.1,c2.2];rfl,by rw[c2.1,c2.2];rfl⟩
 by_cases c3:s=2∧d=3
 ·left
  have:=h1 _ (List.mem_cons_of_mem _ (List.mem_cons_of_mem _ (List.mem_cons_of_mem _ (List.mem_cons_self ..))));rw[show (⟨(s,d),hk⟩:I2)=i2 2 3 (by omega) from e _ _ (by show (s,d)=((2:Int),(3:Int));rw[c3.1,c3.2])];exact⟨by rw[this,c3.1,c3.2];rfl,by rw[c3.1,c3.2];rfl⟩
 by_cases c4:s=3∧d=3
 ·left
  have:=h1 _ (List.mem_cons_of_mem _ (List.mem_cons_of_mem _ (List.mem_cons_of_mem _ (List.mem_cons_of_mem _ (List.mem_cons_self ..)))));rw[show (⟨(s,d),hk⟩:I2)=i2 3 3 (by omega) from e _ _ (by show (s,d)=((3:Int),(3:Int));rw[c4.1,c4.2])];exact⟨by rw[this,c4.1,c4.2];rfl,by rw[c4.1,c4.2];rfl⟩
 right
 refine⟨h2 _ (fun x hx he=>?_),by unfold stepA;rw[if_neg c0,if_neg c1,if_neg c2,if_neg c3,if_neg c4]⟩;simp only[tabA,List.mem_cons,List.not_mem_nil,or_false] at hx;have hv:x.2.1.1=(s,d):=by rw[he]
 rcases hx with rfl | rfl | rfl | rfl | rfl <;> (simp only[i2,Prod.mk.injEq] at hv;omega)
theorem askStep_any (w:World) (s d:Int) (hk:i64B s∧i64B d) :
  Calls Tryz.prog 180 #[.int .i64 s,.int .i64 d] w fun e w'=>e=.returned (.tuple #[.int .i64 (stepA s d).1,.bool (stepA s d).2])∧Below w.heap.size w w':=by
 have hz:∀ w,(zeroValue 3).run Tryz.prog w=.ok (.int .i64 0) w:=fun w=>by kernel_rfl
 obtain⟨⟨r,is⟩,hr⟩:∃ r,r=stepA s d:=⟨_,rfl⟩;have hin:∀ g:I2→Option Int,(∀ x ∈ tabA,g x.2.1=some x.2.2)→(∀ k,(∀ x ∈ tabA,x.2.1≠k)→g k=none)→(g ⟨(s,d),hk⟩=some r∧is=true)∨(g ⟨(s,d),hk⟩=none∧r=0∧is=false):=fun g h1 h2=>by
  rcases tabA_has h1 h2 s d hk with⟨h3,h4⟩ | ⟨h3,h4⟩
  ·exact .inl ⟨by rw[h3,← hr],by rw[← h4,← hr]⟩
  ·rw[h4] at hr;injection hr with e1 e2;exact .inr ⟨h3,e1,e2⟩
 rw[← hr];have HIN:=k_ hin;clear hin hr
 go_enter Tryz.func180,Tryz.ntmps180
 go_upto_region 1 with fail
 refine wp_region_noPanic ?_;refine wp_region_held_drew (S:=fun w'=>Below w.heap.size w w') (by kernel_rfl) (Below.refl _ _).drew (fun _=>?_);have HR1:=k_ (Below.refl w.heap.size w).drew;have hs1:w.drew.heap.size=w.heap.size:=rfl;have HS1:=k_ hs1;clear hs1;generalize w.drew=r1 at *;refine wpAnyH_take (i:=1) (v:=?_) rfl (by kernel_rfl) (by kernel_rfl) (by kernel_rfl) (fun _ _ _ h=>h) (Or.inl ⟨by kernel_rfl,?tq1⟩) HR1.out ?_
 case tq1=>(intro wq hq;go_simp;first | done | with_reducible rfl)
 refine wpAnyH_take (i:=3) (v:=?_) rfl (by kernel_rfl) (by kernel_rfl) (by kernel_rfl) (fun _ _ _ h=>h) (Or.inl ⟨by kernel_rfl,?tq2⟩) HR1.out ?_
 case tq2=>(intro wq hq;go_simp;first | done | with_reducible rfl)
 refine wpAnyH_take (i:=5) (v:=?_) rfl (by kernel_rfl) (by kernel_rfl) (by kernel_rfl) (fun _ _ _ h=>h) (Or.inl ⟨by kernel_rfl,?tq3⟩) HR1.out ?_
 case tq3=>(intro wq hq;go_simp;first | done | with_reducible rfl)
 refine wpAnyH_take (i:=7) (v:=?_) rfl (by kernel_rfl) (by kernel_rfl) (by kernel_rfl) (fun _ _ _ h=>h) (Or.inl ⟨by kernel_rfl,?tq4⟩) HR1.out ?_
 case tq4=>(intro wq hq;go_simp;first | done | with_reducible rfl)
 refine wpAnyH_take (i:=9) (v:=?_) rfl (by kernel_rfl) (by kernel_rfl) (by kernel_rfl) (fun _ _ _ h=>h) (Or.inl ⟨by kernel_rfl,?tq5⟩) HR1.out ?_
 case tq5=>(intro wq hq;go_simp;first | done | with_reducible rfl)
 refine wpAnyH_ready (rs:=[0]) (by kernel_rfl) (by simp) ?_;refine(AllReadyH.cons rfl (fun K hK=>?_) AllReadyH.nil);go_simp;have hb2:Below w.heap.size w (r1.alloc (.map #[] 0)):=HR1.out.alloc HR1.out.size _;refine hK.out _ _ hb2 (fun _=>?_);clear hK K;refine inserts_go (K:=prK) (val:=Value.int .i64) Tryz.underlying315 _ r1.heap.size (fun w'=>Below w.heap.size w w') (fun _ h=>h) (fun w1 w2 h1 h2=>h1.trans ((turned_fr h2).below (N:=w.heap.size) h1.size (fun q hq=>by have:=HS1.out;have hq:q=r1.heap.size:=hq;omega))) 2 5 tabA rfl _ _ (by kernel_rfl) (fun x hx=>?_) (by decide) (by decide) (by kernel_rfl) (MapIs.made prK _ r1) (by decide) hb2 (fun w3 n g hn hm h1 h2 hb3=>?_)
 ·simp only[tabA,List.mem_cons,List.not_mem_nil,or_false] at hx
  rcases hx with rfl | rfl | rfl | rfl | rfl <;> exact⟨⟨_,_,_,rfl,rfl,rfl,rfl⟩,trivial⟩
 have hlk:=HIN.out g h1 h2;have HM:=k_ hm;have HB3:=k_ hb3;clear hm h1 h2 hb3;refine wpAnyH_take (i:=11) (v:=?_) rfl (by kernel_rfl) (by kernel_rfl) (by kernel_rfl) (fun _ _ _ h=>h) (Or.inl ⟨by kernel_rfl,?tq6⟩) HB3.out ?_
 case tq6=>(intro wq hq;go_simp;first | done | with_reducible rfl)
 refine wpAnyH_take (i:=12) (v:=?_) rfl (by kernel_rfl) (by kernel_rfl) (by kernel_rfl) (fun _ _ _ h=>h) (Or.inl ⟨by kernel_rfl,?tq7⟩) HB3.out ?_
 case tq7=>(intro wq hq;go_simp;first | done | with_reducible rfl)
 refine wpAnyH_done (by kernel_rfl) ?_ _;refine NoPanic.normal ?_
 rcases hlk with⟨hg,rfl⟩ | ⟨hg,rfl,rfl⟩
 ·go_wp2_with (refine look_some_ok rfl (.tmp 17) (.tmp 20) 315 3 rfl HM.out Tryz.underlying315 (hz _) ⟨(s,d),hk⟩ trivial rfl rfl _ hg ?_)
  go_ret2
  exact⟨rfl,HB3.out⟩
 ·go_wp2_with (refine look_none_ok rfl (.tmp 17) (.tmp 20) 315 3 rfl HM.out Tryz.underlying315 (hz _) ⟨(s,d),hk⟩ trivial rfl rfl hg ?_)
  go_ret2
  exact⟨rfl,HB3.out⟩
def takeA (s g:Int):Int × Bool:=(if (stepA s g).2 then (stepA s g).1 else s,(stepA s g).2)
theorem handTake_any (w:World) (s:Int) (b:Bool) (g:Int) (hk:i64B s∧i64B g) :
  Calls Tryz.prog 113 #[.agg #[.int .i64 s,.bool b],.int .i64 g] w fun e w'=>e=.returned (.tuple #[.agg #[.int .i64 (takeA s g).1,.bool b],.bool (takeA s g).2])∧Below w.heap.size w w':=by
 have st:=fun w=>askStep_any w s g hk
 unfold takeA;generalize (stepA s g).1=r at *;generalize (stepA s g).2=is at *;clear hk;have hb0:=((Below.refl w.heap.size w).alloc (Nat.le_refl _) (.cells #[.int .i64 s,.bool b] 158));have hb1:=hb0.alloc hb0.size (.cells #[.int .i64 0,.bool false] 158);have hr0:=row_alloc (heap_new w (.cells #[.int .i64 s,.bool b] 158)) (.cells #[.int .i64 0,.bool false] 158);have hr1:=heap_new (w.alloc (.cells #[.int .i64 s,.bool b] 158)) (.cells #[.int .i64 0,.bool false] 158);obtain⟨W,hW⟩:∃ W,W=(w.alloc (.cells #[.int .i64 s,.bool b] 158)).alloc (.cells #[.int .i64 0,.bool false] 158):=⟨_,rfl⟩;rw[← hW] at hb1 hr0 hr1;obtain⟨z0,hz0⟩:∃ z0,z0=w.heap.size:=⟨_,rfl⟩;obtain⟨z1,hz1⟩:∃ z1,z1=w.heap.size+1:=⟨_,rfl⟩;rw[show (w.alloc (.cells #[.int .i64 s,.bool b] 158)).heap.size=z1 from by rw[hz1];simp] at hr1;rw[← hz0] at hr0;have hne:¬ z0=z1:=by omega
 have hne':¬ z1=z0:=by omega
 have HW:=k_ hW;have HZ0:=k_ hz0;have HZ1:=k_ hz1;clear hb0 hW hz0 hz1;have HB1:=k_ hb1;clear hb1;have HR0:=k_ hr0;clear hr0;have HR1:=k_ hr1;clear hr1;have ST:=k_ st;clear st
 go_enter Tryz.func113,Tryz.ntmps113
 go_upto_region 1 with fail
 rw[← HW.out,← HZ1.out,← HZ0.out];have k0:=(row_cell ((Fr.of_below (Below.refl _ _) (fun _=>False)).heap HR0.out (fun h=>h)) 0).1;have k1:=(row_cell ((Fr.of_below (Below.refl _ _) (fun _=>False)).heap HR0.out (fun h=>h)) 1).1;have f0:=(row_cell ((Fr.of_below (Below.refl _ _) (fun _=>False)).heap HR0.out (fun h=>h)) 0).2;have f1:=(row_cell ((Fr.of_below (Below.refl _ _) (fun _=>False)).heap HR0.out (fun h=>h)) 1).2;have l0:=(row_cell ((Fr.of_below (Below.refl _ _) (fun _=>False)).heap HR1.out (fun h=>h)) 0).1;have l1:=(row_cell ((Fr.of_below (Below.refl _ _) (fun _=>False)).heap HR1.out (fun h=>h)) 1).1;have g0:=(row_cell ((Fr.of_below (Below.refl _ _) (fun _=>False)).heap HR1.out (fun h=>h)) 0).2;have g1:=(row_cell ((Fr.of_below (Below.refl _ _) (fun _=>False)).heap HR1.out (fun h=>h)) 1).2;simp only[List.getElem?_toArray,List.getElem?_cons_zero,List.getElem?_cons_succ] at k0 k1 l0 l1;go_wp2_with fail;refine(ST.out _).mono ?_;rintro e w1 ⟨rfl,hb⟩;clear k0 k1 l0 l1 f0 f1 g0 g1;have k0:=(row_cell ((Fr.of_below hb (fun _=>False)).heap HR0.out (fun h=>h)) 0).1;have k1:=(row_cell ((Fr.of_below hb (fun _=>False)).heap HR0.out (fun h=>h)) 1).1;have f0:=(row_cell ((Fr.of_below hb (fun _=>False)).heap HR0.out (fun h=>h)) 0).2;have f1:=(row_cell ((Fr.of_below hb (fun _=>False)).heap HR0.out (fun h=>h)) 1).2;have l0:=(row_cell ((Fr.of_below hb (fun _=>False)).heap HR1.out (fun h=>h)) 0).1;have l1:=(row_cell ((Fr.of_below hb (fun _=>False)).heap HR1.out (fun h=>h)) 1).1;have g0:=(row_cell ((Fr.of_below hb (fun _=>False)).heap HR1.out (fun h=>h)) 0).2;have g1:=(row_cell ((Fr.of_below hb (fun _=>False)).heap HR1.out (fun h=>h)) 1).2;simp only[List.getElem?_toArray,List.getElem?_cons_zero,List.getElem?_cons_succ] at k0 k1 l0 l1;have HB:=k_ (HB1.out.trans (hb.mono HB1.out.size));have hr1:=(Fr.of_below hb (fun _=>False)).heap HR1.out (fun h=>h);have hle0:w.heap.size≤z0:=Nat.le_of_eq HZ0.out.symm;have hle1:w.heap.size≤z1:=by have:=HZ1.out;omega
 cases is
 ·have hf:Fr (fun k=>k=z1) w1 _:=((Fr.refl (fun k=>k=z1) w1).setCell (p:=⟨z1,0,none⟩) (fun _=>rfl) (.int .i64 s)).setCell (p:=⟨z1,1,none⟩) (fun _=>rfl) (.bool b)
  have hb2:=HB.out.trans (hf.below HB.out.size (fun k hk=>by have hk:k=z1:=hk;omega));have hrs:=row_set (row_set hr1 0 (.int .i64 s)) 1 (.bool b);have HB2:=k_ hb2;clear hb2;have HRS:=k_ hrs;clear hrs;clear hf hr1;go_wp2_with fail;refine bodyPost_ret ?_ rfl (And.intro rfl HB2.out);have q0:=(row_cell HRS.out 0).1;have q1:=(row_cell HRS.out 1).1
  simp at q0 q1
  simp[results,Tryz.results113,go_sem,q0,q1]
 ·have hf:Fr (fun k=>k=z0∨k=z1) w1 _:=(((Fr.refl (fun k=>k=z0∨k=z1) w1).setCell (p:=⟨z0,0,none⟩) (fun _=>.inl rfl) (.int .i64 r)).setCell (p:=⟨z1,0,none⟩) (fun _=>.inr rfl) (.int .i64 r)).setCell (p:=⟨z1,1,none⟩) (fun _=>.inr rfl) (.bool b)
  have hb2:=HB.out.trans (hf.below HB.out.size (fun k hk=>by rcases hk with h | h <;> omega));have hra:=((Fr.refl (fun k=>k=z0) w1).setCell (p:=⟨z0,0,none⟩) (fun _=>rfl) (.int .i64 r)).heap hr1 hne';have hrs:=row_set (row_set hra 0 (.int .i64 r)) 1 (.bool b);have HB2:=k_ hb2;clear hb2;have HRS:=k_ hrs;clear hrs;clear hf hr1 hra;go_wp2_with fail;refine bodyPost_ret ?_ rfl (And.intro rfl HB2.out);have q0:=(row_cell HRS.out 0).1;have q1:=(row_cell HRS.out 1).1
  simp at q0 q1
  simp[results,Tryz.results113,go_sem,q0,q1]
def reachA (s:Int) (a:Bool):Int × Bool:=if a then takeA s 1 else (s,false)
theorem reach_any (w:World) (s:Int) (b a:Bool) (hk:i64B s) :
  Calls Tryz.prog 67 #[.agg #[.int .i64 s,.bool b],.bool a] w fun e w'=>e=.returned (.tuple #[.agg #[.int .i64 (reachA s a).1,.bool b],.bool (reachA s a).2])∧Below w.heap.size w w':=by
 have st:=fun w=>handTake_any w s b 1 ⟨hk,by unfold i64B;omega⟩
 clear hk;have hb0:=((Below.refl w.heap.size w).alloc (Nat.le_refl _) (.cells #[.int .i64 s,.bool b] 158));have hb1:=hb0.alloc hb0.size (.cells #[.int .i64 0,.bool false] 158);have hr0:=row_alloc (heap_new w (.cells #[.int .i64 s,.bool b] 158)) (.cells #[.int .i64 0,.bool false] 158);have hr1:=heap_new (w.alloc (.cells #[.int .i64 s,.bool b] 158)) (.cells #[.int .i64 0,.bool false] 158);obtain⟨W,hW⟩:∃ W,W=(w.alloc (.cells #[.int .i64 s,.bool b] 158)).alloc (.cells #[.int .i64 0,.bool false] 158):=⟨_,rfl⟩;rw[← hW] at hb1 hr0 hr1;obtain⟨z0,hz0⟩:∃ z0,z0=w.heap.size:=⟨_,rfl⟩;obtain⟨z1,hz1⟩:∃ z1,z1=w.heap.size+1:=⟨_,rfl⟩;rw[show (w.alloc (.cells #[.int .i64 s,.bool b] 158)).heap.size=z1 from by rw[hz1];simp] at hr1;rw[← hz0] at hr0;have hne:¬ z0=z1:=by omega
 have hne':¬ z1=z0:=by omega
 have HW:=k_ hW;have HZ0:=k_ hz0;have HZ1:=k_ hz1;clear hb0 hW hz0 hz1;have HB1:=k_ hb1;clear hb1;have HR0:=k_ hr0;clear hr0;have HR1:=k_ hr1;clear hr1;have ST:=k_ st;clear st;have hle1:w.heap.size≤z1:=by have:=HZ1.out;omega
 cases a
 ·unfold reachA
  simp only[Bool.false_eq_true,if_false]
  go_enter Tryz.func67,Tryz.ntmps67
  go_upto_region 1 with fail
  rw[← HW.out,← HZ1.out,← HZ0.out];have k0:=(row_cell ((Fr.of_below (Below.refl _ _) (fun _=>False)).heap HR0.out (fun h=>h)) 0).1;have k1:=(row_cell ((Fr.of_below (Below.refl _ _) (fun _=>False)).heap HR0.out (fun h=>h)) 1).1;have f0:=(row_cell ((Fr.of_below (Below.refl _ _) (fun _=>False)).heap HR0.out (fun h=>h)) 0).2;have f1:=(row_cell ((Fr.of_below (Below.refl _ _) (fun _=>False)).heap HR0.out (fun h=>h)) 1).2;have l0:=(row_cell ((Fr.of_below (Below.refl _ _) (fun _=>False)).heap HR1.out (fun h=>h)) 0).1;have l1:=(row_cell ((Fr.of_below (Below.refl _ _) (fun _=>False)).heap HR1.out (fun h=>h)) 1).1;have g0:=(row_cell ((Fr.of_below (Below.refl _ _) (fun _=>False)).heap HR1.out (fun h=>h)) 0).2;have g1:=(row_cell ((Fr.of_below (Below.refl _ _) (fun _=>False)).heap HR1.out (fun h=>h)) 1).2;simp only[List.getElem?_toArray,List.getElem?_cons_zero,List.getElem?_cons_succ] at k0 k1 l0 l1;have hf:Fr (fun k=>k=z1) W _:=((Fr.refl (fun k=>k=z1) W).setCell (p:=⟨z1,0,none⟩) (fun _=>rfl) (.int .i64 s)).setCell (p:=⟨z1,1,none⟩) (fun _=>rfl) (.bool b);have hb2:=HB1.out.trans (hf.below HB1.out.size (fun k hk=>by have hk:k=z1:=hk;omega));have hrs:=row_set (row_set HR1.out 0 (.int .i64 s)) 1 (.bool b);have HB2:=k_ hb2;clear hb2;have HRS:=k_ hrs;clear hrs;clear hf;go_wp2_with fail;refine bodyPost_ret ?_ rfl (And.intro rfl HB2.out);have q0:=(row_cell HRS.out 0).1;have q1:=(row_cell HRS.out 1).1
  simp at q0 q1
  simp[results,Tryz.results67,go_sem,q0,q1]
 ·unfold reachA
  simp only[if_true];generalize (takeA s 1).1=r at *;generalize (takeA s 1).2=is at *
  go_enter Tryz.func67,Tryz.ntmps67
  go_upto_region 1 with fail
  rw[← HW.out,← HZ1.out,← HZ0.out];have k0:=(row_cell ((Fr.of_below (Below.refl _ _) (fun _=>False)).heap HR0.out (fun h=>h)) 0).1;have k1:=(row_cell ((Fr.of_below (Below.refl _ _) (fun _=>False)).heap HR0.out (fun h=>h)) 1).1;have f0:=(row_cell ((Fr.of_below (Below.refl _ _) (fun _=>False)).heap HR0.out (fun h=>h)) 0).2;have f1:=(row_cell ((Fr.of_below (Below.refl _ _) (fun _=>False)).heap HR0.out (fun h=>h)) 1).2;have l0:=(row_cell ((Fr.of_below (Below.refl _ _) (fun _=>False)).heap HR1.out (fun h=>h)) 0).1;have l1:=(row_cell ((Fr.of_below (Below.refl _ _) (fun _=>False)).heap HR1.out (fun h=>h)) 1).1;have g0:=(row_cell ((Fr.of_below (Below.refl _ _) (fun _=>False)).heap HR1.out (fun h=>h)) 0).2;have g1:=(row_cell ((Fr.of_below (Below.refl _ _) (fun _=>False)).heap HR1.out (fun h=>h)) 1).2;simp only[List.getElem?_toArray,List.getElem?_cons_zero,List.getElem?_cons_succ] at k0 k1 l0 l1;go_wp2_with fail;refine(ST.out _).mono ?_;rintro e w1 ⟨rfl,hb⟩;clear k0 k1 l0 l1 f0 f1 g0 g1;have k0:=(row_cell ((Fr.of_below hb (fun _=>False)).heap HR0.out (fun h=>h)) 0).1;have k1:=(row_cell ((Fr.of_below hb (fun _=>False)).heap HR0.out (fun h=>h)) 1).1;have f0:=(row_cell ((Fr.of_below hb (fun _=>False)).heap HR0.out (fun h=>h)) 0).2;have f1:=(row_cell ((Fr.of_below hb (fun _=>False)).heap HR0.out (fun h=>h)) 1).2;have l0:=(row_cell ((Fr.of_below hb (fun _=>False)).heap HR1.out (fun h=>h)) 0).1;have l1:=(row_cell ((Fr.of_below hb (fun _=>False)).heap HR1.out (fun h=>h)) 1).1;have g0:=(row_cell ((Fr.of_below hb (fun _=>False)).heap HR1.out (fun h=>h)) 0).2;have g1:=(row_cell ((Fr.of_below hb (fun _=>False)).heap HR1.out (fun h=>h)) 1).2;simp only[List.getElem?_toArray,List.getElem?_cons_zero,List.getElem?_cons_succ] at k0 k1 l0 l1;have HB:=k_ (HB1.out.trans (hb.mono HB1.out.size));have hr1:=(Fr.of_below hb (fun _=>False)).heap HR1.out (fun h=>h);have hf:Fr (fun k=>k=z1) w1 _:=((Fr.refl (fun k=>k=z1) w1).setCell (p:=⟨z1,0,none⟩) (fun _=>rfl) (.int .i64 r)).setCell (p:=⟨z1,1,none⟩) (fun _=>rfl) (.bool b);have hb2:=HB.out.trans (hf.below HB.out.size (fun k hk=>by have hk:k=z1:=hk;omega));have hrs:=row_set (row_set hr1 0 (.int .i64 r)) 1 (.bool b);have HB2:=k_ hb2;clear hb2;have HRS:=k_ hrs;clear hrs;clear hf hr1;go_wp2_with fail;refine bodyPost_ret ?_ rfl (And.intro rfl HB2.out);have q0:=(row_cell HRS.out 0).1;have q1:=(row_cell HRS.out 1).1
  simp at q0 q1
  simp[results,Tryz.results67,go_sem,q0,q1]
theorem may_hand (w:World) (s:Int) (b:Bool) :
  Calls Tryz.prog 66 #[.agg #[.int .i64 s,.bool b]] w fun e w'=>e=.returned (.bool (decide (s=0∨s=1)))∧Below w.heap.size w w':=by
 by_cases h0:s=0
 ·subst h0
  go_enter Tryz.func66,Tryz.ntmps66
  go_wp2_with fail
  go_ret
  exact⟨rfl,(Below.refl _ _).alloc (Nat.le_refl _) _⟩
 ·by_cases h1:s=1
  ·subst h1
   go_enter Tryz.func66,Tryz.ntmps66
   go_wp2_with fail
   go_ret
   exact⟨rfl,(Below.refl _ _).alloc (Nat.le_refl _) _⟩
  ·have d1:(s == 0)=false:=by rw[beq_eq_false_iff_ne];exact h0
   have d2:(s == 1)=false:=by rw[beq_eq_false_iff_ne];exact h1
   rw[decide_eq_false (by omega)]
   go_enter Tryz.func66,Tryz.ntmps66
   go_wp2_with fail
   go_ret
   exact⟨by rfl,(Below.refl _ _).alloc (Nat.le_refl _) _⟩
structure WoD where (c0 c1 c2:Value) (n3 n4 n5 n6 n7:Int) (mb hb pb:Nat) (br ph cy si:Int) (tk hd gl ot:Value) (sr st cd:Int)
def WoD.cells (X:WoD):Array Value:=#[X.c0,X.c1,X.c2,.int .i64 X.n3,.int .i64 X.n4,.int .i64 X.n5,.int .i64 X.n6,.int .i64 X.n7,.pointer (some ⟨X.mb,0,none⟩),.pointer (some ⟨X.hb,0,none⟩),.pointer (some ⟨X.pb,0,none⟩),.int .u64 X.br,.int .i64 X.ph,.int .i64 X.cy,.int .i64 X.si,X.tk,X.hd,X.gl,X.ot,.int .i64 X.sr,.int .i64 X.st,.int .i64 X.cd]
def WoAt (w:World) (wb:Nat) (X:WoD):Prop:=w.heap[wb]?=some (.cells X.cells 112)
theorem WoAt.fr {F:Nat→Prop} {w w':World} {wb:Nat} {X:WoD} (h:WoAt w wb X) (hf:Fr F w w') (hn:¬ F wb):WoAt w' wb X:=hf.heap h hn
theorem WoAt.below {w w':World} {wb:Nat} {X:WoD} (h:WoAt w wb X) (hb:Below w.heap.size w w'):WoAt w' wb X:=h.fr (Fr.of_below hb (fun _=>False)) (fun h=>h)
theorem WoAt.lt {w:World} {wb:Nat} {X:WoD} (h:WoAt w wb X):wb<w.heap.size:=by
 rcases Nat.lt_or_ge wb w.heap.size with h1 | h1
 ·exact h1
 ·unfold WoAt at h;rw[Array.getElem?_eq_none h1] at h;cases h
theorem WoAt.cell {w:World} {wb:Nat} {X:WoD} (h:WoAt w wb X) (j:Nat):w.cell? ⟨wb,j,none⟩=X.cells[j]?∧w.frozen? ⟨wb,j,none⟩=false:=row_cell h j
theorem next_any (w:World) (wb:Nat) (X:WoD) (h:WoAt w wb X) (hs:0≤X.sr∧X.sr≤1000000) :
  Calls Tryz.prog 65 #[.pointer (some ⟨wb,0,none⟩)] w fun e w'=>e=.returned (.int .i64 X.sr)∧WoAt w' wb { X with sr:=X.sr+1 }∧Fr (fun k=>k=wb) w w':=by
 have f:=(h.cell 19).2;have c:w.cell? ⟨wb,19,none⟩=some (.int .i64 X.sr):=(h.cell 19).1;obtain⟨s,hs1⟩:∃ s,s=X.sr:=⟨_,rfl⟩;obtain⟨s1,hs2⟩:∃ s1,s1=s+1:=⟨_,rfl⟩;have i1:IntKind.i64.wrap (s+1)=s1:=by rw[hs2];exact IntWalk.i64_in _ (by omega)
 have i2:IntKind.i64.wrap (s1 - 1)=s:=by rw[show s1 - 1=s from by omega];exact IntWalk.i64_in _ (by omega)
 have hf:Fr (fun k=>k=wb) w (w.setCell ⟨wb,19,none⟩ (.int .i64 s1)):=(Fr.refl (fun k=>k=wb) w).setCell (p:=⟨wb,19,none⟩) (fun _=>rfl) _;have hr:WoAt (w.setCell ⟨wb,19,none⟩ (.int .i64 s1)) wb { X with sr:=s+1 }:=by rw[← hs2];exact row_set h 19 (.int .i64 s1)
 rw[← hs1] at c ⊢;have HP:=k_ (And.intro hr hf);clear hr hf hs2 hs1 hs h
 go_enter Tryz.func65,Tryz.ntmps65
 go_wp2_with fail
 go_ret
 exact⟨rfl,HP.out⟩
theorem none_any (w:World) (wb:Nat) (X:WoD) (h:WoAt w wb X) :
  Calls Tryz.prog 40 #[.pointer (some ⟨wb,0,none⟩)] w fun e w'=>e=.returned (.bool false)∧w=w':=by
 have c:w.cell? ⟨wb,9,none⟩=some (.pointer (some ⟨X.hb,0,none⟩)):=(h.cell 9).1;clear h
 go_enter Tryz.func40,Tryz.ntmps40
 go_wp2_with fail
 go_ret
 exact⟨rfl,rfl⟩
theorem status_any (w:World) (wb:Nat) (X:WoD) (h:WoAt w wb X) :
  Calls Tryz.prog 26 #[.pointer (some ⟨wb,0,none⟩)] w fun e w'=>e=.returned (.int .i64 X.st)∧w=w':=by
 have nn:=none_any w wb X h;have c:w.cell? ⟨wb,20,none⟩=some (.int .i64 X.st):=(h.cell 20).1;clear h;have NN:=k_ nn;clear nn
 go_enter Tryz.func26,Tryz.ntmps26
 go_wp2_with fail;refine NN.out.mono ?_;rintro e w1 ⟨rfl,rfl⟩;go_wp2_with fail
 go_ret
 exact⟨rfl,rfl⟩
end Go.Proofs.YtbkkhmafheimfaaGreatDoor.Tk
namespace Go.Proofs.YtbkkhmafheimfaaGreatDoor
open Go.ChangeShapes Go.WideShapes Go.ChangeAt Go.RowKit Go.Maps
def ShOk (l:List (List Int)) (k:Nat):Prop:=∀ j,j<k→shErr l.length (l[j]?.getD [])=0
theorem shapes_hit (l:List (List Int)) (h16:¬ 16<l.length) (i:Nat) (hi:i<l.length) (hp:ShOk l i) (hne:shErr l.length l[i]≠0):shapesErr l=shErr l.length l[i]:=by
 unfold shapesErr;rw[if_neg h16];have e:shErr l.length (l[i]?.getD [])=shErr l.length l[i]:=by simp[hi]
 rw[firstAt_hit (k:=i) hi hp (by rw[e];exact hne),e]
theorem shapes_zero (l:List (List Int)) (h16:¬ 16<l.length) (hp:ShOk l l.length):shapesErr l=0:=by
 unfold shapesErr;rw[if_neg h16,firstAt_none hp]
theorem shOk_succ (l:List (List Int)) (k:Nat) (hk:k<l.length) (hp:ShOk l k) (h:shErr l.length l[k]=0):ShOk l (k+1):=fun j hj=>by
 by_cases he:j=k
 ·subst he
  simpa[hk] using h
 ·exact hp j (by omega)
theorem shErr_len {n:Nat} {x:List Int} (h:x.length<1∨16<x.length):shErr n x=1:=if_pos h
theorem shErr_no {n:Nat} {x:List Int} (h:¬ (x.length<1∨16<x.length)) (h2:x.all (fieldB · n)=false):shErr n x=3:=by unfold shErr;rw[if_neg h,if_neg (by rw[h2];simp)]
theorem shErr_ok {n:Nat} {x:List Int} (h:¬ (x.length<1∨16<x.length)) (h2:x.all (fieldB · n)=true):shErr n x=0:=by unfold shErr;rw[if_neg h,if_pos h2]
theorem allF_take {P:Int→Bool} {l:List Int} {k:Nat} (hk:k<l.length) (h:(l.take k).all P=true):(l.take (k+1)).all P=P l[k]:=by
 rw[take_snoc l k hk,List.all_append,h]
 simp
theorem allF_no {P:Int→Bool} {l:List Int} {k:Nat} (hk:k<l.length) (h:P l[k]=false):l.all P=false:=by
 rw[List.all_eq_false];exact⟨l[k],List.getElem_mem hk,by simp[h]⟩
theorem shapeCheck_any (w:World) (D:Nat→Prop) (hD:∀ k,D k→k<w.heap.size) (a:Option Addr) (l:List (List Int)) (c:Nat) (hl:ShSl w D a l) (hbd:∀ s ∈ l,∀ x ∈ s,i64B x) (hn:l.length≤3000) (hne:∀ s ∈ l,s.length≤3000) :
  Calls Tryz.prog 62 #[.slice a l.length c] w fun e w'=>e=.returned (.int .i64 (shapesErr l))∧Below w.heap.size w w':=by
 by_cases h16:16<l.length
 ·rw[show shapesErr l=1 from if_pos h16]
  have h17:(16:Int)<l.length:=by omega
  go_enter Tryz.func62,Tryz.ntmps62
  go_wp2_with fail
  go_ret
  exact⟨rfl,Below.refl _ _⟩
 have h17:¬ (16:Int)<l.length:=by omega
 obtain⟨E,hE⟩:∃ E,E=shapesErr l:=⟨_,rfl⟩;rw[← hE];have HIT:=fun i hi hp hne=>k_ (shapes_hit l h16 i hi hp hne)
 have OKK:=k_ (shapes_zero l h16);have kn:=kinds_any w l.length false (by omega);have hls:∀ wr,Below w.heap.size w wr→ShSl wr D a l:=fun wr h=>hl.fr (Fr.of_below h (fun _=>False)) (fun _ _ h=>h)
 have ht:Tryz.prog.underlying 207=some (.map intK.k 3):=Tryz.underlying207;have HE:=k_ hE;clear h16 hE hl;have HLS:=k_ hls;clear hls;have KN:=k_ kn;clear kn;have HT:=k_ ht;clear ht;have HNE:=k_ hne;clear hne;have HBD:=k_ hbd;clear hbd;have HD:=k_ hD;clear hD
 go_enter Tryz.func62,Tryz.ntmps62
 go_wp2_with fail;refine KN.out.mono ?_;rintro e w1 ⟨b,m,rfl,hm,hbb,hB⟩;have hm:∀ wr,Below w1.heap.size w1 wr→IntMap wr b m (kindsF l.length false):=fun wr h=>hm.below h
 have hB1:∀ wr,Below w1.heap.size w1 wr→Below w.heap.size w wr:=fun wr h=>hB.trans (h.mono hB.size)
 have HM:=k_ hm;clear hm;have HB:=k_ hB;clear hB;have HB1:=k_ hB1;clear hB1;go_wp2_with fail
 go_loopw [16] (fun i wr=>∃ k:Nat,k≤l.length∧i=.int .i64 k∧Below w1.heap.size w1 wr∧ShOk l k) (fun i _=>l.length - (intOf i).toNat)
 case atStart=>exact⟨0,Nat.zero_le _,rfl,Below.refl _ _,fun j hj=>absurd hj (by omega)⟩
 case round =>
  obtain⟨k,hk,rfl,hR,hall⟩:=hrel;generalize wr=wo at *
  by_cases hlt:k<l.length
  ·obtain⟨b0,o,rfl,_,a',c',hcell,hints⟩:=HLS.out wo (HB1.out wo hR) k hlt
   have hints:∀ wz,Below wo.heap.size wo wz→IntSl wz D a' l[k]:=fun wz h=>hints.fr (Fr.of_below h (fun _=>False)) (fun _ _ h=>h)
   have hx:=HNE.out l[k] (List.getElem_mem hlt);have hbx:=HBD.out l[k] (List.getElem_mem hlt);have hit:=fun hne=>(HIT k hlt hall hne).out
   have suc:=shOk_succ l k hlt hall;generalize l[k]=x at *;have hx0:(x.length:Int)≤3000:=by omega
   have hR2:∀ wz,Below (wo.heap.size+1) (wo.alloc (.cells #[.slice a' x.length c'] 73)) wz→Below w1.heap.size w1 wz:=fun wz h=>(hR.alloc hR.size _).trans (h.mono (by have:=hR.size;omega))
   have hR2':∀ wz,Below (wo.heap.size+1) (wo.alloc (.cells #[.slice a' x.length c'] 73)) wz→Below wo.heap.size wo wz:=fun wz h=>((Below.refl _ _).alloc (Nat.le_refl _) _).trans (h.mono (by omega))
   have hf0:=Below.refl (wo.heap.size+1) (wo.alloc (.cells #[.slice a' x.length c'] 73))
   by_cases c1:(x.length:Int)<1
   ·have e:=HE.out
    have e1:shErr l.length x=1:=shErr_len (by omega);rw[hit (by rw[e1];decide),e1] at e;subst e;have hbf:=HB1.out _ (hR2 _ hf0);clear hit suc hall hints e1 hR hR2 hR2' hf0 hbx;have HBF:=k_ hbf;clear hbf;go_wp2_with fail
    go_ret
    exact⟨rfl,HBF.out⟩
   by_cases c2:(16:Int)<x.length
   ·have e:=HE.out
    have e1:shErr l.length x=1:=shErr_len (by omega);rw[hit (by rw[e1];decide),e1] at e;subst e;have hbf:=HB1.out _ (hR2 _ hf0);clear hit suc hall hints e1 hR hR2 hR2' hf0 hbx;have HBF:=k_ hbf;clear hbf;go_wp2_with fail
    go_ret
    exact⟨rfl,HBF.out⟩
   have hno:=fun h=>shErr_no (n:=l.length) (x:=x) (by omega) h
   have hyes:=fun h=>shErr_ok (n:=l.length) (x:=x) (by omega) h
   have hbw2:=HB1.out _ (hR2 _ hf0);have hrr:=hR2 _ hf0;have hm2:=HM.out _ hrr;have hints:=hints _ (hR2' _ hf0);clear hR2 hR2' hf0;have HIT:=k_ hit;clear hit;have SUC:=k_ suc;clear suc;have HNO:=k_ hno;clear hno;have HYES:=k_ hyes;clear hyes;have HINTS:=k_ hints;clear hints;have HR:=k_ hR;clear hR;have HBW2:=k_ hbw2;clear hbw2;have HRR:=k_ hrr;clear hrr;have HM2:=k_ hm2;clear hm2;have HBX:=k_ hbx;clear hbx;have HALL:=k_ hall;clear hall;go_wp2_with fail
   go_loopw [33] (fun i wz=>∃ q:Nat,q≤x.length∧i=.int .i64 q∧wz=wo.alloc (.cells #[.slice a' x.length c'] 73)∧(x.take q).all (fieldB · l.length)=true) (fun i _=>x.length - (intOf i).toNat)
   case atStart=>exact⟨0,Nat.zero_le _,rfl,by first | rfl | trivial,rfl⟩
   case round =>
    obtain⟨q,hq,rfl,hwz,hall⟩:=hrel;have HWZ:=k_ hwz;clear hwz
    by_cases hlq:q<x.length
    ·obtain⟨b',o',rfl,_,hy⟩:=HINTS.out q hlq
     have hy:wr.cell? ⟨b',o'+q,none⟩=some (.int .i64 x[q]):=by rw[HWZ.out];exact hy
     have hsn:=allF_take hlq hall;have hn2:=allF_no (P:=(fieldB · l.length)) hlq
     try dsimp only at hsn hn2
     have hyb:=HBX.out x[q] (List.getElem_mem hlq);generalize x[q]=y at *;have hm3:IntMap wr b m (kindsF l.length false):=by rw[HWZ.out];exact HM2.out
     cases hf:fieldB y l.length
     ·have e1:=HNO.out (hn2 hf)
      have e:=HE.out;rw[HIT.out (by rw[e1];decide),e1] at e;subst e;have hkf:kindsF l.length false y=none:=by
       have:=field_kinds y l.length;rw[hf] at this
       cases hh:kindsF l.length false y with
       | none=>rfl
       | some v=>rw[hh] at this;cases this
      have hbw3:Below w.heap.size w wr:=by rw[HWZ.out];exact HBW2.out
      clear hsn hn2 hall hf e1;have HKF:=k_ hkf;clear hkf;have HM3:=k_ hm3;clear hm3;have HYB:=k_ hyb;clear hyb;have HBW3:=k_ hbw3;clear hbw3
      go_wp2_with (refine look_none rfl (.tmp 37) (.tmp 38) 207 3 rfl HM3.out HT.out (zero_int _) y HYB.out rfl rfl HKF.out ?_)
      go_ret
      exact⟨rfl,HBW3.out⟩
     ·rw[hf] at hsn
      obtain⟨v,hkf⟩:∃ v,kindsF l.length false y=some v:=by
       have:=field_kinds y l.length;rw[hf] at this
       cases hh:kindsF l.length false y with
       | none=>rw[hh] at this;cases this
       | some v=>exact⟨v,rfl⟩
      have hv:=kinds_one hkf;subst hv;clear hn2 hall hf;have HKF:=k_ hkf;clear hkf;have HM3:=k_ hm3;clear hm3;have HYB:=k_ hyb;clear hyb;have HSN:=k_ hsn;clear hsn
      go_wp2_with (refine look_some rfl (.tmp 37) (.tmp 38) 207 3 rfl HM3.out HT.out (zero_int _) y HYB.out rfl rfl 1 HKF.out ?_)
      go_roundw
      case rel=>exact⟨q+1,by omega,by go_num,HWZ.out,HSN.out⟩
      case measure=>simp[intOf];omega
    ·have hq':q=x.length:=by omega
     subst hq';rw[List.take_length] at hall;have hsu:=SUC.out (HYES.out hall);have hrz:Below w1.heap.size w1 wr:=by rw[HWZ.out];exact HRR.out
     clear hall;have HSU:=k_ hsu;clear hsu;have HRZ:=k_ hrz;clear hrz;go_wp2_with fail
     go_roundw
     case rel=>exact⟨k+1,by omega,by go_num,HRZ.out,HSU.out⟩
     case measure=>simp[intOf];omega
  ·have hk':k=l.length:=by omega
   subst hk';have e:=HE.out;rw[OKK.out hall] at e;subst e;have hbw2:=HB1.out _ hR;clear hall hR;have HBW2:=k_ hbw2;clear hbw2;go_wp2_with fail
   go_ret
   exact⟨rfl,HBW2.out⟩
end Go.Proofs.YtbkkhmafheimfaaGreatDoor
namespace Go.Proofs.YtbkkhmafheimfaaGreatDoor
open Go.ChangeShapes Go.WideShapes Go.ChangeAt Go.RowKit
theorem append_own_addr {P:Program} {α:Type} (E:Elem P α) {ops:Array Oper} {rest:List Oper} {o:Oper} {a:Act} {Q:Exit→Act→World→Prop} {w:World} (hgd:o.guard=none) (s x:Operand)
  (ho:o.op=.call { callee:=.builtin .append,args:=#[s,x],argTypes:=#[E.t,E.t] })
  (B:Nat) (l m:List α) (v:Value) (hs:a.eval s=v) (hown:Own E w B v l) (xa:Addr) (c:Nat) (hx:a.eval x=.slice (some xa) m.length c)
  (hm:∀ j u,(m.flatMap E.enc)[j]?=some u→w.cell? (xa.add j)=some u) (hlen:l.length+m.length≤100000000) (hB:B≤w.heap.size)
  (h:∀ v' w',Own E w' B v' (l ++ m)→w.grownBy w' v.ownBlock→wpList P ops Q rest (a.put o.dst v') w'):wpList P ops Q (o :: rest) a w:=by
 obtain⟨i0,hi,hz0,hz1,hz2⟩:=info_parts E.info;refine wpList_append_own _ hgd s x E.t ho B E.e i0 E.zero E.size E.bytes E.ht hi hz0 hz1 hz2 E.hzs E.hsz v l.length (l.flatMap E.enc) hs hown xa m.length c (m.flatMap E.enc) hx (E.len m) hm ?_ ?_ ?_ hB ?_
 ·intro u hu
  obtain⟨y,_,hy⟩:=List.mem_flatMap.1 hu;exact E.hone y u hy
 ·unfold maxLen;omega
 ·have h1:=E.hby
  have h2:(l.length+m.length) * E.bytes≤100000000 * 1000:=Nat.mul_le_mul hlen h1
  omega
 ·intro v' w' ho' hg _
  refine h v' w' ?_ hg;unfold Own;rw[List.length_append,List.flatMap_append];exact ho'
theorem cells_addr {w:World} {b o:Nat} {cs:List Value} (h:CellsAt w b o cs):∀ j u,cs[j]?=some u→w.cell? ((⟨b,o,none⟩:Addr).add j)=some u:=by
 intro j u hj;have:=h j u hj;unfold Addr.add
 by_cases h0:j=0
 ·subst h0;rw[if_pos rfl];exact this
 ·rw[if_neg h0];exact this
theorem sl_addrInts {w:World} {D:Nat→Prop} {xa:Addr} {l:List Int} (h:IntSl w D (some xa) l):∀ j u,(l.flatMap intE.enc)[j]?=some u→w.cell? (xa.add j)=some u:=by
 by_cases h0:1≤l.length
 ·obtain⟨b,o,e,hc⟩:=sl_cellsInts h h0
  injection e with e
  subst e;exact cells_addr hc
 ·have:l=[]:=List.length_eq_zero_iff.1 (by omega)
  subst this;intro j u hj
  simp at hj
theorem sl_addrInstrs {w:World} {D:Nat→Prop} {xa:Addr} {l:List Ins} (h:InsSlD w D (some xa) l):∀ j u,(l.flatMap insE.enc)[j]?=some u→w.cell? (xa.add j)=some u:=by
 by_cases h0:1≤l.length
 ·obtain⟨b,o,e,hc⟩:=sl_cellsInstrs h h0
  injection e with e
  subst e;exact cells_addr hc
 ·have:l=[]:=List.length_eq_zero_iff.1 (by omega)
  subst this;intro j u hj
  simp at hj
theorem alloc_cells {w:World} {xa:Addr} {o:Obj} {v:Value} (h:w.cell? xa=some v):(w.alloc o).cell? xa=some v:=by
 have hp:=plain_addr h;rw[hp] at h ⊢;rw[cell_under _ _ (World.block_lt h)];exact h
theorem eq_nil_run {α:Type} (E:Elem Tryz.prog α) (a:Option Addr) (n c:Nat) (w:World):(binOp .eql E.t (.slice a n c) (.slice none 0 0)).run Tryz.prog w=.ok (.bool a.isNone) w:=by
 have h:(Op.equalIn (9999+1) E.t (.slice a n c) (.slice none 0 0)).run Tryz.prog w=.ok a.isNone w:=by
  unfold Op.equalIn
  cases a <;> simp[run_underlying E.ht]
 have h2:binOp .eql E.t (.slice a n c) (.slice none 0 0)=(do pure (.bool (← Op.equalIn (9999+1) E.t (.slice a n c) (.slice none 0 0)))):=rfl;rw[h2]
 simp[h]
theorem cloneInts_any (w:World) (D:Nat→Prop) (a:Option Addr) (l:List Int) (c:Nat) (hsl:IntSl w D a l) (hn:l.length≤1000000) :
  Calls Tryz.prog 47 #[.slice a l.length c] w fun e w'=>∃ v,e=.returned v∧Own intE w' w.heap.size v l∧Below w.heap.size w w':=by
 cases a with
 | none =>
   have hl:l=[]:=by
    cases l with
    | nil=>rfl
    | cons x l=>obtain⟨b,o,h,_⟩:=hsl 0 (by simp);cases h
   subst hl;have hnil:=fun w=>eq_nil_run intE none 0 c w
   have hnil:∀ w,(binOp .eql 34 (.slice none 0 c) (.slice none 0 0)).run Tryz.prog w=.ok (.bool true) w:=hnil
   go_enter Tryz.func47,Tryz.ntmps47
   go_wp2_with fail
   go_ret
   exact⟨_,rfl,Own.nil _ _ _,Below.refl _ _⟩
 | some xa =>
   have hc:=sl_addrInts hsl;have ho:=own_new intE w [] #[] rfl (by decide);have hb0:=(Below.refl w.heap.size w).alloc (Nat.le_refl _) (.cells #[] intE.e);have hc2:=fun j u hj=>alloc_cells (o:=.cells #[] intE.e) (hc j u hj)
   have hnil:=fun w=>eq_nil_run intE (some xa) l.length c w
   have hnil:∀ w,(binOp .eql 34 (.slice (some xa) l.length c) (.slice none 0 0)).run Tryz.prog w=.ok (.bool false) w:=hnil;clear hsl hc;have HC2:=k_ hc2;clear hc2;have HO:=k_ ho;clear ho;have HB0:=k_ hb0;clear hb0
   go_enter Tryz.func47,Tryz.ntmps47
   go_wp2_with (at_builtin;refine append_own_addr intE rfl (.tmp 5) (.tmp 6) rfl w.heap.size [] l _ rfl HO.out xa c rfl HC2.out ?c1 ?c2 ?_)
   case c1=>simp;omega
   case c2=>simp
   intro v2 w2 hown2 hg2;have hB2:=below_grown HB0.out HO.out hg2 (by simp) (Nat.le_refl _);clear hg2;have HB2:=k_ hB2;clear hB2;have HOWN2:=k_ hown2;clear hown2;go_wp2_with fail
   go_ret
   exact⟨_,rfl,HOWN2.out,HB2.out⟩
theorem cloneInstrs_any (w:World) (D:Nat→Prop) (a:Option Addr) (l:List Ins) (c:Nat) (hsl:InsSlD w D a l) (hn:l.length≤1000000) :
  Calls Tryz.prog 61 #[.slice a l.length c] w fun e w'=>∃ v,e=.returned v∧Own insE w' w.heap.size v l∧Below w.heap.size w w':=by
 cases a with
 | none =>
   have hl:l=[]:=by
    cases l with
    | nil=>rfl
    | cons x l=>obtain⟨b,o,h,_⟩:=hsl 0 (by simp);cases h
   subst hl;have hnil:=fun w=>eq_nil_run insE none 0 c w
   have hnil:∀ w,(binOp .eql 33 (.slice none 0 c) (.slice none 0 0)).run Tryz.prog w=.ok (.bool true) w:=hnil
   go_enter Tryz.func61,Tryz.ntmps61
   go_wp2_with fail
   go_ret
   exact⟨_,rfl,Own.nil _ _ _,Below.refl _ _⟩
 | some xa =>
   have hc:=sl_addrInstrs hsl;have ho:=own_new insE w [] #[] rfl (by decide);have hb0:=(Below.refl w.heap.size w).alloc (Nat.le_refl _) (.cells #[] insE.e);have hc2:=fun j u hj=>alloc_cells (o:=.cells #[] insE.e) (hc j u hj)
   have hnil:=fun w=>eq_nil_run insE (some xa) l.length c w
   have hnil:∀ w,(binOp .eql 33 (.slice (some xa) l.length c) (.slice none 0 0)).run Tryz.prog w=.ok (.bool false) w:=hnil;clear hsl hc;have HC2:=k_ hc2;clear hc2;have HO:=k_ ho;clear ho;have HB0:=k_ hb0;clear hb0
   go_enter Tryz.func61,Tryz.ntmps61
   go_wp2_with (at_builtin;refine append_own_addr insE rfl (.tmp 5) (.tmp 6) rfl w.heap.size [] l _ rfl HO.out xa c rfl HC2.out ?c1 ?c2 ?_)
   case c1=>simp;omega
   case c2=>simp
   intro v2 w2 hown2 hg2;have hB2:=below_grown HB0.out HO.out hg2 (by simp) (Nat.le_refl _);clear hg2;have HB2:=k_ hB2;clear hB2;have HOWN2:=k_ hown2;clear hown2;go_wp2_with fail
   go_ret
   exact⟨_,rfl,HOWN2.out,HB2.out⟩
end Go.Proofs.YtbkkhmafheimfaaGreatDoor
