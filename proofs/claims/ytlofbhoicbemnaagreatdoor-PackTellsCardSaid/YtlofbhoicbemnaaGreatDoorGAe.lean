/- Walk: package image's reader: a function. Walk: besombook.Small. Walks: whether two lists are alike, as the references and the book ask. -/
import Derived.Test.YtlofbhoicbemnaaGreatDoorGAd
set_option linter.unusedVariables false
set_option linter.unusedSimpArgs false
set_option maxRecDepth 100000
set_option maxHeartbeats 3200000
namespace Go.Proofs.YtlofbhoicbemnaaGreatDoor
open Go.ChangeShapes Go.WideShapes Go.ChangeAt Go.RowKit
def rFn (s:RS):Fun × RS :=
 let a:=aF s
 let r:=aC a.2
 let l:=aC r.2
 let o:=aF l.2
 let n:=aC o.2
 let c:=bS n.2 (n.1.toNat * 7)
 (⟨a.1,r.1,l.1,o.1,eQ c.1⟩,(c.2.1,c.2.2 || !bV c.1))
theorem aa {w:World} {q:Nat} {cs:Array Value} {t:TypeId} (h:w.heap[q]?=some (.cells cs t)) (j:Nat):w.cell? ⟨q,j,none⟩=cs[j]?∧w.frozen? ⟨q,j,none⟩=false:=by
 simp[World.cell?,World.frozen?,h]
theorem ag {w:World} {q:Nat} {cs:Array Value} {t:TypeId} (h:w.heap[q]?=some (.cells cs t)) (j:Nat) (u:Value):(w.setCell ⟨q,j,none⟩ u).heap[q]?=some (.cells (cs.setIfInBounds j u) t):=by
 simp only[World.setCell,Array.getElem?_modify,if_pos rfl,h,Option.map]
 rfl
theorem aU {w:World} {q:Nat} {ob:Obj} (h:w.heap[q]?=some ob) (o:Obj):(w.alloc o).heap[q]?=some ob:=by
 rw[Below.heap_alloc _ _ _ (aj h)];exact h
theorem aB {w:World} {q:Nat} {x0 x1 x2 x3 x4:Value} {t:TypeId} (h:w.heap[q]?=some (.cells #[x0,x1,x2,x3,x4] t)) :
  (w.cell? ⟨q,0,none⟩=some x0∧w.cell? ⟨q,1,none⟩=some x1∧w.cell? ⟨q,2,none⟩=some x2∧w.cell? ⟨q,3,none⟩=some x3∧w.cell? ⟨q,4,none⟩=some x4) ∧
  (w.frozen? ⟨q,0,none⟩=false∧w.frozen? ⟨q,1,none⟩=false∧w.frozen? ⟨q,2,none⟩=false∧w.frozen? ⟨q,3,none⟩=false∧w.frozen? ⟨q,4,none⟩=false) :=
 ⟨⟨(aa h 0).1,(aa h 1).1,(aa h 2).1,(aa h 3).1,(aa h 4).1⟩,(aa h 0).2,(aa h 1).2,(aa h 2).2,(aa h 3).2,(aa h 4).2⟩
def Gn (w:World) (p:Nat) (f:Fun) (s:RS) (e:Ending) (w':World):Prop :=
 ∃ c0 c3 c4,e=.returned (.agg #[c0,.int .i64 f.result,.int .i64 f.slots,c3,c4])∧Own aG w' w.heap.size c0 f.args∧Own aG w' w.heap.size c3 f.objects∧Own ig w' w.heap.size c4 f.code∧Rdr w' p s∧Fr (onB p) w w'
theorem Fr.setAt (w:World) (q j:Nat) (u:Value):Fr (onB q) w (w.setCell ⟨q,j,none⟩ u):=(Fr.refl (onB q) w).setCell (p:=⟨q,j,none⟩) (fun _=>rfl) u
def pqB (p q:Nat):Nat→Prop:=fun k=>k=p∨k=q
theorem ER (w:World) (p:Nat) (s:RS) (hr:Rdr w p s) (m:Int) (n:Nat) (hm:m=n) (hn:n≤1000000) (hs:s.1.size≤1000000) :
  Calls Tryz.prog 93 #[.pointer (some ⟨p,0,none⟩),.int .i64 m] w fun e w'=>e=.returned (.string (bS s n).1)∧Rdr w' p (bS s n).2∧Fr (onB p) w w':=by
 subst hm;exact xx w p s hr n hn hs
theorem IG (w:World) (p:Nat) (s:RS) (hr:Rdr w p s) (hs:s.1.size≤100000) :
  Calls Tryz.prog 79 #[.pointer (some ⟨p,0,none⟩)] w (Gn w p (rFn s).1 (rFn s).2):=by
 have hpl:=aj hr;have hx:rFn s=(⟨(aF s).1,(aC (aF s).2).1,(aC (aC (aF s).2).2).1,(aF (aC (aC (aF s).2).2).2).1,eQ (bS (aC (aF (aC (aC (aF s).2).2).2).2).2 ((aC (aF (aC (aC (aF s).2).2).2).2).1.toNat * 7)).1⟩,((bS (aC (aF (aC (aC (aF s).2).2).2).2).2 ((aC (aF (aC (aC (aF s).2).2).2).2).1.toNat * 7)).2.1,(bS (aC (aF (aC (aC (aF s).2).2).2).2).2 ((aC (aF (aC (aC (aF s).2).2).2).2).1.toNat * 7)).2.2 || !bV (bS (aC (aF (aC (aC (aF s).2).2).2).2).2 ((aC (aF (aC (aC (aF s).2).2).2).2).1.toNat * 7)).1)):=rfl;rw[hx];clear hx;have l1:=fun w1 (h:Rdr w1 p s)=>mV w1 p s h (by omega)
 have z1:=dX s;generalize aF s=t1 at *;obtain⟨args,s1⟩:=t1
 dsimp only at l1 z1 ⊢
 have l2:=fun w1 (h:Rdr w1 p s1)=>kZ w1 p s1 h (by omega)
 have z2:=bM s1;generalize aC s1=t2 at *;obtain⟨res,s2⟩:=t2
 dsimp only at l2 z2 ⊢
 have l3:=fun w1 (h:Rdr w1 p s2)=>kZ w1 p s2 h (by omega)
 have z3:=bM s2;generalize aC s2=t3 at *;obtain⟨slots,s3⟩:=t3
 dsimp only at l3 z3 ⊢
 have l4:=fun w1 (h:Rdr w1 p s3)=>mV w1 p s3 h (by omega)
 have z4:=dX s3;generalize aF s3=t4 at *;obtain⟨objs,s4⟩:=t4
 dsimp only at l4 z4 ⊢
 have l5:=fun w1 (h:Rdr w1 p s4)=>kZ w1 p s4 h (by omega)
 have z5:=bM s4;have b5:=jP s4;generalize aC s4=t5 at *;obtain⟨n,s5⟩:=t5
 dsimp only at l5 z5 b5 ⊢
 have l6:=fun w1 (h:Rdr w1 p s5)=>ER w1 p s5 h (n * 7) (n.toNat * 7) (by omega) (by omega) (by omega)
 have z6:(bS s5 (n.toNat * 7)).1.size≤1000000:=by
  unfold bS
  split
  ·exact Nat.zero_le _
  ·rw[ByteArray.size_extract];omega
 generalize bS s5 (n.toNat * 7)=t6 at *;obtain⟨cb,s6⟩:=t6
 dsimp only at l6 z6 ⊢
 have l7:=fun w1=>BJ cb w1 z6
 unfold lM at l7;clear z1 z2 z3 z4 z5 z6 hs;have L1:=k_ l1;clear l1;have L2:=k_ l2;clear l2;have L3:=k_ l3;clear l3;have L4:=k_ l4;clear l4;have L5:=k_ l5;clear l5;have L6:=k_ l6;clear l6;have L7:=k_ l7;clear l7;have hr0:=hr.alloc (.cells #[.slice none 0 0,.int .i64 0,.int .i64 0,.slice none 0 0,.slice none 0 0] 66);clear hr;have HR0:=k_ hr0;clear hr0
 go_enter Tryz.func79,Tryz.ntmps79
 go_wp2_with fail;refine(L1.out _ HR0.out).mono ?_;rintro e w1 ⟨v0,rfl,ho0,hr1,hf1⟩;obtain⟨a0,n0,c0,rfl⟩:=ho0.slice;have res1:w1.heap[w.heap.size]?=some (.cells #[.slice none 0 0,.int .i64 0,.int .i64 0,.slice none 0 0,.slice none 0 0] 66):=hf1.heap (ai w _) (by unfold onB;omega);have hF1:Fr (onB p) w w1:=((Fr.refl _ _).alloc _).trans hf1 (fun _ _ h=>h);have hq:w.heap.size<w1.heap.size:=aj res1;have rd1:=hr1.alloc (.cells #[.slice a0 n0 c0,.int .i64 0,.int .i64 0,.slice none 0 0,.slice none 0 0] 66);have loc1:=ai w1 (.cells #[.slice a0 n0 c0,.int .i64 0,.int .i64 0,.slice none 0 0,.slice none 0 0] 66);have fA:Fr (pqB p w1.heap.size) w1 (w1.alloc (.cells #[.slice a0 n0 c0,.int .i64 0,.int .i64 0,.slice none 0 0,.slice none 0 0] 66)):=(Fr.refl _ _).alloc _;have HO0:=k_ ho0;clear ho0;have RES1:=k_ res1;clear res1;have HF1:=k_ hF1;clear hF1;have FA:=k_ fA;clear fA;have LOC1:=k_ loc1;clear loc1;clear hf1 hr1;have call:=L2.out _ rd1;clear rd1;have CALL:=k_ call;clear call;go_wp2_with fail;refine CALL.out.mono ?_;rintro e w2 ⟨rfl,hr2,hf2⟩;have hqp:w1.heap.size≠p:=by omega
 have loc2:=hf2.heap LOC1.out (by unfold onB;omega);have f2:=FA.out.trans hf2 (fun k _ h=>.inl h);obtain⟨_,g0,g1,g2,g3,g4⟩:=aB loc2;have rd2:Rdr (w2.setCell ⟨w1.heap.size,1,none⟩ (.int .i64 res)) p s2:=hr2.fr (Fr.setAt _ w1.heap.size _ _) (by unfold onB;omega);have loc2':(w2.setCell ⟨w1.heap.size,1,none⟩ (.int .i64 res)).heap[w1.heap.size]?=some (.cells #[.slice a0 n0 c0,.int .i64 res,.int .i64 0,.slice none 0 0,.slice none 0 0] 66):=ag loc2 1 _;have f2':=f2.setCell (p:=⟨w1.heap.size,1,none⟩) (fun _=>.inr rfl) (.int .i64 res);have call:=L3.out _ rd2;obtain⟨⟨k0,k1,k2,k3,k4⟩,_⟩:=aB loc2;clear hf2 hr2 loc2 rd2 f2;have CALL:=k_ call;clear call;have LOC2':=k_ loc2';clear loc2';have F2':=k_ f2';clear f2';go_wp2_with fail;refine CALL.out.mono ?_;rintro e w3 ⟨rfl,hr3,hf3⟩;clear g0 g1 g2 g3 g4 k0 k1 k2 k3 k4;have loc3:=hf3.heap LOC2'.out (by unfold onB;omega);have f3:=F2'.out.trans hf3 (fun k _ h=>.inl h);have rd3:Rdr (w3.setCell ⟨w1.heap.size,2,none⟩ (.int .i64 slots)) p s3:=hr3.fr (Fr.setAt _ w1.heap.size _ _) (by unfold onB;omega);have loc3':(w3.setCell ⟨w1.heap.size,2,none⟩ (.int .i64 slots)).heap[w1.heap.size]?=some (.cells #[.slice a0 n0 c0,.int .i64 res,.int .i64 slots,.slice none 0 0,.slice none 0 0] 66):=ag loc3 2 _;have f3':=f3.setCell (p:=⟨w1.heap.size,2,none⟩) (fun _=>.inr rfl) (.int .i64 slots);have call:=L4.out _ rd3;obtain⟨⟨k0,k1,k2,k3,k4⟩,g0,g1,g2,g3,g4⟩:=aB loc3;clear hf3 hr3 loc3 rd3 f3;have CALL4:=k_ call;have LOC3':=k_ loc3';clear loc3';have F3':=k_ f3';clear f3';clear call CALL;go_wp2_with fail;refine CALL4.out.mono ?_;rintro e w4 ⟨v3,rfl,ho3,hr4,hf4⟩;clear g0 g1 g2 g3 g4 k0 k1 k2 k3 k4;obtain⟨a3,n3,c3,rfl⟩:=ho3.slice;have loc4:=hf4.heap LOC3'.out (by unfold onB;omega);have f4:=F3'.out.trans hf4 (fun k _ h=>.inl h);have ho3':∀ k,(Value.slice a3 n3 c3).ownBlock=some k→w1.heap.size<k:=fun k hk=>by
  have h1:=(ho3.lt hk).1;have h2:=aj LOC3'.out
  omega
 have rd4:Rdr (w4.setCell ⟨w1.heap.size,3,none⟩ (.slice a3 n3 c3)) p s4:=hr4.fr (Fr.setAt _ w1.heap.size _ _) (by unfold onB;omega);have loc4':(w4.setCell ⟨w1.heap.size,3,none⟩ (.slice a3 n3 c3)).heap[w1.heap.size]?=some (.cells #[.slice a0 n0 c0,.int .i64 res,.int .i64 slots,.slice a3 n3 c3,.slice none 0 0] 66):=ag loc4 3 _;have f4':=f4.setCell (p:=⟨w1.heap.size,3,none⟩) (fun _=>.inr rfl) (.slice a3 n3 c3);have fB4:=Fr.setCell (Fr.refl (pqB p w1.heap.size) w4) (p:=⟨w1.heap.size,3,none⟩) (fun _=>.inr rfl) (.slice a3 n3 c3);have call:=L5.out _ rd4;obtain⟨⟨k0,k1,k2,k3,k4⟩,g0,g1,g2,g3,g4⟩:=aB loc4;have HO3:=k_ ho3;clear hf4 hr4 loc4 rd4 f4 ho3;have CALL5:=k_ call;have LOC4':=k_ loc4';clear loc4';have F4':=k_ f4';clear f4';have FB4:=k_ fB4;clear fB4;have HO3':=k_ ho3';clear ho3';clear call CALL4;go_wp2_with fail;refine CALL5.out.mono ?_;rintro e w5 ⟨rfl,hr5,hf5⟩;clear g0 g1 g2 g3 g4 k0 k1 k2 k3 k4;have loc5:=hf5.heap LOC4'.out (by unfold onB;omega);have f5:=F4'.out.trans hf5 (fun k _ h=>.inl h);have fB5:=FB4.out.trans hf5 (fun k _ h=>.inl h);have CALL6:=k_ (L6.out _ hr5);clear hf5 hr5;have LOC5:=k_ loc5;clear loc5;have F5:=k_ f5;clear f5;have FB5:=k_ fB5;clear fB5;clear CALL5;go_wp2_with fail;refine CALL6.out.mono ?_;rintro e w6 ⟨rfl,hr6,hf6⟩;have loc6:=hf6.heap LOC5.out (by unfold onB;omega);have f6:=F5.out.trans hf6 (fun k _ h=>.inl h);have fB6:=FB5.out.trans hf6 (fun k _ h=>.inl h);clear hf6;have LOC6:=k_ loc6;clear loc6;have F6:=k_ f6;clear f6;have FB6:=k_ fB6;clear fB6;have HR6:=k_ hr6;clear hr6;clear CALL6;go_wp2_with fail;refine(L7.out _).mono ?_;rintro e w7 ⟨v4,rfl,ho4,hb7⟩;obtain⟨a4,n4,c4,rfl⟩:=ho4.slice;have loc7:=(fb_ hb7).heap LOC6.out (fun h=>h);have rd7:=HR6.out.fr (fb_ hb7) (fun h=>h);have f7:=F6.out.trans (fb_ hb7) (fun k _ h=>h.elim);have fB7:=FB6.out.trans (fb_ hb7) (fun k _ h=>h.elim);have ho4':∀ k,(Value.slice a4 n4 c4).ownBlock=some k→w1.heap.size<k:=fun k hk=>by
  have h1:=(ho4.lt hk).1;have h2:=aj LOC6.out
  omega
 obtain⟨r0,r1,r2,r3⟩:=aN (show _=some (Obj.cells #[.string s6.1,.bool s6.2] 135) from rd7);obtain⟨⟨k0,k1,k2,k3,k4⟩,g0,g1,g2,g3,g4⟩:=aB loc7;have HO4:=k_ ho4;clear hb7 ho4;have res7:=f7.heap RES1.out (by unfold pqB;omega);obtain⟨_,e0,e1,e2,e3,e4⟩:=aB res7;have hqw:w1.heap.size≠w.heap.size:=by omega
 have hpw:p≠w.heap.size:=by omega
 have fin:∀ bad,bad=(s6.2 || !bV cb)→Gn w p ⟨args,res,slots,objs,eQ cb⟩ (s6.1,s6.2 || !bV cb) (.returned (.agg #[.slice a0 n0 c0,.int .i64 res,.int .i64 slots,.slice a3 n3 c3,.slice a4 n4 c4]))
   (((((((w7.setCell ⟨p,1,none⟩ (.bool bad)).setCell ⟨w1.heap.size,4,none⟩ (.slice a4 n4 c4)).setCell ⟨w.heap.size,0,none⟩ (.slice a0 n0 c0)).setCell ⟨w.heap.size,1,none⟩ (.int .i64 res)).setCell ⟨w.heap.size,2,none⟩ (.int .i64 slots)).setCell ⟨w.heap.size,3,none⟩ (.slice a3 n3 c3)).setCell ⟨w.heap.size,4,none⟩ (.slice a4 n4 c4)):=by
  intro bad hb;rw[← hb];have g1:=Fr.setAt w7 p 1 (.bool bad);have g2:=Fr.setAt (w7.setCell ⟨p,1,none⟩ (.bool bad)) w1.heap.size 4 (.slice a4 n4 c4);generalize hW:(w7.setCell ⟨p,1,none⟩ (.bool bad)).setCell ⟨w1.heap.size,4,none⟩ (.slice a4 n4 c4)=W at *;have g3:Fr (onB w.heap.size) W (((((W.setCell ⟨w.heap.size,0,none⟩ (.slice a0 n0 c0)).setCell ⟨w.heap.size,1,none⟩ (.int .i64 res)).setCell ⟨w.heap.size,2,none⟩ (.int .i64 slots)).setCell ⟨w.heap.size,3,none⟩ (.slice a3 n3 c3)).setCell ⟨w.heap.size,4,none⟩ (.slice a4 n4 c4)) :=
   (((((Fr.refl (onB w.heap.size) W).setCell (p:=⟨w.heap.size,0,none⟩) (fun _=>rfl) _).setCell (p:=⟨w.heap.size,1,none⟩) (fun _=>rfl) _).setCell (p:=⟨w.heap.size,2,none⟩) (fun _=>rfl) _).setCell (p:=⟨w.heap.size,3,none⟩) (fun _=>rfl) _).setCell (p:=⟨w.heap.size,4,none⟩) (fun _=>rfl) _
  have g4:Fr (fun k=>k=p∨k=w1.heap.size∨k=w.heap.size) w7 (((((W.setCell ⟨w.heap.size,0,none⟩ (.slice a0 n0 c0)).setCell ⟨w.heap.size,1,none⟩ (.int .i64 res)).setCell ⟨w.heap.size,2,none⟩ (.int .i64 slots)).setCell ⟨w.heap.size,3,none⟩ (.slice a3 n3 c3)).setCell ⟨w.heap.size,4,none⟩ (.slice a4 n4 c4)) :=
   ((g1.mono (fun k h=>.inl h)).trans g2 (fun k _ h=>.inr (.inl h))).trans g3 (fun k _ h=>.inr (.inr h))
  have hs0:w.heap.size+1=(w.alloc (.cells #[.slice none 0 0,.int .i64 0,.int .i64 0,.slice none 0 0,.slice none 0 0] 66)).heap.size:=by simp
  refine⟨_,_,_,rfl,?_,?_,?_,?_,?_⟩
  ·have hb0:∀ k,(Value.slice a0 n0 c0).ownBlock=some k→w.heap.size<k∧k<w1.heap.size:=fun k hk=>by
    have:=HO0.out.lt hk;omega
   refine Own.base ((HO0.out.fr f7 (fun k hk=>?_)).fr g4 (fun k hk=>?_)) (fun k hk=>by have:=hb0 k hk;omega)
   ·have:=hb0 k hk;unfold pqB;omega
   ·have:=hb0 k hk;omega
  ·refine Own.base ((HO3.out.fr fB7 (fun k hk=>?_)).fr g4 (fun k hk=>?_)) (fun k hk=>by have:=HO3'.out k hk;omega)
   ·have:=HO3'.out k hk;unfold pqB;omega
   ·have:=HO3'.out k hk;omega
  ·refine Own.base (HO4.out.fr g4 (fun k hk=>?_)) (fun k hk=>by have:=ho4' k hk;omega)
   have:=ho4' k hk;omega
  ·have h1:Rdr (w7.setCell ⟨p,1,none⟩ (.bool bad)) p (s6.1,bad):=gm rd7
   have h2:=h1.fr g2 (by unfold onB;omega);exact h2.fr g3 (by unfold onB;omega)
  ·refine(HF1.out.trans f7 (fun k hk h=>?_)).trans g4 (fun k hk h=>?_)
   ·rcases h with h | h
    ·exact h
    ·omega
   ·rcases h with h | h | h
    ·exact h
    ·omega
    ·omega
 have fin2:∀ bad,(((((((w7.setCell ⟨p,1,none⟩ (.bool bad)).setCell ⟨w1.heap.size,4,none⟩ (.slice a4 n4 c4)).setCell ⟨w.heap.size,0,none⟩ (.slice a0 n0 c0)).setCell ⟨w.heap.size,1,none⟩ (.int .i64 res)).setCell ⟨w.heap.size,2,none⟩ (.int .i64 slots)).setCell ⟨w.heap.size,3,none⟩ (.slice a3 n3 c3)).setCell ⟨w.heap.size,4,none⟩ (.slice a4 n4 c4)).heap[w.heap.size]?=some (.cells #[.slice a0 n0 c0,.int .i64 res,.int .i64 slots,.slice a3 n3 c3,.slice a4 n4 c4] 66):=by
  intro bad;have h1:=(Fr.setAt (w7.setCell ⟨p,1,none⟩ (.bool bad)) w1.heap.size 4 (.slice a4 n4 c4)).heap ((Fr.setAt w7 p 1 (.bool bad)).heap res7 (by unfold onB;omega)) (by unfold onB;omega);exact ag (ag (ag (ag (ag h1 0 _) 1 _) 2 _) 3 _) 4 _
 clear ho4' rd7 f7 fB7 loc7 res7;have FIN:=k_ fin;clear fin;have FINB:=k_ fin2;clear fin2
 cases hs6:s6.2 <;> cases hok:bV cb
 all_goals
  rw[hs6] at r1
  first | have FIN2:=k_ (FIN.out true (by rw[hs6,hok];rfl)) | have FIN2:=k_ (FIN.out false (by rw[hs6,hok];rfl))
  clear FIN;go_wp2_with fail
  first | obtain⟨⟨j0,j1,j2,j3,j4⟩,_⟩:=aB (FINB.out true) | skip
  first | obtain⟨⟨i0,i1,i2,i3,i4⟩,_⟩:=aB (FINB.out false) | skip
  exact bodyPost_ret (v:=.agg #[.slice a0 n0 c0,.int .i64 res,.int .i64 slots,.slice a3 n3 c3,.slice a4 n4 c4]) (by
   first
   | simp only[results,Tryz.results79,go_sem,j0,j1,j2,j3,j4];done
   | simp only[results,Tryz.results79,go_sem,i0,i1,i2,i3,i4];done
   | simp[results,Tryz.results79,go_sem,j0,j1,j2,j3,j4];done
   | simp[results,Tryz.results79,go_sem,i0,i1,i2,i3,i4];done) rfl FIN2.out
def rm (b:Nat):Int:=if b≤3000 then 3000 - (b:Int) else -1
theorem rW (b:Nat):rm b≤3000∧-1≤rm b:=by unfold rm;split <;> omega
theorem sI (b:Nat):0≤rm b↔b≤3000:=by unfold rm;split <;> omega
theorem Hg (l:List Nat):∀ b,b≤3000→oW (rm b) (l.map Int.ofNat)=rm (b+l.sum):=by
 induction l with
 | nil=>intro b _;simp[oW]
 | cons x l ih =>
   intro b hb;have e:rm b=3000 - (b:Int):=by unfold rm;rw[if_pos hb]
   rw[List.map_cons];unfold oW;rw[e]
   by_cases h:3000 - (b:Int)<Int.ofNat x
   ·rw[if_pos (.inr h)]
    have:¬ b+(x :: l).sum≤3000:=by simp at *;omega
    unfold rm;rw[if_neg this]
   ·rw[if_neg (by simp at *;omega)]
    have h2:b+x≤3000:=by simp at h;omega
    have h3:=ih (b+x) h2;have e2:rm (b+x)=3000 - (b:Int) - Int.ofNat x:=by unfold rm;rw[if_pos h2];simp;omega
    rw[e2] at h3;rw[h3,List.sum_cons,Nat.add_assoc]
theorem pg (w:World) (g:Nat) (hg:g=w.heap.size) (l:List Nat) (hl:l.length≤100) (b:Nat) (hb:b≤3000) :
  Calls Tryz.prog 45 #[.int .i64 (rm b),.slice (some ⟨g,0,none⟩) l.length l.length] (w.alloc (.cells ((l.map Int.ofNat).map (Value.int .i64)).toArray 3)) fun e w'=>e=.returned (.int .i64 (rm (b+l.sum)))∧w'=w.alloc (.cells ((l.map Int.ofNat).map (Value.int .i64)).toArray 3):=by
 subst hg;have h:=Fe (w.alloc (.cells ((l.map Int.ofNat).map (Value.int .i64)).toArray 3)) _ _ (l.map Int.ofNat) l.length (wL w (l.map Int.ofNat)) (rm b) (rW b).1 (rW b).2 (fun x hx=>by
  obtain⟨y,_,rfl⟩:=List.mem_map.1 hx;exact Int.natCast_nonneg y) (by simp;omega)
 unfold mD at h;rw[Hg l b hb,List.length_map] at h;exact h
def dW (p:Prg) (k:Nat):Nat:=p.globals.length+p.shapes.length+p.funcs.length+((p.shapes.take k).map dH).sum
def iM (p:Prg) (k:Nat):Nat:=dW p p.shapes.length+((p.funcs.take k).map cz).sum
theorem zW (p:Prg) (k:Nat) (hk:k<p.shapes.length):dW p (k+1)=dW p k+p.shapes[k].length:=by
 unfold dW;rw[aK _ k hk,List.map_append,List.sum_append];simp[dH];try omega
theorem Ar (p:Prg) (k:Nat) (hk:k<p.funcs.length):iM p (k+1)=iM p k+(p.funcs[k].args.length+(p.funcs[k].objects.length+p.funcs[k].code.length)):=by
 unfold iM;rw[aK _ k hk,List.map_append,List.sum_append];simp[cz];try omega
theorem Ed (p:Prg) (k:Nat):dW p k≤bulk p:=by
 unfold dW bulk;have:((p.shapes.take k).map dH).sum≤(p.shapes.map dH).sum:=by
  have h:(p.shapes.map dH).sum=((p.shapes.take k).map dH).sum+((p.shapes.drop k).map dH).sum:=by
   rw[← List.sum_append,← List.map_append,List.take_append_drop]
  omega
 omega
theorem GM (p:Prg) (k:Nat):iM p k≤bulk p:=by
 unfold iM dW bulk;rw[List.take_length];have:((p.funcs.take k).map cz).sum≤(p.funcs.map cz).sum:=by
  have h:(p.funcs.map cz).sum=((p.funcs.take k).map cz).sum+((p.funcs.drop k).map cz).sum:=by
   rw[← List.sum_append,← List.map_append,List.take_append_drop]
  omega
 omega
theorem DF (p:Prg):iM p p.funcs.length=bulk p:=by
 unfold iM dW bulk;rw[List.take_length,List.take_length];try omega
theorem vS (p:Prg) (k:Nat) (h:dW p k≤3000):p.shapes.length≤3000∧p.funcs.length≤3000:=by
 unfold dW at h;omega
theorem Dw (w:World) (D:Nat→Prop) (pr:Prg) (c0 c1 c2:Value) (hv:aD w D pr c0 c1 c2) :
  Calls Tryz.prog 14 #[.agg #[c0,c1,c2]] w fun e w'=>e=.returned (.bool (decide (bulk pr≤3000)))∧Below w.heap.size w w':=by
 obtain⟨⟨a0,n0,rfl,_⟩,⟨a1,n1,rfl,hs1⟩,a2,n2,rfl,hs2⟩:=hv;have r0:=fun w g hg=>pg w g hg [pr.globals.length,pr.shapes.length,pr.funcs.length] (by simp) 0 (by omega)
 have e0:0+[pr.globals.length,pr.shapes.length,pr.funcs.length].sum=dW pr 0:=by simp[dW];try omega
 rw[e0] at r0;have hr0:rm 0=3000:=rfl;rw[hr0] at r0;have m0:(([pr.globals.length,pr.shapes.length,pr.funcs.length].map Int.ofNat).map (Value.int .i64)).toArray=#[.int .i64 pr.globals.length,.int .i64 pr.shapes.length,.int .i64 pr.funcs.length]:=rfl;rw[m0] at r0;have r1:=fun (n:Nat) (w:World) b hb=>pg w _ rfl [n] (by simp) b hb
 have r3:=fun (n m l:Nat) (w:World) b hb=>pg w _ rfl [n,m,l] (by simp) b hb
 have HR0:=k_ r0;have HR1:=k_ r1;have HR3:=k_ r3;clear r0 r1 r3 e0 hr0 m0;have hbx:∀ wr,Below (w.heap.size+1) (w.alloc (.cells #[.slice a0 pr.globals.length n0,.slice a1 pr.shapes.length n1,.slice a2 pr.funcs.length n2] 48)) wr→wr.cell? ⟨w.heap.size,1,none⟩=some (.slice a1 pr.shapes.length n1)∧wr.cell? ⟨w.heap.size,2,none⟩=some (.slice a2 pr.funcs.length n2)∧Below w.heap.size w wr:=fun wr h =>
  ⟨by rw[h.cell (by simp)];exact aI w _ _ _ 1,by rw[h.cell (by simp)];exact aI w _ _ _ 2,((Below.refl _ _).alloc (Nat.le_refl _) _).trans (h.mono (by simp))⟩
 have HBX:=k_ hbx;clear hbx;have HS1:=k_ hs1;clear hs1;have HS2:=k_ hs2;clear hs2
 go_enter Tryz.func14,Tryz.ntmps14
 go_wp2_with fail;refine(HR0.out _ _ (by simp)).mono ?_;rintro e w1 ⟨rfl,rfl⟩;have bd0:=rW (dW pr 0);have hB0:Below (w.heap.size+1) (w.alloc (.cells #[.slice a0 pr.globals.length n0,.slice a1 pr.shapes.length n1,.slice a2 pr.funcs.length n2] 48)) ((w.alloc (.cells #[.slice a0 pr.globals.length n0,.slice a1 pr.shapes.length n1,.slice a2 pr.funcs.length n2] 48)).alloc (.cells #[.int .i64 pr.globals.length,.int .i64 pr.shapes.length,.int .i64 pr.funcs.length] 3)):=(Below.refl _ _).alloc (by simp) _;have HB0:=k_ hB0;clear hB0;go_wp2_with fail
 go_loopw [3,4] (fun u i wr=>∃ k:Nat,k≤pr.shapes.length∧i=.int .i64 k∧u=.int .i64 (rm (dW pr k))∧Below (w.heap.size+1) (w.alloc (.cells #[.slice a0 pr.globals.length n0,.slice a1 pr.shapes.length n1,.slice a2 pr.funcs.length n2] 48)) wr) (fun _ i _=>pr.shapes.length - (intOf i).toNat)
 case atStart=>exact⟨0,Nat.zero_le _,rfl,rfl,HB0.out⟩
 case round =>
  obtain⟨k,hk,rfl,rfl,hB⟩:=hrel;obtain⟨q1,q2,hbw⟩:=HBX.out wr hB;have bd:=rW (dW pr k);have hp:=sI (dW pr k)
  by_cases hgo:k<pr.shapes.length∧dW pr k≤3000
  ·obtain⟨hlt,hle⟩:=hgo
   have hpos:0≤rm (dW pr k):=hp.2 hle;obtain⟨b,o,rfl,_,x1,x2,hx,_⟩:=HS1.out k hlt;have hx:=ae hbw hx;have hc:=HR1.out pr.shapes[k].length wr (dW pr k) hle;have hlen3:=vS pr k hle;have hsu:dW pr k+[pr.shapes[k].length].sum=dW pr (k+1):=by rw[zW pr k hlt];simp
   rw[hsu] at hc;have bd2:=rW (dW pr (k+1));generalize rm (dW pr k)=r at *;clear hle hsu hp hbw;have hB2:=hB.alloc (by have:=hB.size;simpa using this) (.cells #[.int .i64 pr.shapes[k].length] 3);have HC:=k_ hc;clear hc;have HB2:=k_ hB2;clear hB2;clear hB;go_wp2_with fail;refine HC.out.mono ?_;rintro e w3 ⟨rfl,rfl⟩;go_wp2_with fail
   go_roundw
   case rel=>exact⟨k+1,by omega,by go_num,rfl,HB2.out⟩
   case measure=>simp[intOf];omega
  ·have hX:∃ X,X=dW pr k∧(X=iM pr 0∨3000<X)∧X≤bulk pr:=by
    refine⟨_,rfl,?_,Ed pr k⟩
    by_cases h:dW pr k≤3000
    ·have hk2:k=pr.shapes.length:=by omega
     exact .inl (by rw[hk2];simp[iM])
    ·exact .inr (by omega)
   obtain⟨X,hXe,hX1,hX2⟩:=hX;have hstop:¬ (k<pr.shapes.length∧0≤rm X):=fun h=>hgo ⟨h.1,by rw[← hXe];exact(sI X).1 h.2⟩
   rw[← hXe] at bd hp ⊢;clear hgo hXe hp hbw;have hX3:=sI X;generalize hr:rm X=r at *;have HR:=k_ hr;clear hr;have HX1:=k_ hX1;clear hX1;have HX2:=k_ hX2;clear hX2;have HX3:=k_ hX3;clear hX3;have HB:=k_ hB;clear hB;have fin:∀ wr2,Below (w.heap.size+1) (w.alloc (.cells #[.slice a0 pr.globals.length n0,.slice a1 pr.shapes.length n1,.slice a2 pr.funcs.length n2] 48)) wr2→∀ j Y,(Y=iM pr j∨3000<Y)→Y≤bulk pr→¬ (j<pr.funcs.length∧Y≤3000)→j≤pr.funcs.length→decide (0≤rm Y)=decide (bulk pr≤3000)∧Below w.heap.size w wr2:=by
    intro wr2 hb2 j Y h1 h2 h3 h4;refine⟨?_,(HBX.out wr2 hb2).2.2⟩;have h5:=sI Y
    by_cases hY:Y≤3000
    ·have hj:j=pr.funcs.length:=by omega
     have hYe:Y=bulk pr:=by
      rcases h1 with h1 | h1
      ·rw[h1,hj,DF]
      ·omega
     rw[hYe] at h5 hY ⊢
     simp[h5,hY]
    ·have:¬ bulk pr≤3000:=by omega
     simp[h5,hY,this]
   have FIN:=k_ fin;clear fin
   by_cases hlt:k<pr.shapes.length
   all_goals
    first | have hneg:r<0:=(by omega) | skip
    clear hstop;go_wp2_with fail
    go_loopw [3,5] (fun u i wr=>∃ (j:Nat) (Y:Nat),j≤pr.funcs.length∧i=.int .i64 j∧u=.int .i64 (rm Y)∧(Y=iM pr j∨3000<Y)∧Y≤bulk pr∧Below (w.heap.size+1) (w.alloc (.cells #[.slice a0 pr.globals.length n0,.slice a1 pr.shapes.length n1,.slice a2 pr.funcs.length n2] 48)) wr) (fun _ i _=>pr.funcs.length - (intOf i).toNat)
    case atStart=>exact⟨0,X,Nat.zero_le _,rfl,by rw[HR.out],HX1.out,HX2.out,HB.out⟩
    case round =>
     obtain⟨j,Y,hj,rfl,rfl,hY1,hY2,hB2⟩:=hrel;obtain⟨_,t2,hbw⟩:=HBX.out _ hB2;have bdY:=rW Y;have hpY:=sI Y
     by_cases hgo:j<pr.funcs.length∧Y≤3000
     ·obtain⟨hlt2,hle⟩:=hgo
      have hYe:Y=iM pr j:=by omega
      have hpos:0≤rm Y:=hpY.2 hle;obtain⟨b,o,rfl,_,x0,x1,x2,x3,x4,p0,p1,p2,p3,p4,⟨e1,e2,⟨y0,z0,e3,_⟩,⟨y3,z3,e4,_⟩,y4,z4,e5,_⟩⟩:=HS2.out j hlt2;have p0:=ae hbw p0;have p1:=ae hbw p1;have p2:=ae hbw p2;have p3:=ae hbw p3;have p4:=ae hbw p4;have hc:=fun g hg=>pg (wr.alloc (.cells #[x0,x1,x2,x3,x4] 66)) g hg [pr.funcs[j].args.length,pr.funcs[j].objects.length,pr.funcs[j].code.length] (by simp) Y hle
      have hsu:Y+[pr.funcs[j].args.length,pr.funcs[j].objects.length,pr.funcs[j].code.length].sum=iM pr (j+1):=by rw[Ar pr j hlt2,hYe];simp
      rw[hsu] at hc;have hle2:=GM pr (j+1);have bd2:=rW (iM pr (j+1));have hB3:=(hB2.alloc (by have:=hB2.size;simpa using this) (.cells #[x0,x1,x2,x3,x4] 66)).alloc (by have:=hB2.size;simp at *;omega) (.cells #[.int .i64 pr.funcs[j].args.length,.int .i64 pr.funcs[j].objects.length,.int .i64 pr.funcs[j].code.length] 3);subst e1 e2 e3 e4 e5;have hfl:pr.funcs.length≤3000:=by
       have h1:iM pr j≤3000:=by omega
       unfold iM dW at h1;omega
      clear hsu hpY hbw hB2 hY1 hY2 hYe hle;generalize rm Y=y at *;have HC:=k_ hc;clear hc;have HB3:=k_ hB3;clear hB3;have HLE2:=k_ hle2;clear hle2;go_wp2_with fail;refine(HC.out _ (by simp)).mono ?_;rintro e w3 ⟨rfl,rfl⟩;go_wp2_with fail
      go_roundw
      case rel=>exact⟨j+1,iM pr (j+1),by omega,by go_num,rfl,.inl rfl,HLE2.out,HB3.out⟩
      case measure=>simp[intOf];omega
     ·have hF:=FIN.out _ hB2 j Y hY1 hY2 hgo hj
      have hstop:¬ (j<pr.funcs.length∧0≤rm Y):=fun h=>hgo ⟨h.1,hpY.1 h.2⟩
      clear hgo hpY hbw hY1 hY2 hB2;generalize rm Y=y at *
      by_cases hlt2:j<pr.funcs.length
      all_goals
       first | have hneg2:y<0:=(by omega) | skip
       clear hstop;have HF:=k_ hF;clear hF
       by_cases hy:0≤y
       all_goals
        first
        | (exfalso;omega)
        | (go_wp2_with fail
           go_ret
           exact⟨by rw[← HF.out.1];simp[hy],HF.out.2⟩)
theorem mU (w:World) (D D':Nat→Prop) (a a':Option Addr) (l m:List Int) (c c':Nat) (hl:aQ w D a l) (hm:aQ w D' a' m) (hn:l.length≤1000000) (hn':m.length≤1000000) :
  Calls Tryz.prog 54 #[.slice a l.length c,.slice a' m.length c'] w fun e w'=>e=.returned (.bool (decide (l=m)))∧∃ n,w'=w.drewN n:=by
 by_cases hlen:l.length=m.length
 case neg =>
  have h1:((l.length:Int) != (m.length:Int))=true:=by rw[bne_iff_ne];omega
  have h2:decide (l=m)=false:=by simp;intro h;rw[h] at hlen;exact hlen rfl
  rw[h2];clear h2 hlen
  go_enter Tryz.func54,Tryz.ntmps54
  go_wp2_with fail
  go_ret
  exact⟨rfl,0,rfl⟩
 have h1:((l.length:Int) != (m.length:Int))=false:=by rw[bne_eq_false_iff_eq];omega
 have HLEN:=k_ hlen;clear hlen;have HL:=k_ hl;clear hl;have HM:=k_ hm;clear hm
 go_enter Tryz.func54,Tryz.ntmps54
 go_wp2_with fail;clear h1
 go_loopw [5] (fun i wr=>∃ k:Nat,k≤l.length∧i=.int .i64 k∧l.take k=m.take k∧∃ n,wr=w.drewN n) (fun i _=>l.length - (intOf i).toNat)
 case atStart=>exact⟨0,Nat.zero_le _,rfl,rfl,0,rfl⟩
 case round =>
  obtain⟨k,hk,rfl,ht,n,hwr⟩:=hrel
  by_cases hlt:k<l.length
  ·have hlt2:k<m.length:=by have:=HLEN.out;omega
   obtain⟨b,o,rfl,_,hx⟩:=HL.out k hlt;obtain⟨b',o',rfl,_,hy⟩:=HM.out k hlt2;have hx1:wr.cell? ⟨b,o+k,none⟩=some (.int .i64 l[k]):=by rw[hwr];exact hx
   have hy1:wr.cell? ⟨b',o'+k,none⟩=some (.int .i64 m[k]):=by rw[hwr];exact hy
   have hs:=kD l m k hlt hlt2 ht;have hne:=pO l m k hlt hlt2;clear hx hy ht;generalize l[k]=x at *;generalize m[k]=y at *;have HS:=k_ hs;clear hs;have HWR:=k_ hwr;clear hwr;have HNE:=k_ hne;clear hne
   by_cases hxy:x=y
   ·subst hxy
    go_wp2_with fail
    go_quiet (fail)
    go_wp2_with fail
    go_roundw
    case rel=>exact⟨k+1,by omega,by go_num,by first | exact HS.out rfl | exact HS.out trivial,by rw[HWR.out];exact⟨_,by first | rfl | (simp;rfl)⟩⟩
    case measure=>simp[intOf];omega
   ·have hb:(x != y)=true:=by rw[bne_iff_ne];exact hxy
    have hb2:(x == y)=false:=by simpa using hxy
    have hd:decide (l=m)=false:=by simpa using HNE.out hxy
    have HD:=k_ hd;clear hd hxy;go_wp2_with fail
    go_quiet (fail)
    go_wp2_with fail
    go_ret
    exact⟨by rw[HD.out];rfl,by rw[HWR.out];exact⟨_,by first | rfl | (simp;rfl)⟩⟩
  ·have hd:decide (l=m)=true:=by
    have h:=HLEN.out;have hk2:k=l.length:=by omega
    rw[hk2,List.take_length,List.take_of_length_le (by omega)] at ht
    simpa using ht
   have HD:=k_ hd;have HWR:=k_ hwr;clear hwr;clear hd ht;go_wp2_with fail
   go_ret
   exact⟨by rw[HD.out];rfl,by rw[HWR.out];exact⟨_,rfl⟩⟩
end Go.Proofs.YtlofbhoicbemnaaGreatDoor
