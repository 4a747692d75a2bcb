/- Walks: the first place of which a question is right. -/
import Derived.Test.YtlofbhoicbemnaaGreatDoorGBj
set_option linter.unusedVariables false
set_option linter.unusedSimpArgs false
set_option maxRecDepth 100000
set_option maxHeartbeats 6400000
namespace Go.Proofs.YtlofbhoicbemnaaGreatDoor
open Go.ChangeShapes Go.WideShapes Go.ChangeAt Go.RowKit Go.Maps
def jY (j:Nat) (r:Option Nat) (w:World) (e:Ending) (w':World):Prop :=
 e=.returned (.tuple #[.agg #[.int .i64 (match r with | some _=>(j:Int) | none=>0),.int .i64 (match r with | some q=>(q:Int) | none=>0)],.bool r.isSome])∧Below w.heap.size w w'
theorem uw {A:Nat→Bool} {N k:Nat} (hk:k<N) (h:∀ q,q<k→A q=false) (hh:A k=true):(List.range N).find? A=some k:=by
 rw[List.find?_range_eq_some];exact⟨hh,List.mem_range.2 hk,fun q hq=>by simp[h q hq]⟩
theorem uy {A:Nat→Bool} {N:Nat} (h:∀ q,q<N→A q=false):(List.range N).find? A=none:=by
 rw[List.find?_eq_none];intro x hx
 simp[h x (List.mem_range.1 hx)]
theorem nH {j k:Nat} {r:Option Nat} (hr:r=some k) {w w':World} (hb:Below w.heap.size w w'):jY j r w (.returned (.tuple #[.agg #[.int .i64 j,.int .i64 k],.bool true])) w':=by
 subst hr;exact⟨rfl,hb⟩
theorem nG {j:Nat} {r:Option Nat} (hr:r=none) {w w':World} (hb:Below w.heap.size w w'):jY j r w (.returned (.tuple #[.agg #[.int .i64 0,.int .i64 0],.bool false])) w':=by
 subst hr;exact⟨rfl,hb⟩
theorem qL (w:World) (B wb b n:Nat) (V D:Nat→Prop) (c0 c1 c2 tv:Value) (j:Nat) (C:Pl→Option (List Int)) (l:List Int) (p:Prg) (M:Flo) (A:Nat→Bool) (hw:WalkV w B wb b n V c0 c1 c2 (j:Int) C tv l) (hv:aD w D p c0 c1 c2) (hf:PrgFit p) (hj:j<p.funcs.length)
  (hC:∀ (q:Nat) h,C ⟨((j:Int),(q:Int)),h⟩=M q) (hA:∀ q,M q=none→A q=false)
  (qa:∀ W',Below w.heap.size w W'→∀ q,q<p.funcs[j].code.length→(M q).isSome=true→Calls Tryz.prog 115 #[.pointer (some ⟨wb,0,none⟩),.agg #[.int .i64 j,.int .i64 q]] W' fun e w'=>e=.returned (.bool (A q))∧Below W'.heap.size W' w') :
  Calls Tryz.prog 114 #[.pointer (some ⟨wb,0,none⟩),.func (.func 115) #[.pointer (some ⟨wb,0,none⟩)] #[]] w (jY j ((List.range p.funcs[j].code.length).find? A) w):=by
 have hfit:=hf.fn _ (List.getElem_mem hj);have hN64:=hfit.code2;have hj16:j<16:=by have:=hf.funcs2;omega
 obtain⟨r,hr⟩:∃ r,r=(List.range p.funcs[j].code.length).find? A:=⟨_,rfl⟩;rw[← hr];have hb1:=(Below.refl w.heap.size w).alloc (Nat.le_refl _) (.cells #[.int .i64 0,.int .i64 0] 147);have hly:=ai w (.cells #[.int .i64 0,.int .i64 0] 147);obtain⟨y,hy⟩:∃ y,y=w.heap.size:=⟨_,rfl⟩;obtain⟨w1,hw1⟩:∃ w1,w1=w.alloc (.cells #[.int .i64 0,.int .i64 0] 147):=⟨_,rfl⟩;rw[← hw1] at hb1 hly;rw[← hy] at hly;obtain⟨r0,r1,r2,r3,r4,r5,r6⟩:=(hw.below hb1).cells rfl;have hv1:=hv.fr (fb_ hb1) (fun _ _ h=>h);obtain⟨⟨a0,m0,rfl,_⟩,⟨a1,m1,rfl,_⟩,a2,m2,rfl,hfs⟩:=hv1;obtain⟨bb,o,rfl,_,x0,x1,x2,x3,x4,g0,g1,g2,g3,g4,hfv⟩:=hfs j hj;obtain⟨_,_,_,_,e4,e5,rfl,_⟩:=hfv;have hj1:(j:Int)<p.funcs.length:=by omega
 have HWV:=k_ (hw.below hb1);have QA:=k_ (fun W' (h:Below w1.heap.size w1 W')=>qa W' (hb1.trans (h.mono hb1.size)));have HY:=k_ hy;have HW1:=k_ hw1;have HLY:=k_ hly;have HB1:=k_ hb1;have HC:=k_ hC;have HA:=k_ hA;clear hy hw1 hly hb1 hC hA qa hw hv hfit hfs g0 g1 g2 g3 hf;obtain⟨N,hN⟩:∃ N,N=p.funcs[j].code.length:=⟨_,rfl⟩;rw[← hN] at hr QA hN64 g4;have HRE:=k_ hr;clear hr hN
 go_enter Tryz.func114,Tryz.ntmps114
 go_upto_region 1 with fail
 rw[← HY.out,← HW1.out]
 go_quiet (fail)
 obtain⟨w2,hw2⟩:∃ w2,w2=w1.drewN nq:=⟨_,rfl⟩;have hb12:=below_drewN (Below.refl w1.heap.size w1) nq;rw[← hw2] at hb12 ⊢;clear hw2 r0 r1 r2 r3 r4 r5 r6 g4;have HB12:=k_ hb12;clear hb12
 go_upto_region 2 with fail
 go_loopw [23] (fun i wr=>∃ k:Nat,k≤N∧i=.int .i64 k∧Below w1.heap.size w1 wr∧∀ q,q<k→A q=false) (fun i _=>N - (intOf i).toNat)
 case atStart=>exact⟨0,Nat.zero_le _,rfl,HB12.out,fun q hq=>absurd hq (Nat.not_lt_zero _)⟩
 case round =>
  obtain⟨k,hk,rfl,hbr,hall⟩:=hrel
  by_cases hlt:k<N
  ·have hklt:(k:Int)<(N:Int):=by omega
   have i1:IntKind.i64.wrap ((k:Int)+1)=(k:Int)+1:=IntWalk.i64_in _ (by omega);have hWr:=HWV.out.below hbr;obtain⟨r0,r1,r2,r3,r4,r5,r6⟩:=hWr.cells rfl;have hI64:aJ (j:Int)∧aJ (k:Int):=⟨⟨by omega,by omega⟩,⟨by omega,by omega⟩⟩;have hb5:=(Below.refl wr.heap.size wr).alloc (Nat.le_refl _) (.cells #[.int .i64 j,.int .i64 k] 147);have hl5:=ai wr (.cells #[.int .i64 j,.int .i64 k] 147);obtain⟨z,hz⟩:∃ z,z=wr.heap.size:=⟨_,rfl⟩;obtain⟨w5,hw5⟩:∃ w5,w5=wr.alloc (.cells #[.int .i64 j,.int .i64 k] 147):=⟨_,rfl⟩;rw[← hw5] at hb5 hl5;rw[← hz] at hl5;have hW5:=hWr.below hb5;have hB5:=hbr.trans (hb5.mono hbr.size);have z0:w5.cell? ⟨z,0,none⟩=some (.int .i64 j):=(aa hl5 0).1;have z1:w5.cell? ⟨z,1,none⟩=some (.int .i64 k):=(aa hl5 1).1;have HZ:=k_ hz;have HW5:=k_ hw5;have HB5:=k_ hB5;have HALL:=k_ hall
   cases hm:M k with
   | none =>
     have hlk:∀ m,(Instr.lookup 187 (.map (some b)) (.agg #[.int .i64 j,.int .i64 k]) true).run Tryz.prog (w5.drewN m)=.ok (.tuple #[.slice none 0 0,.bool false]) (w5.drewN m):=fun m=>((hW5.below (below_drewN (Below.refl w5.heap.size w5) m)).map.none_run ⟨((j:Int),(k:Int)),hI64⟩ ((HC.out k hI64).trans hm)).1
     have hak:=HA.out k hm;have hall2:∀ q,q<k+1→A q=false:=fun q hq=>by
      by_cases e:q=k
      ·subst e;exact hak
      ·exact HALL.out q (by omega)
     obtain⟨t0,t1,t2,t3,t4,t5,t6⟩:=hW5.cells rfl;have hlkd:=hlk 1;clear hz hw5 hl5 hb5 hB5 hall hWr hW5 hbr hm hak hlk;have HALL2:=k_ hall2;clear hall2
     go_upto_region 5 with fail
     rw[← HZ.out,← HW5.out];have hlkd:(Instr.lookup 187 (.map (some b)) (.agg #[.int .i64 j,.int .i64 k]) true).run Tryz.prog w5.drew=.ok (.tuple #[.slice none 0 0,.bool false]) w5.drew:=hlkd;clear r0 r1 r2 r3 r4 r5 r6
     go_cut [8,9] (fun s8 s9 wx=>s9=.bool false∧wx=w5.drew)
     case first =>
      go_region_law (fail)
      all_goals
       go_wp2_with fail
       go_meet
       exact⟨rfl,rfl⟩
     case rest =>
      obtain⟨rfl,rfl⟩:=hcut;clear hlkd t0 t1 t2 t3 t4 t5 t6 z0 z1;go_wp2_with fail
      go_roundw
      case rel=>exact⟨k+1,hlt,by go_num,HB5.out.drew,HALL2.out⟩
      case measure=>simp[intOf];omega
   | some K =>
     obtain⟨ka,kc,_,hlks⟩:=hW5.map.some_runs ⟨((j:Int),(k:Int)),hI64⟩ K ((HC.out k hI64).trans hm);have hlkd:(Instr.lookup 187 (.map (some b)) (.agg #[.int .i64 j,.int .i64 k]) true).run Tryz.prog w5.drew=.ok (.tuple #[.slice ka K.length kc,.bool true]) w5.drew:=(hlks w5.drew (Below.refl w5.heap.size w5).drew).1;clear hlks;have qk:=QA.out w5.drew HB5.out.drew k hlt (by rw[hm];rfl);obtain⟨t0,t1,t2,t3,t4,t5,t6⟩:=hW5.cells rfl;clear hz hw5 hl5 hb5 hB5 hall hWr hW5 hbr hm;have QK:=k_ qk;clear qk
     go_upto_region 5 with fail
     rw[← HZ.out,← HW5.out];clear r0 r1 r2 r3 r4 r5 r6
     go_cut [8,9] (fun s8 s9 wx=>s9=.bool true∧wx=w5.drew)
     case first =>
      go_region_law (fail)
      all_goals
       go_wp2_with fail
       go_meet
       exact⟨rfl,rfl⟩
     case rest =>
      obtain⟨rfl,rfl⟩:=hcut;replace z0:w5.drew.cell? ⟨z,0,none⟩=some (.int .i64 j):=z0;replace z1:w5.drew.cell? ⟨z,1,none⟩=some (.int .i64 k):=z1;clear hlkd t0 t1 t2 t3 t4 t5 t6;go_wp2_with fail;refine QK.out.mono ?_;rintro e w6 ⟨rfl,hb6⟩;replace z0:=ae hb6 z0;replace z1:=ae hb6 z1;have HB6:=k_ (HB5.out.drew.trans (hb6.mono HB5.out.size));clear hb6
      cases hak:A k
      ·have hall2:∀ q,q<k+1→A q=false:=fun q hq=>by
        by_cases e:q=k
        ·subst e;exact hak
        ·exact HALL.out q (by omega)
       have HALL2:=k_ hall2;clear hall2 hak z0 z1;go_wp2_with fail
       go_roundw
       case rel=>exact⟨k+1,hlt,by go_num,HB6.out,HALL2.out⟩
       case measure=>simp[intOf];omega
      ·have hrr:=HRE.out.trans (uw hlt HALL.out hak)
       have hl6:=(fb_ HB6.out).heap HLY.out (fun h=>h);have y0:w6.cell? ⟨y,0,none⟩=some (.int .i64 0):=(aa hl6 0).1;have y1:w6.cell? ⟨y,1,none⟩=some (.int .i64 0):=(aa hl6 1).1;have f0:=(aa hl6 0).2;have f1:=(aa hl6 1).2;have hrw:=ag (ag hl6 0 (.int .i64 (j:Int))) 1 (.int .i64 (k:Int));have hfx:Fr (onB y) w6 _:=((Fr.refl (onB y) w6).setCell (p:=⟨y,0,none⟩) (fun _=>rfl) (.int .i64 (j:Int))).setCell (p:=⟨y,1,none⟩) (fun _=>rfl) (.int .i64 (k:Int));have hbx:=(HB1.out.trans (HB6.out.mono HB1.out.size)).trans (hfx.below (HB1.out.trans (HB6.out.mono HB1.out.size)).size (fun q hq=>by unfold onB at hq;have:=HY.out;omega));have HRR:=k_ hrw;have HPP:=k_ (nH (j:=j) hrr hbx);clear hrr hl6 hrw hfx hbx hak
       go_wp2_with (with_reducible refine bodyPost_ret ?_ rfl HPP.out;have k0:=(aa HRR.out 0).1;have k1:=(aa HRR.out 1).1;simp at k0 k1;simp[results,Tryz.results114,go_sem,k0,k1])
  ·have hk':k=N:=by omega
   subst hk';have hrr:=HRE.out.trans (uy hall);have hl6:=(fb_ hbr).heap HLY.out (fun h=>h);have y0:wr.cell? ⟨y,0,none⟩=some (.int .i64 0):=(aa hl6 0).1;have y1:wr.cell? ⟨y,1,none⟩=some (.int .i64 0):=(aa hl6 1).1;have f0:=(aa hl6 0).2;have f1:=(aa hl6 1).2;have hrw:=ag (ag hl6 0 (.int .i64 0)) 1 (.int .i64 0);have hfx:Fr (onB y) wr _:=((Fr.refl (onB y) wr).setCell (p:=⟨y,0,none⟩) (fun _=>rfl) (.int .i64 0)).setCell (p:=⟨y,1,none⟩) (fun _=>rfl) (.int .i64 0);have hbx:=(HB1.out.trans (hbr.mono HB1.out.size)).trans (hfx.below (HB1.out.trans (hbr.mono HB1.out.size)).size (fun q hq=>by unfold onB at hq;have:=HY.out;omega));have HRR:=k_ hrw;have HPP:=k_ (nG (j:=j) hrr hbx);clear hrr hl6 hrw hfx hbx hbr hall
   go_wp2_with (with_reducible refine bodyPost_ret ?_ rfl HPP.out;have k0:=(aa HRR.out 0).1;have k1:=(aa HRR.out 1).1;simp at k0 k1;simp[results,Tryz.results114,go_sem,k0,k1])
theorem ug (w:World) (B wb b n:Nat) (V D:Nat→Prop) (c0 c1 c2 tv:Value) (j:Nat) (C:Pl→Option (List Int)) (l:List Int) (p:Prg) (M:Flo) (A:Nat→Bool) (hw:WalkV w B wb b n V c0 c1 c2 (j:Int) C tv l) (hv:aD w D p c0 c1 c2) (hf:PrgFit p) (hj:j<p.funcs.length)
  (hC:∀ (q:Nat) h,C ⟨((j:Int),(q:Int)),h⟩=M q) (hA:∀ q,M q=none→A q=false)
  (qa:∀ W',Below w.heap.size w W'→∀ q,q<p.funcs[j].code.length→(M q).isSome=true→Calls Tryz.prog 116 #[.pointer (some ⟨wb,0,none⟩),.agg #[.int .i64 j,.int .i64 q]] W' fun e w'=>e=.returned (.bool (A q))∧Below W'.heap.size W' w') :
  Calls Tryz.prog 114 #[.pointer (some ⟨wb,0,none⟩),.func (.func 116) #[.pointer (some ⟨wb,0,none⟩)] #[]] w (jY j ((List.range p.funcs[j].code.length).find? A) w):=by
 have hfit:=hf.fn _ (List.getElem_mem hj);have hN64:=hfit.code2;have hj16:j<16:=by have:=hf.funcs2;omega
 obtain⟨r,hr⟩:∃ r,r=(List.range p.funcs[j].code.length).find? A:=⟨_,rfl⟩;rw[← hr];have hb1:=(Below.refl w.heap.size w).alloc (Nat.le_refl _) (.cells #[.int .i64 0,.int .i64 0] 147);have hly:=ai w (.cells #[.int .i64 0,.int .i64 0] 147);obtain⟨y,hy⟩:∃ y,y=w.heap.size:=⟨_,rfl⟩;obtain⟨w1,hw1⟩:∃ w1,w1=w.alloc (.cells #[.int .i64 0,.int .i64 0] 147):=⟨_,rfl⟩;rw[← hw1] at hb1 hly;rw[← hy] at hly;obtain⟨r0,r1,r2,r3,r4,r5,r6⟩:=(hw.below hb1).cells rfl;have hv1:=hv.fr (fb_ hb1) (fun _ _ h=>h);obtain⟨⟨a0,m0,rfl,_⟩,⟨a1,m1,rfl,_⟩,a2,m2,rfl,hfs⟩:=hv1;obtain⟨bb,o,rfl,_,x0,x1,x2,x3,x4,g0,g1,g2,g3,g4,hfv⟩:=hfs j hj;obtain⟨_,_,_,_,e4,e5,rfl,_⟩:=hfv;have hj1:(j:Int)<p.funcs.length:=by omega
 have HWV:=k_ (hw.below hb1);have QA:=k_ (fun W' (h:Below w1.heap.size w1 W')=>qa W' (hb1.trans (h.mono hb1.size)));have HY:=k_ hy;have HW1:=k_ hw1;have HLY:=k_ hly;have HB1:=k_ hb1;have HC:=k_ hC;have HA:=k_ hA;clear hy hw1 hly hb1 hC hA qa hw hv hfit hfs g0 g1 g2 g3 hf;obtain⟨N,hN⟩:∃ N,N=p.funcs[j].code.length:=⟨_,rfl⟩;rw[← hN] at hr QA hN64 g4;have HRE:=k_ hr;clear hr hN
 go_enter Tryz.func114,Tryz.ntmps114
 go_upto_region 1 with fail
 rw[← HY.out,← HW1.out]
 go_quiet (fail)
 obtain⟨w2,hw2⟩:∃ w2,w2=w1.drewN nq:=⟨_,rfl⟩;have hb12:=below_drewN (Below.refl w1.heap.size w1) nq;rw[← hw2] at hb12 ⊢;clear hw2 r0 r1 r2 r3 r4 r5 r6 g4;have HB12:=k_ hb12;clear hb12
 go_upto_region 2 with fail
 go_loopw [23] (fun i wr=>∃ k:Nat,k≤N∧i=.int .i64 k∧Below w1.heap.size w1 wr∧∀ q,q<k→A q=false) (fun i _=>N - (intOf i).toNat)
 case atStart=>exact⟨0,Nat.zero_le _,rfl,HB12.out,fun q hq=>absurd hq (Nat.not_lt_zero _)⟩
 case round =>
  obtain⟨k,hk,rfl,hbr,hall⟩:=hrel
  by_cases hlt:k<N
  ·have hklt:(k:Int)<(N:Int):=by omega
   have i1:IntKind.i64.wrap ((k:Int)+1)=(k:Int)+1:=IntWalk.i64_in _ (by omega);have hWr:=HWV.out.below hbr;obtain⟨r0,r1,r2,r3,r4,r5,r6⟩:=hWr.cells rfl;have hI64:aJ (j:Int)∧aJ (k:Int):=⟨⟨by omega,by omega⟩,⟨by omega,by omega⟩⟩;have hb5:=(Below.refl wr.heap.size wr).alloc (Nat.le_refl _) (.cells #[.int .i64 j,.int .i64 k] 147);have hl5:=ai wr (.cells #[.int .i64 j,.int .i64 k] 147);obtain⟨z,hz⟩:∃ z,z=wr.heap.size:=⟨_,rfl⟩;obtain⟨w5,hw5⟩:∃ w5,w5=wr.alloc (.cells #[.int .i64 j,.int .i64 k] 147):=⟨_,rfl⟩;rw[← hw5] at hb5 hl5;rw[← hz] at hl5;have hW5:=hWr.below hb5;have hB5:=hbr.trans (hb5.mono hbr.size);have z0:w5.cell? ⟨z,0,none⟩=some (.int .i64 j):=(aa hl5 0).1;have z1:w5.cell? ⟨z,1,none⟩=some (.int .i64 k):=(aa hl5 1).1;have HZ:=k_ hz;have HW5:=k_ hw5;have HB5:=k_ hB5;have HALL:=k_ hall
   cases hm:M k with
   | none =>
     have hlk:∀ m,(Instr.lookup 187 (.map (some b)) (.agg #[.int .i64 j,.int .i64 k]) true).run Tryz.prog (w5.drewN m)=.ok (.tuple #[.slice none 0 0,.bool false]) (w5.drewN m):=fun m=>((hW5.below (below_drewN (Below.refl w5.heap.size w5) m)).map.none_run ⟨((j:Int),(k:Int)),hI64⟩ ((HC.out k hI64).trans hm)).1
     have hak:=HA.out k hm;have hall2:∀ q,q<k+1→A q=false:=fun q hq=>by
      by_cases e:q=k
      ·subst e;exact hak
      ·exact HALL.out q (by omega)
     obtain⟨t0,t1,t2,t3,t4,t5,t6⟩:=hW5.cells rfl;have hlkd:=hlk 1;clear hz hw5 hl5 hb5 hB5 hall hWr hW5 hbr hm hak hlk;have HALL2:=k_ hall2;clear hall2
     go_upto_region 5 with fail
     rw[← HZ.out,← HW5.out];have hlkd:(Instr.lookup 187 (.map (some b)) (.agg #[.int .i64 j,.int .i64 k]) true).run Tryz.prog w5.drew=.ok (.tuple #[.slice none 0 0,.bool false]) w5.drew:=hlkd;clear r0 r1 r2 r3 r4 r5 r6
     go_cut [8,9] (fun s8 s9 wx=>s9=.bool false∧wx=w5.drew)
     case first =>
      go_region_law (fail)
      all_goals
       go_wp2_with fail
       go_meet
       exact⟨rfl,rfl⟩
     case rest =>
      obtain⟨rfl,rfl⟩:=hcut;clear hlkd t0 t1 t2 t3 t4 t5 t6 z0 z1;go_wp2_with fail
      go_roundw
      case rel=>exact⟨k+1,hlt,by go_num,HB5.out.drew,HALL2.out⟩
      case measure=>simp[intOf];omega
   | some K =>
     obtain⟨ka,kc,_,hlks⟩:=hW5.map.some_runs ⟨((j:Int),(k:Int)),hI64⟩ K ((HC.out k hI64).trans hm);have hlkd:(Instr.lookup 187 (.map (some b)) (.agg #[.int .i64 j,.int .i64 k]) true).run Tryz.prog w5.drew=.ok (.tuple #[.slice ka K.length kc,.bool true]) w5.drew:=(hlks w5.drew (Below.refl w5.heap.size w5).drew).1;clear hlks;have qk:=QA.out w5.drew HB5.out.drew k hlt (by rw[hm];rfl);obtain⟨t0,t1,t2,t3,t4,t5,t6⟩:=hW5.cells rfl;clear hz hw5 hl5 hb5 hB5 hall hWr hW5 hbr hm;have QK:=k_ qk;clear qk
     go_upto_region 5 with fail
     rw[← HZ.out,← HW5.out];clear r0 r1 r2 r3 r4 r5 r6
     go_cut [8,9] (fun s8 s9 wx=>s9=.bool true∧wx=w5.drew)
     case first =>
      go_region_law (fail)
      all_goals
       go_wp2_with fail
       go_meet
       exact⟨rfl,rfl⟩
     case rest =>
      obtain⟨rfl,rfl⟩:=hcut;replace z0:w5.drew.cell? ⟨z,0,none⟩=some (.int .i64 j):=z0;replace z1:w5.drew.cell? ⟨z,1,none⟩=some (.int .i64 k):=z1;clear hlkd t0 t1 t2 t3 t4 t5 t6;go_wp2_with fail;refine QK.out.mono ?_;rintro e w6 ⟨rfl,hb6⟩;replace z0:=ae hb6 z0;replace z1:=ae hb6 z1;have HB6:=k_ (HB5.out.drew.trans (hb6.mono HB5.out.size));clear hb6
      cases hak:A k
      ·have hall2:∀ q,q<k+1→A q=false:=fun q hq=>by
        by_cases e:q=k
        ·subst e;exact hak
        ·exact HALL.out q (by omega)
       have HALL2:=k_ hall2;clear hall2 hak z0 z1;go_wp2_with fail
       go_roundw
       case rel=>exact⟨k+1,hlt,by go_num,HB6.out,HALL2.out⟩
       case measure=>simp[intOf];omega
      ·have hrr:=HRE.out.trans (uw hlt HALL.out hak)
       have hl6:=(fb_ HB6.out).heap HLY.out (fun h=>h);have y0:w6.cell? ⟨y,0,none⟩=some (.int .i64 0):=(aa hl6 0).1;have y1:w6.cell? ⟨y,1,none⟩=some (.int .i64 0):=(aa hl6 1).1;have f0:=(aa hl6 0).2;have f1:=(aa hl6 1).2;have hrw:=ag (ag hl6 0 (.int .i64 (j:Int))) 1 (.int .i64 (k:Int));have hfx:Fr (onB y) w6 _:=((Fr.refl (onB y) w6).setCell (p:=⟨y,0,none⟩) (fun _=>rfl) (.int .i64 (j:Int))).setCell (p:=⟨y,1,none⟩) (fun _=>rfl) (.int .i64 (k:Int));have hbx:=(HB1.out.trans (HB6.out.mono HB1.out.size)).trans (hfx.below (HB1.out.trans (HB6.out.mono HB1.out.size)).size (fun q hq=>by unfold onB at hq;have:=HY.out;omega));have HRR:=k_ hrw;have HPP:=k_ (nH (j:=j) hrr hbx);clear hrr hl6 hrw hfx hbx hak
       go_wp2_with (with_reducible refine bodyPost_ret ?_ rfl HPP.out;have k0:=(aa HRR.out 0).1;have k1:=(aa HRR.out 1).1;simp at k0 k1;simp[results,Tryz.results114,go_sem,k0,k1])
  ·have hk':k=N:=by omega
   subst hk';have hrr:=HRE.out.trans (uy hall);have hl6:=(fb_ hbr).heap HLY.out (fun h=>h);have y0:wr.cell? ⟨y,0,none⟩=some (.int .i64 0):=(aa hl6 0).1;have y1:wr.cell? ⟨y,1,none⟩=some (.int .i64 0):=(aa hl6 1).1;have f0:=(aa hl6 0).2;have f1:=(aa hl6 1).2;have hrw:=ag (ag hl6 0 (.int .i64 0)) 1 (.int .i64 0);have hfx:Fr (onB y) wr _:=((Fr.refl (onB y) wr).setCell (p:=⟨y,0,none⟩) (fun _=>rfl) (.int .i64 0)).setCell (p:=⟨y,1,none⟩) (fun _=>rfl) (.int .i64 0);have hbx:=(HB1.out.trans (hbr.mono HB1.out.size)).trans (hfx.below (HB1.out.trans (hbr.mono HB1.out.size)).size (fun q hq=>by unfold onB at hq;have:=HY.out;omega));have HRR:=k_ hrw;have HPP:=k_ (nG (j:=j) hrr hbx);clear hrr hl6 hrw hfx hbx hbr hall
   go_wp2_with (with_reducible refine bodyPost_ret ?_ rfl HPP.out;have k0:=(aa HRR.out 0).1;have k1:=(aa HRR.out 1).1;simp at k0 k1;simp[results,Tryz.results114,go_sem,k0,k1])
end Go.Proofs.YtlofbhoicbemnaaGreatDoor
