/- Walk: check.Program. Walks: where it may go on, the program's and the reference's. Walks: where it may go on, the reference's; the kinds .. -/
import Derived.Test.YtbkkhmafheimfaaGreatDoorVBc
import Derived.Test.YtbkkhmafheimfaaGreatDoorVBb
set_option linter.unusedVariables false
set_option linter.unusedSimpArgs false
set_option maxRecDepth 100000
set_option maxHeartbeats 3200000
namespace Go.Proofs.YtbkkhmafheimfaaGreatDoor
open Go.ChangeShapes Go.WideShapes Go.ChangeAt Go.RowKit Go.Maps
def ProgPost (p:Prg) (w:World) (e:Ending) (w':World):Prop :=
 e=.returned (.tuple #[.int .i64 (progS p).1,.agg #[.int .i64 (progS p).2.1,.int .i64 (progS p).2.2]])∧Below w.heap.size w w'
theorem progPost_of {p:Prg} {E a b:Int} {x y:Nat} {w w':World} (h:progS p=(E,x,y)) (hx:a=x) (hy:b=y) (hb:Below w.heap.size w w'):ProgPost p w (.returned (.tuple #[.int .i64 E,.agg #[.int .i64 a,.int .i64 b]])) w':=by
 unfold ProgPost;rw[h,hx,hy];exact⟨rfl,hb⟩
theorem progS_whole {p:Prg} (h:wholeS p≠0):progS p=(wholeS p,0,0):=by unfold progS;rw[if_pos h]
theorem progS_hit {p:Prg} (h:wholeS p=0) (k:Nat) (hk:k<p.funcs.length) (hp:∀ q:Nat,q<k→(funcS p (q:Int)).1=0) (hne:(funcS p k).1≠0):progS p=((funcS p k).1,k,(funcS p k).2):=by
 unfold progS;rw[if_neg (by simpa using h),firstAt_hit (f:=fun i:Nat=>(funcS p i).1) (k:=k) hk hp hne];simp only;rw[if_neg hne]
theorem progS_ok {p:Prg} (h:wholeS p=0) (hp:∀ q:Nat,q<p.funcs.length→(funcS p (q:Int)).1=0):progS p=(0,0,0):=by
 unfold progS;rw[if_neg (by simpa using h),firstAt_none (f:=fun i:Nat=>(funcS p i).1) hp]
 rfl
theorem progC_any (w:World) (D:Nat→Prop) (hD:∀ k,D k→k<w.heap.size) (p:Prg) (c0 c1 c2:Value) (hv:PrgVal w D p c0 c1 c2) (hp:PrgB p) (hq:PrgR p) :
  Calls Tryz.prog 55 #[.agg #[c0,c1,c2]] w (ProgPost p w):=by
 have hPP:∀ wr,Below w.heap.size w wr→PrgVal wr D p c0 c1 c2:=fun wr hb=>hv.fr (Fr.of_below hb (fun _=>False)) (fun _ _ h=>h)
 obtain⟨⟨a0,m0,rfl,_⟩,⟨a1,m1,rfl,_⟩,a2,m2,rfl,_⟩:=hv;have hbx:=fun wr h=>box2 w #[.slice a0 p.globals.length m0,.slice a1 p.shapes.length m1,.slice a2 p.funcs.length m2] #[.int .i64 0,.int .i64 0] 40 81 wr h
 have hz0:((w.alloc (.cells #[.slice a0 p.globals.length m0,.slice a1 p.shapes.length m1,.slice a2 p.funcs.length m2] 40)).alloc (.cells #[.int .i64 0,.int .i64 0] 81)).heap.size=w.heap.size+2:=by simp
 have hpl:=heap_new (w.alloc (.cells #[.slice a0 p.globals.length m0,.slice a1 p.shapes.length m1,.slice a2 p.funcs.length m2] 40)) (.cells #[.int .i64 0,.int .i64 0] 81);rw[show (w.alloc (.cells #[.slice a0 p.globals.length m0,.slice a1 p.shapes.length m1,.slice a2 p.funcs.length m2] 40)).heap.size=w.heap.size+1 from by simp] at hpl;obtain⟨W,hW⟩:∃ W,W=(w.alloc (.cells #[.slice a0 p.globals.length m0,.slice a1 p.shapes.length m1,.slice a2 p.funcs.length m2] 40)).alloc (.cells #[.int .i64 0,.int .i64 0] 81):=⟨_,rfl⟩;rw[← hW] at hbx hz0 hpl;have hs:∀ wr,Below W.heap.size W wr→wr.cell? ⟨w.heap.size,0,none⟩=some (.slice a0 p.globals.length m0)∧wr.cell? ⟨w.heap.size,1,none⟩=some (.slice a1 p.shapes.length m1)∧wr.cell? ⟨w.heap.size,2,none⟩=some (.slice a2 p.funcs.length m2)∧wr.heap[w.heap.size+1]?=some (.cells #[.int .i64 0,.int .i64 0] 81):=fun wr h=>by
  have hpl2:=(Fr.of_below h (fun _=>False)).heap hpl (fun h=>h);rw[hz0] at h;have hb:=hbx wr h;exact⟨hb.1 0 _ rfl,hb.1 1 _ rfl,hb.1 2 _ rfl,hpl2⟩
 have hbw:∀ wr,Below W.heap.size W wr→Below w.heap.size w wr:=fun wr h=>by rw[hz0] at h;exact(hbx wr h).2.2.1
 have hw0:=Below.refl W.heap.size W;have wh:=wholeC_any W D (fun k hk=>Nat.lt_of_lt_of_le (hD k hk) (hbw W hw0).size) p _ _ _ (hPP W (hbw W hw0)) hp hq;have fu:=fun wr (h:Below W.heap.size W wr) (k:Nat)=>funcC_any wr D (fun q hq=>Nat.lt_of_lt_of_le (hD q hq) (hbw wr h).size) p _ _ _ (hPP wr (hbw wr h)) hp hq k
 have HW:=k_ hW;have hfl:=hq.2.2.1;have hzw:w.heap.size+1<W.heap.size:=by omega
 clear hW hbx hz0 hpl hPP hp hq hD;have wnz:=@progS_whole p;have wzh:=@progS_hit p;have wzo:=@progS_ok p;generalize wholeS p=we at *;have WNZ:=k_ wnz;clear wnz;have WZH:=k_ wzh;clear wzh;have WZO:=k_ wzo;clear wzo;obtain⟨k0,k1,k2,k3⟩:=hs W hw0;have HZW:=k_ hzw;clear hzw;have HS:=k_ hs;clear hs;have HBW:=k_ hbw;clear hbw;have HW0:=k_ hw0;clear hw0;have WH:=k_ wh;clear wh;have FU:=k_ fu;clear fu
 go_enter Tryz.func55,Tryz.ntmps55
 go_upto_region 1 with fail
 rw[← HW.out];go_wp2_with fail;refine WH.out.mono ?_;rintro e w1 ⟨rfl,hb1⟩;have hbz:=HBW.out w1 hb1;clear k0 k1 k2 k3;obtain⟨k0,k1,k2,k3⟩:=HS.out w1 hb1
 by_cases hwe:we=0
 case neg =>
  have hwe1:(we != 0)=true:=by simpa using hwe
  have hr:=row_set (row_set k3 0 (.int .i64 0)) 1 (.int .i64 0);have hf:Fr (fun q=>q=w.heap.size+1) w1 _:=((Fr.refl (fun q=>q=w.heap.size+1) w1).setCell (p:=⟨w.heap.size+1,0,none⟩) (fun _=>rfl) (.int .i64 0)).setCell (p:=⟨w.heap.size+1,1,none⟩) (fun _=>rfl) (.int .i64 0);have hb:=hbz.trans (hf.below hbz.size (fun k hk=>by omega));obtain⟨_,_,f0,f1⟩:=two_cells k3;have hP:=progPost_of (WNZ.out hwe) rfl rfl hb;clear k3 hbz hwe hb1;have HR:=k_ hr;clear hr;have HP:=k_ hP;clear hP;clear hf hb
  go_wp2_with (with_reducible refine bodyPost_ret ?_ rfl HP.out;obtain⟨k0,k1,_⟩:=two_cells HR.out;simp[results,Tryz.results55,go_sem,k0,k1])
  all_goals (try trivial)
 subst hwe;have qWZH:=WZH.out rfl;clear WZH;have WZH:=k_ qWZH;clear qWZH;have qWZO:=WZO.out rfl;clear WZO;have WZO:=k_ qWZO;clear qWZO;have HB1:=k_ hb1;clear k3 hbz hb1;go_wp2_with fail
 go_loopw [17] (fun i wr=>∃ k:Nat,k≤p.funcs.length∧i=.int .i64 k∧Below W.heap.size W wr∧∀ q:Nat,q<k→(funcS p (q:Int)).1=0) (fun i _=>p.funcs.length - (intOf i).toNat)
 case atStart=>exact⟨0,Nat.zero_le _,rfl,HB1.out,fun q hq=>absurd hq (by omega)⟩
 case round =>
  clear k0 k1 k2;obtain⟨k,hk,rfl,hR,hall⟩:=hrel;have hbz:=HBW.out wr hR;obtain⟨k0,k1,k2,k3⟩:=HS.out wr hR
  by_cases hlt:k<p.funcs.length
  ·have fu:=FU.out wr hR k
   have hhit:=WZH.out k hlt hall;have hsu:(funcS p k).1=0→∀ q:Nat,q<k+1→(funcS p (q:Int)).1=0:=fun h q hq=>by
    by_cases he:q=k
    ·subst he;exact h
    ·exact hall q (by omega)
   unfold FuncPost placeS at fu;generalize funcS p (k:Int)=fs at *;obtain⟨ie,n⟩:=fs
   dsimp only at fu hhit hsu
   clear k3 hbz hall;have HHIT:=k_ hhit;clear hhit;have HSU:=k_ hsu;clear hsu;have HR:=k_ hR;clear hR
   by_cases hie:ie=0
   ·subst hie
    rw[if_pos rfl] at fu
    dsimp only at fu
    have hsv:=HSU.out rfl;clear HSU;have FU:=k_ fu;clear fu;have HSV:=k_ hsv;clear hsv;go_wp2_with fail;refine FU.out.mono ?_;rintro e w9 ⟨rfl,hb9⟩;have hR9:=HR.out.trans (hb9.mono HR.out.size);have hR10:=hR9.alloc hR9.size (.cells #[.int .i64 0,.int .i64 0] 81);clear hb9 hR9;have HR10:=k_ hR10;clear hR10;go_wp2_with fail
    go_roundw
    case rel=>exact⟨k+1,by omega,by go_num,HR10.out,HSV.out⟩
    case measure=>simp[intOf];omega
   ·have hie1:(ie != 0)=true:=by simpa using hie
    rw[if_neg hie] at fu
    dsimp only at fu
    have hpr:=HHIT.out hie;clear HHIT HSU hie;have FU:=k_ fu;clear fu;have HPR:=k_ hpr;clear hpr;go_wp2_with fail;refine FU.out.mono ?_;rintro e w9 ⟨rfl,hb9⟩;have hR9:=HR.out.trans (hb9.mono HR.out.size);have hq0:∀ wz,Below (w9.heap.size+1) (w9.alloc (.cells #[.int .i64 k,.int .i64 n] 81)) wz→wz.cell? ⟨w9.heap.size,0,none⟩=some (.int .i64 k)∧wz.cell? ⟨w9.heap.size,1,none⟩=some (.int .i64 n):=fun wz h=>⟨(box1 w9 _ _ wz h).1 0 _ rfl,(box1 w9 _ _ wz h).1 1 _ rfl⟩
    have hR10:=hR9.alloc hR9.size (.cells #[.int .i64 k,.int .i64 n] 81);have hsz:(w9.alloc (.cells #[.int .i64 k,.int .i64 n] 81)).heap.size=w9.heap.size+1:=by simp
    clear hb9 hR9
    go_upto_region 9 with fail
    obtain⟨w10,hw10⟩:∃ w10,w10=w9.alloc (.cells #[.int .i64 k,.int .i64 n] 81):=⟨_,rfl⟩;rw[← hw10] at hq0 hR10 hsz ⊢;clear hw10;obtain⟨l0,l1⟩:=hq0 w10 (by rw[← hsz];exact Below.refl _ _);have hbz:=HBW.out w10 hR10;clear k0 k1 k2;obtain⟨k0,k1,k2,k3⟩:=HS.out w10 hR10;have hr:=row_set (row_set k3 0 (.int .i64 (k:Int))) 1 (.int .i64 (n:Int));have hf:Fr (fun q=>q=w.heap.size+1) w10 _:=((Fr.refl (fun q=>q=w.heap.size+1) w10).setCell (p:=⟨w.heap.size+1,0,none⟩) (fun _=>rfl) (.int .i64 (k:Int))).setCell (p:=⟨w.heap.size+1,1,none⟩) (fun _=>rfl) (.int .i64 (n:Int));have hb:=hbz.trans (hf.below hbz.size (fun k hk=>by omega));obtain⟨_,_,f0,f1⟩:=two_cells k3;have hP:=progPost_of HPR.out rfl rfl hb.drew;have hr:=(Fr.refl (fun _=>False) _).drew.heap hr (fun h=>h);clear k3 hbz hR10 hq0;have HR:=k_ hr;clear hr;have HP:=k_ hP;clear hP;clear hf hb
    go_region
    all_goals
     go_wp2_with (with_reducible refine bodyPost_ret ?_ rfl HP.out;obtain⟨k0,k1,_⟩:=two_cells HR.out;simp[results,Tryz.results55,go_sem,k0,k1])
    all_goals (try trivial)
  ·have hk':k=p.funcs.length:=by omega
   subst hk';have hzz:=WZO.out hall;have hr:=row_set (row_set k3 0 (.int .i64 0)) 1 (.int .i64 0);have hf:Fr (fun q=>q=w.heap.size+1) wr _:=((Fr.refl (fun q=>q=w.heap.size+1) wr).setCell (p:=⟨w.heap.size+1,0,none⟩) (fun _=>rfl) (.int .i64 0)).setCell (p:=⟨w.heap.size+1,1,none⟩) (fun _=>rfl) (.int .i64 0);have hb:=hbz.trans (hf.below hbz.size (fun k hk=>by omega));obtain⟨_,_,f0,f1⟩:=two_cells k3;have hP:=progPost_of hzz rfl rfl hb;clear k3 hbz hall hR hzz;have HR:=k_ hr;clear hr;have HP:=k_ hP;clear hP;clear hf hb
   go_wp2_with (with_reducible refine bodyPost_ret ?_ rfl HP.out;obtain⟨k0,k1,_⟩:=two_cells HR.out;simp[results,Tryz.results55,go_sem,k0,k1])
   all_goals (try trivial)
end Go.Proofs.YtbkkhmafheimfaaGreatDoor
namespace Go.Proofs.YtbkkhmafheimfaaGreatDoor
open Go.ChangeShapes Go.WideShapes Go.ChangeAt Go.RowKit
theorem iAt_in {p:Prg} {fn pc:Int} {i:Ins} (h:iAt p fn pc=some i):∃ j m:Nat,fn=j∧pc=m∧∃ hj:j<p.funcs.length,p.funcs[j].code[m]?=some i:=by
 unfold iAt at h
 by_cases h1:0≤pc∧pc<(codeOf p fn).length
 ·rw[if_pos h1] at h
  unfold codeOf at h h1
  by_cases h2:withinB fn p.funcs.length=true
  ·rw[if_pos h2] at h h1
   obtain⟨h3,h4⟩:=withinB_of h2;have hj:fn.toNat<p.funcs.length:=by omega
   refine⟨fn.toNat,pc.toNat,by omega,by omega,hj,?_⟩
   simpa[hj] using h
  ·rw[if_neg h2] at h1
   simp at h1
   omega
 ·rw[if_neg h1] at h
  cases h
theorem iAt_at {p:Prg} {j m:Nat} {i:Ins} (hj:j<p.funcs.length) (h:p.funcs[j].code[m]?=some i):iAt p j m=some i:=by
 have hm:m<p.funcs[j].code.length:=by
  rcases Nat.lt_or_ge m p.funcs[j].code.length with h' | h'
  ·exact h'
  ·rw[List.getElem?_eq_none h'] at h;cases h
 have hw:withinB (j:Int) p.funcs.length=true:=by simp[withinB];omega
 unfold iAt codeOf;rw[if_pos hw];simp only[Int.toNat_natCast,List.getElem?_eq_getElem hj,Option.map_some,Option.getD_some];rw[if_pos ⟨by omega,by omega⟩];exact h
theorem instrS_ne (p:Prg) (f:Fun) (i:Ins):(instrS p f i == 1)=false:=by
 unfold instrS
 repeat' split
 all_goals rfl
def nextA (p:Prg) (fn pc:Int):List Int:=match iAt p fn pc with | none=>[] | some i=>nextK i pc
def NextPost (l:List Int) (w:World) (e:Ending) (w':World):Prop:=∃ v,e=.returned v∧Own intE w' w.heap.size v l∧Below w.heap.size w w'
theorem nextPost_nil {w w':World} (h:Below w.heap.size w w'):NextPost [] w (.returned (.slice none 0 0)) w':=⟨_,rfl,Own.nil _ _ _,h⟩
theorem nextPost_new {w w':World} (h:Below w.heap.size w w') (l:List Int) (cs:Array Value) (hc:cs.toList=l.flatMap intE.enc) (hl:l.length≤10):NextPost l w (.returned (.slice (some ⟨w'.heap.size,0,none⟩) l.length l.length)) (w'.alloc (.cells cs 3)):=by
 have ho:=own_new intE w' l cs hc (by unfold maxLen;omega);exact⟨_,rfl,ho.base (fun k hk=>Nat.le_trans h.size (ho.lt hk).1),h.alloc h.size _⟩
theorem next_any (w:World) (D:Nat→Prop) (hD:∀ k,D k→k<w.heap.size) (p:Prg) (c0 c1 c2:Value) (hv:PrgVal w D p c0 c1 c2) (hp:PrgB p) (hq:PrgR p) (fn pc:Int) (hfn:i64B fn) (hpc:i64B pc) :
  Calls Tryz.prog 107 #[.agg #[c0,c1,c2],.agg #[.int .i64 fn,.int .i64 pc]] w (NextPost (nextA p fn pc) w):=by
 have hP:∀ wr,Below w.heap.size w wr→PrgVal wr D p c0 c1 c2:=fun wr hb=>hv.fr (Fr.of_below hb (fun _=>False)) (fun _ _ h=>h)
 have ci:=fun wr (hb:Below w.heap.size w wr)=>instrC_any wr D p c0 c1 c2 fn pc (fun k hk=>Nat.lt_of_lt_of_le (hD k hk) hb.size) (hP wr hb) hfn hpc (codeOf_len hq fn) (calleeG_len hq) (slots_lt hp)
 have hPP:=hP;obtain⟨⟨a0,m0,rfl,_⟩,⟨a1,m1,rfl,_⟩,a2,m2,rfl,_⟩:=hv;have hbx:=fun wr h=>box2 w #[.slice a0 p.globals.length m0,.slice a1 p.shapes.length m1,.slice a2 p.funcs.length m2] #[.int .i64 fn,.int .i64 pc] 40 81 wr h
 have hz0:((w.alloc (.cells #[.slice a0 p.globals.length m0,.slice a1 p.shapes.length m1,.slice a2 p.funcs.length m2] 40)).alloc (.cells #[.int .i64 fn,.int .i64 pc] 81)).heap.size=w.heap.size+2:=by simp
 obtain⟨W,hW⟩:∃ W,W=(w.alloc (.cells #[.slice a0 p.globals.length m0,.slice a1 p.shapes.length m1,.slice a2 p.funcs.length m2] 40)).alloc (.cells #[.int .i64 fn,.int .i64 pc] 81):=⟨_,rfl⟩;rw[← hW] at hbx hz0;have hs:∀ wr,Below W.heap.size W wr→wr.cell? ⟨w.heap.size,0,none⟩=some (.slice a0 p.globals.length m0)∧wr.cell? ⟨w.heap.size,1,none⟩=some (.slice a1 p.shapes.length m1)∧wr.cell? ⟨w.heap.size,2,none⟩=some (.slice a2 p.funcs.length m2)∧wr.cell? ⟨w.heap.size+1,0,none⟩=some (.int .i64 fn)∧wr.cell? ⟨w.heap.size+1,1,none⟩=some (.int .i64 pc):=fun wr h=>by
  rw[hz0] at h;have hb:=hbx wr h;exact⟨hb.1 0 _ rfl,hb.1 1 _ rfl,hb.1 2 _ rfl,hb.2.1 0 _ rfl,hb.2.1 1 _ rfl⟩
 have hbw:∀ wr,Below W.heap.size W wr→Below w.heap.size w wr:=fun wr h=>by rw[hz0] at h;exact(hbx wr h).2.2.1
 have HW:=k_ hW;clear hW hbx hP;have ci:=ci W (hbw W (Below.refl _ _))
 cases hi:iAt p fn pc with
 | none =>
   have hnx:nextA p fn pc=[]:=by unfold nextA;rw[hi]
   rw[hnx];rw[instrE_none hi] at ci;obtain⟨k0,k1,k2,k3,k4⟩:=hs W (Below.refl _ _);clear hs hPP hi hnx hp hq hD;have CI:=k_ ci;clear ci;have HBW:=k_ hbw;clear hbw
   go_enter Tryz.func107,Tryz.ntmps107
   go_upto_region 1 with fail
   rw[← HW.out];go_wp2_with fail;refine CI.out.mono ?_;rintro e w1 ⟨rfl,hb1⟩;have HB3:=k_ (HBW.out _ hb1);clear hb1;go_wp2_with fail
   go_ret
   exact nextPost_nil HB3.out
 | some i =>
   have hnx:nextA p fn pc=nextK i pc:=by unfold nextA;rw[hi]
   obtain⟨NL,hNL⟩:∃ NL,NL=nextK i pc:=⟨_,rfl⟩;rw[hnx,← hNL];rw[instrE_some hi] at ci;have he:=instrS_ne p ((p.funcs[fn.toNat]?).getD fun0) i;obtain⟨j,m,rfl,rfl,hj,hcd⟩:=iAt_in hi;have hmm:m<p.funcs[j].code.length:=by
    rcases Nat.lt_or_ge m p.funcs[j].code.length with h' | h'
    ·exact h'
    ·rw[List.getElem?_eq_none h'] at hcd;cases hcd
   have hm3:=(hq.2.2.2.2 _ (List.getElem_mem hj)).2.2;generalize instrS p ((p.funcs[((j:Int)).toNat]?).getD fun0) i=E at *;obtain⟨_,_,_,_,e1,hfs⟩:=hPP W (hbw W (Below.refl _ _))
   injection e1 with e1 e2 e3
   clear e2 e3;rw[← e1] at hfs;clear e1;obtain⟨bb,o,rfl,_,y0,y1,y2,y3,y4,g0,g1,g2,g3,g4,hfv⟩:=hfs j hj;obtain⟨rfl,rfl,⟨e0,e1,rfl,_⟩,⟨e2,e3,rfl,_⟩,e4,e5,rfl,hcs⟩:=hfv;obtain⟨cb,co,rfl,_,q0,q1,q2,q3⟩:=hcs m hmm;rw[List.getElem?_eq_getElem hmm] at hcd
   injection hcd with hcd
   rw[hcd] at q0 q1 q2 q3;have hj1:(j:Int)<p.funcs.length:=by omega
   have hm1:(m:Int)<(p.funcs[j].code.length:Int):=by omega
   have i1:IntKind.i64.wrap ((m:Int)+1)=(m:Int)+1:=IntWalk.i64_in _ (by omega);clear hPP hi hnx hp hq hD hcs hfs hcd hm3 hmm;generalize p.funcs[j]=f at *;generalize f.code.length=cn at *;generalize f.args.length=an at *;generalize f.objects.length=on at *;generalize f.result=fr at *;generalize f.slots=fs at *;clear hj;obtain⟨xop,xa,xb,xc⟩:=i
   dsimp only at q0 q1 q2 q3
   obtain⟨k0,k1,k2,k3,k4⟩:=hs W (Below.refl _ _);have CI:=k_ ci;clear ci;have HBW:=k_ hbw;clear hbw;have HS:=k_ hs;clear hs;have HNL:=k_ hNL;clear hNL
   go_enter Tryz.func107,Tryz.ntmps107
   go_upto_region 1 with fail
   rw[← HW.out];go_wp2_with fail;refine CI.out.mono ?_;rintro e w1 ⟨rfl,hb1⟩;replace q0:=below_cell hb1 q0;replace q1:=below_cell hb1 q1;replace q2:=below_cell hb1 q2;replace q3:=below_cell hb1 q3;replace g0:=below_cell hb1 g0;replace g1:=below_cell hb1 g1;replace g2:=below_cell hb1 g2;replace g3:=below_cell hb1 g3;replace g4:=below_cell hb1 g4;clear k0 k1 k2 k3 k4;obtain⟨k0,k1,k2,k3,k4⟩:=HS.out w1 hb1;have b0:=World.block_lt k0;have b3:=World.block_lt k3;have bg:=World.block_lt g0;have bq:=World.block_lt q0
   dsimp only at b0 b3 bg bq
   have HB1:=k_ hb1;clear hb1
   go_upto_region 3 with fail
   go_cut [5] (fun s wx=>∃ z:Nat,s=.pointer (some ⟨z,0,none⟩)∧wx.heap[z]?=some (.cells #[.int .i64 xop,.int .i64 xa,.int .i64 xb,.int .i64 xc] 32)∧Below W.heap.size W wx)
   case first =>
    go_region
    all_goals
     go_wp2_with fail
     go_meet
     case rel=>exact⟨_,rfl,heap_new _ _,(HB1.out.drew).alloc (HB1.out.size) _⟩
   case rest =>
    obtain⟨z,rfl,hz,hRz⟩:=hcut;clear k0 k1 k2 k3 k4 q0 q1 q2 q3 g0 g1 g2 g3 g4;obtain⟨⟨o0,o1,o2,o3⟩,_⟩:=four_cells hz;obtain⟨_,_,_,k3,k4⟩:=HS.out wc hRz;have HB3:=k_ (HBW.out _ hRz);have o1':=o1;clear hz hRz o1' HB1 CI HBW HS
    by_cases h22:xop=22
    ·subst h22
     have e:NL=[]:=by rw[HNL.out];simp[nextK]
     have HE:=k_ e;clear e HNL;go_wp2_with fail
     go_ret
     rw[HE.out];exact nextPost_nil HB3.out
    by_cases h25:xop=25
    ·subst h25
     have e:NL=[]:=by rw[HNL.out];simp[nextK]
     have HE:=k_ e;clear e HNL;go_wp2_with fail
     go_ret
     rw[HE.out];exact nextPost_nil HB3.out
    by_cases h27:xop=27
    ·subst h27
     have e:NL=[]:=by rw[HNL.out];simp[nextK]
     have HE:=k_ e;clear e HNL;go_wp2_with fail
     go_ret
     rw[HE.out];exact nextPost_nil HB3.out
    by_cases h9:xop=9
    ·subst h9
     have e:NL=[xb]:=by rw[HNL.out];simp[nextK, *]
     have HE:=k_ e;clear e HNL;go_wp2_with fail
     go_ret
     rw[HE.out];exact nextPost_new HB3.out [xb] #[.int .i64 xb] rfl (by simp)
    by_cases h10:xop=10
    ·subst h10
     by_cases hb:xb=(m:Int)+1
     ·subst hb
      have e:NL=[(m:Int)+1]:=by rw[HNL.out];simp[nextK, *]
      have HE:=k_ e;clear e HNL;go_wp2_with fail
      go_ret
      rw[HE.out];exact nextPost_new HB3.out [(m:Int)+1] #[.int .i64 ((m:Int)+1)] rfl (by simp)
     ·have hb':(xb == (m:Int)+1)=false:=by simpa using hb
      have hb2:(xb != (m:Int)+1)=true:=by simpa using hb
      have e:NL=[(m:Int)+1,xb]:=by rw[HNL.out];simp[nextK, *]
      have HE:=k_ e;clear e HNL;go_wp2_with fail
      go_ret
      rw[HE.out];exact nextPost_new HB3.out [(m:Int)+1,xb] #[.int .i64 ((m:Int)+1),.int .i64 xb] rfl (by simp)
    have n22:(xop == 22)=false:=by simpa using h22
    have n25:(xop == 25)=false:=by simpa using h25
    have n27:(xop == 27)=false:=by simpa using h27
    have n9:(xop == 9)=false:=by simpa using h9
    have n10:(xop == 10)=false:=by simpa using h10
    have e:NL=[(m:Int)+1]:=by rw[HNL.out];simp[nextK, *]
    have HE:=k_ e;clear e HNL;go_wp2_with fail
    go_ret
    rw[HE.out];exact nextPost_new HB3.out [(m:Int)+1] #[.int .i64 ((m:Int)+1)] rfl (by simp)
theorem IntSl.wide {w:World} {D D':Nat→Prop} {a:Option Addr} {l:List Int} (h:IntSl w D a l) (hd:∀ k,D k→D' k):IntSl w D' a l:=fun j hj=>by
 obtain⟨b,o,h1,h2,h3⟩:=h j hj;exact⟨b,o,h1,hd b h2,h3⟩
theorem InsSlD.wide {w:World} {D D':Nat→Prop} {a:Option Addr} {l:List Ins} (h:InsSlD w D a l) (hd:∀ k,D k→D' k):InsSlD w D' a l:=fun j hj=>by
 obtain⟨b,o,h1,h2,h3⟩:=h j hj;exact⟨b,o,h1,hd b h2,h3⟩
theorem FunVal.wide {w:World} {D D':Nat→Prop} {f:Fun} {c0 c1 c2 c3 c4:Value} (h:FunVal w D f c0 c1 c2 c3 c4) (hd:∀ k,D k→D' k):FunVal w D' f c0 c1 c2 c3 c4:=by
 obtain⟨h1,h2,⟨a,c,h3,h4⟩,⟨a',c',h5,h6⟩,a'',c'',h7,h8⟩:=h;exact⟨h1,h2,⟨a,c,h3,h4.wide hd⟩,⟨a',c',h5,h6.wide hd⟩,a'',c'',h7,h8.wide hd⟩
theorem PrgVal.wide {w:World} {D D':Nat→Prop} {p:Prg} {c0 c1 c2:Value} (h:PrgVal w D p c0 c1 c2) (hd:∀ k,D k→D' k):PrgVal w D' p c0 c1 c2:=by
 obtain⟨⟨a,c,h1,h2⟩,⟨a1,c1',h3,h4⟩,a2,c2',h5,h6⟩:=h;refine⟨⟨a,c,h1,h2.wide hd⟩,⟨a1,c1',h3,fun j hj=>?_⟩,a2,c2',h5,fun j hj=>?_⟩
 ·obtain⟨b,o,e1,e2,a',c',e3,e4⟩:=h4 j hj
  exact⟨b,o,e1,hd b e2,a',c',e3,e4.wide hd⟩
 ·obtain⟨b,o,e1,e2,x0,x1,x2,x3,x4,y0,y1,y2,y3,y4,e3⟩:=h6 j hj
  exact⟨b,o,e1,hd b e2,x0,x1,x2,x3,x4,y0,y1,y2,y3,y4,e3.wide hd⟩
def stepA (p:Prg) (fn pc:Int) (K:List Int):Int × List Int :=
 match iAt p fn pc with
 | none=>(1,[])
 | some i=>if (K.length:Int)≠(fnAt p fn.toNat).slots then (1,[]) else if readsK p (fnAt p fn.toNat).result i K then (0,outK p (fnAt p fn.toNat) i K) else (3,[])
def StepPost (r:Int × List Int) (w:World) (e:Ending) (w':World):Prop:=∃ v,e=.returned (.tuple #[v,.int .i64 r.1])∧Own intE w' w.heap.size v r.2∧Below w.heap.size w w'
theorem stepPost_nil {w w':World} (E:Int) (h:Below w.heap.size w w'):StepPost (E,[]) w (.returned (.tuple #[.slice none 0 0,.int .i64 E])) w':=⟨_,rfl,Own.nil _ _ _,h⟩
theorem stepPost_own {w w':World} {v:Value} {L:List Int} (ho:Own intE w' w.heap.size v L) (h:Below w.heap.size w w'):StepPost (0,L) w (.returned (.tuple #[v,.int .i64 0])) w':=⟨_,rfl,ho,h⟩
theorem step_any (w:World) (D:Nat→Prop) (hD:∀ k,D k→k<w.heap.size) (p:Prg) (c0 c1 c2:Value) (hv:PrgVal w D p c0 c1 c2) (hp:PrgB p) (hq:PrgR p) (hf:PrgFit p) (fn pc:Int) (hfn:i64B fn) (hpc:i64B pc) (ka:Option Addr) (K:List Int) (kc:Nat) (hk:IntSl w D ka K) (hkl:K.length≤100000) :
  Calls Tryz.prog 109 #[.agg #[c0,c1,c2],.agg #[.int .i64 fn,.int .i64 pc],.slice ka K.length kc] w (StepPost (stepA p fn pc K) w):=by
 have hP:∀ wr,Below w.heap.size w wr→PrgVal wr D p c0 c1 c2:=fun wr hb=>hv.fr (Fr.of_below hb (fun _=>False)) (fun _ _ h=>h)
 have ci:=fun wr (hb:Below w.heap.size w wr)=>instrC_any wr D p c0 c1 c2 fn pc (fun k hk=>Nat.lt_of_lt_of_le (hD k hk) hb.size) (hP wr hb) hfn hpc (codeOf_len hq fn) (calleeG_len hq) (slots_lt hp)
 have hPP:=hP;obtain⟨⟨a0,m0,rfl,_⟩,⟨a1,m1,rfl,_⟩,a2,m2,rfl,_⟩:=hv;have hbx:=fun wr h=>box2 w #[.slice a0 p.globals.length m0,.slice a1 p.shapes.length m1,.slice a2 p.funcs.length m2] #[.int .i64 fn,.int .i64 pc] 40 81 wr h
 have hz0:((w.alloc (.cells #[.slice a0 p.globals.length m0,.slice a1 p.shapes.length m1,.slice a2 p.funcs.length m2] 40)).alloc (.cells #[.int .i64 fn,.int .i64 pc] 81)).heap.size=w.heap.size+2:=by simp
 obtain⟨W,hW⟩:∃ W,W=(w.alloc (.cells #[.slice a0 p.globals.length m0,.slice a1 p.shapes.length m1,.slice a2 p.funcs.length m2] 40)).alloc (.cells #[.int .i64 fn,.int .i64 pc] 81):=⟨_,rfl⟩;rw[← hW] at hbx hz0;have hs:∀ wr,Below W.heap.size W wr→wr.cell? ⟨w.heap.size,0,none⟩=some (.slice a0 p.globals.length m0)∧wr.cell? ⟨w.heap.size,1,none⟩=some (.slice a1 p.shapes.length m1)∧wr.cell? ⟨w.heap.size,2,none⟩=some (.slice a2 p.funcs.length m2)∧wr.cell? ⟨w.heap.size+1,0,none⟩=some (.int .i64 fn)∧wr.cell? ⟨w.heap.size+1,1,none⟩=some (.int .i64 pc):=fun wr h=>by
  rw[hz0] at h;have hb:=hbx wr h;exact⟨hb.1 0 _ rfl,hb.1 1 _ rfl,hb.1 2 _ rfl,hb.2.1 0 _ rfl,hb.2.1 1 _ rfl⟩
 have hbw:∀ wr,Below W.heap.size W wr→Below w.heap.size w wr:=fun wr h=>by rw[hz0] at h;exact(hbx wr h).2.2.1
 have HW:=k_ hW;clear hW hbx hP;have ci:=ci W (hbw W (Below.refl _ _))
 cases hi:iAt p fn pc with
 | none =>
   have hnx:stepA p fn pc K=(1,[]):=by unfold stepA;rw[hi]
   rw[hnx];rw[instrE_none hi] at ci;obtain⟨k0,k1,k2,k3,k4⟩:=hs W (Below.refl _ _);clear hs hPP hi hnx hp hq hD hf hk;generalize K.length=kl at *;have CI:=k_ ci;clear ci;have HBW:=k_ hbw;clear hbw
   go_enter Tryz.func109,Tryz.ntmps109
   go_upto_region 1 with fail
   rw[← HW.out];go_wp2_with fail;refine CI.out.mono ?_;rintro e w1 ⟨rfl,hb1⟩;have HB3:=k_ (HBW.out _ hb1);clear hb1;go_wp2_with fail
   go_ret2
   exact stepPost_nil 1 HB3.out
 | some i =>
   obtain⟨j,m,rfl,rfl,hj,hcd⟩:=iAt_in hi;have hfa:fnAt p ((j:Int)).toNat=p.funcs[j]:=by unfold fnAt;simp[hj]
   have hnx:stepA p (j:Int) (m:Int) K=if (K.length:Int)≠p.funcs[j].slots then (1,[]) else if readsK p p.funcs[j].result i K then (0,outK p p.funcs[j] i K) else (3,[]):=by unfold stepA;rw[hi,hfa]
   rw[hnx];rw[instrE_some hi] at ci;have he:=instrS_ne p ((p.funcs[((j:Int)).toNat]?).getD fun0) i;have hmm:m<p.funcs[j].code.length:=by
    rcases Nat.lt_or_ge m p.funcs[j].code.length with h' | h'
    ·exact h'
    ·rw[List.getElem?_eq_none h'] at hcd;cases hcd
   have hff:=hf.fn _ (List.getElem_mem hj);have hso:=stepOk hf (hff.ins m i hcd) (by have:=hff.args;omega);have hob:∀ x ∈ p.funcs[j].objects,0≤x∧x<16:=fun x hx=>by have:=withinB_of (hff.objs x hx);have:=hf.shapes;omega
   have hm3:=(hq.2.2.2.2 _ (List.getElem_mem hj)).2.2;have hsl:=hff.slots;have hsa:=hff.args;generalize instrS p ((p.funcs[((j:Int)).toNat]?).getD fun0) i=E at *;obtain⟨_,_,_,_,e1,hfs⟩:=hPP W (hbw W (Below.refl _ _))
   injection e1 with e1 e2 e3
   clear e2 e3;rw[← e1] at hfs;clear e1;obtain⟨bb,o,rfl,_,y0,y1,y2,y3,y4,g0,g1,g2,g3,g4,hfv⟩:=hfs j hj;have hfw:=hfv;obtain⟨rfl,rfl,⟨e0,e1,rfl,_⟩,⟨e2,e3,rfl,_⟩,e4,e5,rfl,hcs⟩:=hfv;obtain⟨cb,co,rfl,_,q0,q1,q2,q3⟩:=hcs m hmm;rw[List.getElem?_eq_getElem hmm] at hcd
   injection hcd with hcd
   rw[hcd] at q0 q1 q2 q3;have hj1:(j:Int)<p.funcs.length:=by omega
   have hm1:(m:Int)<(p.funcs[j].code.length:Int):=by omega
   clear hi hnx hp hq hcs hfs hcd hm3 hmm hff hfa hf;generalize p.funcs[j]=f at *;obtain⟨k0,k1,k2,k3,k4⟩:=hs W (Below.refl _ _);have hC0:=hbw W (Below.refl _ _)
   by_cases hkn:(K.length:Int)=f.slots
   ·rw[if_neg (by omega)]
    have hkn2:f.slots.toNat=K.length:=by omega
    rw[hkn2] at hso;have af:=fun W' (h:Below W.heap.size W W')=>after_any W' D p f K (.slice a0 p.globals.length m0) (.slice a1 p.shapes.length m1) (.slice (some ⟨bb,o,none⟩) p.funcs.length m2) (.slice e0 f.args.length e1) (.slice e2 f.objects.length e3) (.slice (some ⟨cb,co,none⟩) f.code.length e5) (.slice ka K.length kc) i ⟨hPP W' (hbw W' h),hfw.fr (Fr.of_below h (fun _=>False)) (fun _ _ h=>h),⟨_,_,rfl,hk.fr (Fr.of_below (hbw W' h) (fun _=>False)) (fun _ _ h=>h)⟩,fun k hk=>Nat.lt_of_lt_of_le (hD k hk) (hbw W' h).size⟩ hso (by omega) hob
    unfold stepC at af;have hne:((K.length:Int) != f.slots)=false:=by simpa using hkn
    clear hPP hD hk hfw hso hob hsl hsa hkn2;generalize outK p f i K=KO at *;generalize readsK p f.result i K=R at *;obtain⟨SR,hsr⟩:∃ SR:Int × List Int,SR=if R=true then (0,KO) else (3,[]):=⟨_,rfl⟩;rw[← hsr];have HSR:=k_ hsr;clear hsr;generalize f.code.length=cn at *;generalize f.args.length=an at *;generalize f.objects.length=on at *;generalize f.result=fr at *;generalize hfsl:f.slots=fs at *;generalize K.length=kl at *;subst hkn;clear hfsl hj;obtain⟨xop,xa,xb,xc⟩:=i
    dsimp only at q0 q1 q2 q3 af
    have CI:=k_ ci;clear ci;have HBW:=k_ hbw;clear hbw;have HS:=k_ hs;clear hs;have AF:=k_ af;clear af;have HC0:=k_ hC0;clear hC0
    go_enter Tryz.func109,Tryz.ntmps109
    go_upto_region 1 with fail
    rw[← HW.out];go_wp2_with fail;refine CI.out.mono ?_;rintro e w1 ⟨rfl,hb1⟩;replace q0:=below_cell hb1 q0;replace q1:=below_cell hb1 q1;replace q2:=below_cell hb1 q2;replace q3:=below_cell hb1 q3;replace g0:=below_cell hb1 g0;replace g1:=below_cell hb1 g1;replace g2:=below_cell hb1 g2;replace g3:=below_cell hb1 g3;replace g4:=below_cell hb1 g4;clear k0 k1 k2 k3 k4;obtain⟨k0,k1,k2,k3,k4⟩:=HS.out w1 hb1;have b0:=World.block_lt k0;have b3:=World.block_lt k3;have bg:=World.block_lt g0;have bq:=World.block_lt q0
    dsimp only at b0 b3 bg bq
    have HB1:=k_ hb1;clear hb1
    go_upto_region 4 with fail
    have hly:=heap_new w1 (.cells #[.slice e0 an e1,.int .i64 fr,.int .i64 kl,.slice e2 on e3,.slice (some ⟨cb,co,none⟩) cn e5] 36);have hb2:=HB1.out.alloc HB1.out.size (.cells #[.slice e0 an e1,.int .i64 fr,.int .i64 kl,.slice e2 on e3,.slice (some ⟨cb,co,none⟩) cn e5] 36);have hb12:=(Below.refl w1.heap.size w1).alloc (Nat.le_refl _) (.cells #[.slice e0 an e1,.int .i64 fr,.int .i64 kl,.slice e2 on e3,.slice (some ⟨cb,co,none⟩) cn e5] 36);obtain⟨w2,hw2⟩:∃ w2,w2=w1.alloc (.cells #[.slice e0 an e1,.int .i64 fr,.int .i64 kl,.slice e2 on e3,.slice (some ⟨cb,co,none⟩) cn e5] 36):=⟨_,rfl⟩;rw[← hw2] at hly hb2 hb12 ⊢;obtain⟨⟨z0,z1,z2,z3,z4⟩,_⟩:=five_cells hly;replace q0:=below_cell hb12 q0;replace q1:=below_cell hb12 q1;replace q2:=below_cell hb12 q2;replace q3:=below_cell hb12 q3;clear k0 k1 k2 k3 k4 g0 g1 g2 g3 g4 b0 b3 bg bq hly hb12 hw2;obtain⟨k0,k1,k2,k3,k4⟩:=HS.out w2 hb2;have HR0:=k_ hb2.drew;clear hb2
    go_cut [9,10] (fun s9 s10 wx=>s10=.bool R∧Own intE wx w.heap.size s9 KO∧Below w.heap.size w wx)
    case first =>
     have hS:∀ w',Below w2.heap.size w2 w'→w'.cell? ⟨w.heap.size,0,none⟩=some (.slice a0 p.globals.length m0)∧w'.cell? ⟨w.heap.size,1,none⟩=some (.slice a1 p.shapes.length m1)∧w'.cell? ⟨w.heap.size,2,none⟩=some (.slice (some ⟨bb,o,none⟩) p.funcs.length m2)∧w'.cell? ⟨w.heap.size+1,1,none⟩=some (.int .i64 m)∧w'.cell? ⟨w1.heap.size,0,none⟩=some (.slice e0 an e1)∧w'.cell? ⟨w1.heap.size,1,none⟩=some (.int .i64 fr)∧w'.cell? ⟨w1.heap.size,2,none⟩=some (.int .i64 kl)∧w'.cell? ⟨w1.heap.size,3,none⟩=some (.slice e2 on e3)∧w'.cell? ⟨w1.heap.size,4,none⟩=some (.slice (some ⟨cb,co,none⟩) cn e5)∧w'.cell? ⟨cb,co+m * 4,none⟩=some (.int .i64 xop)∧w'.cell? ⟨cb,co+m * 4+1,none⟩=some (.int .i64 xa)∧w'.cell? ⟨cb,co+m * 4+2,none⟩=some (.int .i64 xb)∧w'.cell? ⟨cb,co+m * 4+3,none⟩=some (.int .i64 xc):=fun w' h=>⟨below_cell h k0,below_cell h k1,below_cell h k2,below_cell h k4,below_cell h z0,below_cell h z1,below_cell h z2,below_cell h z3,below_cell h z4,below_cell h q0,below_cell h q1,below_cell h q2,below_cell h q3⟩
     have hSd:=hS w2.drew (Below.refl w2.heap.size w2).drew;have HSS:=k_ hS;clear hS k0 k1 k2 k3 k4 z0 z1 z2 z3 z4 q0 q1 q2 q3
     go_region_held3 (fun w'=>w'.cell? ⟨w.heap.size,0,none⟩=some (.slice a0 p.globals.length m0)∧w'.cell? ⟨w.heap.size,1,none⟩=some (.slice a1 p.shapes.length m1)∧w'.cell? ⟨w.heap.size,2,none⟩=some (.slice (some ⟨bb,o,none⟩) p.funcs.length m2)∧w'.cell? ⟨w.heap.size+1,1,none⟩=some (.int .i64 m)∧w'.cell? ⟨w1.heap.size,0,none⟩=some (.slice e0 an e1)∧w'.cell? ⟨w1.heap.size,1,none⟩=some (.int .i64 fr)∧w'.cell? ⟨w1.heap.size,2,none⟩=some (.int .i64 kl)∧w'.cell? ⟨w1.heap.size,3,none⟩=some (.slice e2 on e3)∧w'.cell? ⟨w1.heap.size,4,none⟩=some (.slice (some ⟨cb,co,none⟩) cn e5)∧w'.cell? ⟨cb,co+m * 4,none⟩=some (.int .i64 xop)∧w'.cell? ⟨cb,co+m * 4+1,none⟩=some (.int .i64 xa)∧w'.cell? ⟨cb,co+m * 4+2,none⟩=some (.int .i64 xb)∧w'.cell? ⟨cb,co+m * 4+3,none⟩=some (.int .i64 xc)) (first | with_reducible exact hSd | with_reducible exact hS7 | go_keep) (first
      | (go_at_call 106
         refine(AF.out _ HR0.out).mono ?_;rintro e w3 ⟨v,rfl,ho3,hb3⟩;have hS7:=HSS.out w3 ((Below.refl w2.heap.size w2).drew.trans hb3);have HO3:=k_ (ho3.base (fun k hk=>Nat.le_trans (Nat.le_trans HC0.out.size HR0.out.size) (ho3.lt hk).1));have HB3:=k_ (HBW.out _ (HR0.out.trans (hb3.mono HR0.out.size)));clear ho3 hb3))
     all_goals
      go_wp2_with fail
      go_meet
      exact⟨rfl,HO3.out,HB3.out⟩
    case rest =>
     obtain⟨rfl,ho,hb⟩:=hcut;have HO:=k_ ho;have HB:=k_ hb;clear ho hb k0 k1 k2 k3 k4 q0 q1 q2 q3
     cases R
     ·have e:=HSR.out
      rw[if_neg (by decide)] at e;subst e;clear HSR;go_wp2_with fail
      go_ret2
      exact stepPost_nil 3 HB.out
     ·have e:=HSR.out
      rw[if_pos (by first | rfl | trivial)] at e;subst e;clear HSR;go_wp2_with fail
      go_ret2
      exact stepPost_own HO.out HB.out
   ·rw[if_pos hkn]
    have hne:((K.length:Int) != f.slots)=true:=by simpa using hkn
    clear hPP hD hk hfw hso hob hsl hsa hkn;generalize f.code.length=cn at *;generalize f.args.length=an at *;generalize f.objects.length=on at *;generalize f.result=fr at *;generalize f.slots=fs at *;generalize K.length=kl at *;clear hj;obtain⟨xop,xa,xb,xc⟩:=i
    dsimp only at q0 q1 q2 q3
    have CI:=k_ ci;clear ci;have HBW:=k_ hbw;clear hbw;have HS:=k_ hs;clear hs;have HC0:=k_ hC0;clear hC0
    go_enter Tryz.func109,Tryz.ntmps109
    go_upto_region 1 with fail
    rw[← HW.out];go_wp2_with fail;refine CI.out.mono ?_;rintro e w1 ⟨rfl,hb1⟩;replace g0:=below_cell hb1 g0;replace g1:=below_cell hb1 g1;replace g2:=below_cell hb1 g2;replace g3:=below_cell hb1 g3;replace g4:=below_cell hb1 g4;clear k0 k1 k2 k3 k4 q0 q1 q2 q3;obtain⟨k0,k1,k2,k3,k4⟩:=HS.out w1 hb1;have HB3:=k_ (HBW.out _ hb1);clear hb1;go_wp2_with fail
    go_ret2
    exact stepPost_nil 1 HB3.out
end Go.Proofs.YtbkkhmafheimfaaGreatDoor
