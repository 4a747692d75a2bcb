/- Walks: check.look's quiet, form. Walks: check.look's form, things. Walk: check.look's kinds. Walks: of a program of three kinds of .. -/
import Derived.Test.YtlofbhoicbemnaaGreatDoorDAm
set_option linter.unusedVariables false
set_option linter.unusedSimpArgs false
set_option maxRecDepth 100000
set_option maxHeartbeats 3200000
namespace Go.Proofs.YtlofbhoicbemnaaGreatDoor
open Go.ChangeShapes Go.WideShapes Go.ChangeAt Go.RowKit
def quietV (p:Prg) (r:Int) (i:Ins):Bool:=(i.op == 22 && r == 0) || (i.op == 21 && (calleeF p i).isSome && (calleeG p i).result == 0)
theorem quiet_eq (p:Prg) (f:Fun) (i:Ins):quietV p f.result i=quietB p f i:=by
 unfold quietV quietB calleeG
 cases calleeF p i with
 | none=>simp
 | some g=>simp
theorem quiet_any (w:World) (D:Nat→Prop) (hD:∀ k,D k→k<w.heap.size) (p:Prg) (c0 c1 c2 d0 d3 d4:Value) (r s:Int) (i:Ins) (fn pc:Int) (hv:PrgVal w D p c0 c1 c2) (hd0:d0.oneCell'=true) (hd3:d3.oneCell'=true) (hd4:d4.oneCell'=true) :
  Calls Tryz.prog 347 #[.agg (lookC c0 c1 c2 d0 d3 d4 r s i fn pc)] w fun e w'=>e=.returned (.bool (quietV p r i))∧Below w.heap.size w w':=by
 obtain⟨op,a,b,c⟩:=i;have ca:=fun W h1 h2=>callee_any W D h1 p c0 c1 c2 d0 d3 d4 r s ⟨op,a,b,c⟩ fn pc h2
 unfold CalleePost at ca;have hC0:=(Below.refl w.heap.size w).alloc (Nat.le_refl _) (.cells (lookC c0 c1 c2 d0 d3 d4 r s ⟨op,a,b,c⟩ fn pc) 360);have hbx:=box1 w (lookC c0 c1 c2 d0 d3 d4 r s ⟨op,a,b,c⟩ fn pc) 360 _ (Below.refl _ _);have hz0:(w.alloc (.cells (lookC c0 c1 c2 d0 d3 d4 r s ⟨op,a,b,c⟩ fn pc) 360)).heap.size=w.heap.size+1:=by simp
 obtain⟨W,hW⟩:∃ W,W=w.alloc (.cells (lookC c0 c1 c2 d0 d3 d4 r s ⟨op,a,b,c⟩ fn pc) 360):=⟨_,rfl⟩;rw[← hW] at hC0 hbx hz0;have q:∀ W',Below W.heap.size W W'→∀ j u,(lookC c0 c1 c2 d0 d3 d4 r s ⟨op,a,b,c⟩ fn pc)[j]?=some u→W'.cell? ⟨w.heap.size,j,none⟩=some u:=fun W' h j u hj=>below_cell h (hbx.1 j u hj)
 clear hbx;have HW:=k_ hW;clear hW;have hvW:∀ W',Below W.heap.size W W'→PrgVal W' D p c0 c1 c2:=fun W' h=>hv.fr (Fr.of_below (hC0.trans (h.mono hC0.size)) (fun _=>False)) (fun _ _ h=>h)
 have hDW:∀ k,D k→k<W.heap.size:=fun k hk=>by have:=hD k hk;omega
 have HQQ:=k_ q;clear q;have HC0:=k_ hC0;clear hC0;have HVW:=k_ hvW;clear hvW;have HDW:=k_ hDW;clear hDW;have HZ0:=k_ hz0;clear hz0;unfold quietV
 dsimp only
 generalize (calleeG p ⟨op,a,b,c⟩)=G at *;generalize (calleeF p ⟨op,a,b,c⟩).isSome=is at *;generalize hgr:G.result=gr at *;generalize hgs:G.slots=gs at *;clear hgr hgs;have CA:=k_ (ca W HDW.out (HVW.out W (Below.refl _ _)));clear ca hv hD;unfold lookC at *
 go_enter Tryz.func347,Tryz.ntmps347
 go_upto_region 1 with fail
 rw[← HW.out];have p0:W.cell? ⟨w.heap.size,0,none⟩=some c0:=HQQ.out _ (Below.refl _ _) 0 _ rfl;have p1:W.cell? ⟨w.heap.size,1,none⟩=some c1:=HQQ.out _ (Below.refl _ _) 1 _ rfl;have p2:W.cell? ⟨w.heap.size,2,none⟩=some c2:=HQQ.out _ (Below.refl _ _) 2 _ rfl;have p3:W.cell? ⟨w.heap.size,3,none⟩=some d0:=HQQ.out _ (Below.refl _ _) 3 _ rfl;have p4:W.cell? ⟨w.heap.size,4,none⟩=some (.int .i64 r):=HQQ.out _ (Below.refl _ _) 4 _ rfl;have p5:W.cell? ⟨w.heap.size,5,none⟩=some (.int .i64 s):=HQQ.out _ (Below.refl _ _) 5 _ rfl;have p6:W.cell? ⟨w.heap.size,6,none⟩=some d3:=HQQ.out _ (Below.refl _ _) 6 _ rfl;have p7:W.cell? ⟨w.heap.size,7,none⟩=some d4:=HQQ.out _ (Below.refl _ _) 7 _ rfl;have p8:W.cell? ⟨w.heap.size,8,none⟩=some (.int .i64 op):=HQQ.out _ (Below.refl _ _) 8 _ rfl;have p9:W.cell? ⟨w.heap.size,9,none⟩=some (.int .i64 a):=HQQ.out _ (Below.refl _ _) 9 _ rfl;have p10:W.cell? ⟨w.heap.size,10,none⟩=some (.int .i64 b):=HQQ.out _ (Below.refl _ _) 10 _ rfl;have p11:W.cell? ⟨w.heap.size,11,none⟩=some (.int .i64 c):=HQQ.out _ (Below.refl _ _) 11 _ rfl;have p12:W.cell? ⟨w.heap.size,12,none⟩=some (.int .i64 fn):=HQQ.out _ (Below.refl _ _) 12 _ rfl;have p13:W.cell? ⟨w.heap.size,13,none⟩=some (.int .i64 pc):=HQQ.out _ (Below.refl _ _) 13 _ rfl;go_wp2_with fail;refine CA.out.mono ?_;rintro e w1 ⟨x0,x3,x4,rfl,hfv,hb1⟩;obtain⟨hq1,hq2,⟨g0,g1,rfl,_⟩,⟨g2,g3,rfl,_⟩,g4,g5,rfl,_⟩:=hfv;clear hq1 hq2;clear p0 p1 p2 p3 p4 p5 p6 p7 p8 p9 p10 p11 p12 p13;have p0:w1.cell? ⟨w.heap.size,0,none⟩=some c0:=HQQ.out _ hb1 0 _ rfl;have p1:w1.cell? ⟨w.heap.size,1,none⟩=some c1:=HQQ.out _ hb1 1 _ rfl;have p2:w1.cell? ⟨w.heap.size,2,none⟩=some c2:=HQQ.out _ hb1 2 _ rfl;have p3:w1.cell? ⟨w.heap.size,3,none⟩=some d0:=HQQ.out _ hb1 3 _ rfl;have p4:w1.cell? ⟨w.heap.size,4,none⟩=some (.int .i64 r):=HQQ.out _ hb1 4 _ rfl;have p5:w1.cell? ⟨w.heap.size,5,none⟩=some (.int .i64 s):=HQQ.out _ hb1 5 _ rfl;have p6:w1.cell? ⟨w.heap.size,6,none⟩=some d3:=HQQ.out _ hb1 6 _ rfl;have p7:w1.cell? ⟨w.heap.size,7,none⟩=some d4:=HQQ.out _ hb1 7 _ rfl;have p8:w1.cell? ⟨w.heap.size,8,none⟩=some (.int .i64 op):=HQQ.out _ hb1 8 _ rfl;have p9:w1.cell? ⟨w.heap.size,9,none⟩=some (.int .i64 a):=HQQ.out _ hb1 9 _ rfl;have p10:w1.cell? ⟨w.heap.size,10,none⟩=some (.int .i64 b):=HQQ.out _ hb1 10 _ rfl;have p11:w1.cell? ⟨w.heap.size,11,none⟩=some (.int .i64 c):=HQQ.out _ hb1 11 _ rfl;have p12:w1.cell? ⟨w.heap.size,12,none⟩=some (.int .i64 fn):=HQQ.out _ hb1 12 _ rfl;have p13:w1.cell? ⟨w.heap.size,13,none⟩=some (.int .i64 pc):=HQQ.out _ hb1 13 _ rfl;have z0:=World.block_lt p0;have hB2:=HC0.out.trans (((hb1.trans ((Below.refl w1.heap.size w1).alloc (Nat.le_refl _) (.cells #[.slice g0 G.args.length g1,.int .i64 gr,.int .i64 gs,.slice g2 G.objects.length g3,.slice g4 G.code.length g5] 66) |>.mono hb1.size))).mono HC0.out.size);clear hb1;have HB2:=k_ hB2;clear hB2
 go_upto_region 2 with fail
 by_cases h1:op=22
 ·subst h1
  by_cases h2:r=0
  ·subst h2
   go_wp2_with fail
   go_ret
   exact⟨by simp[*],HB2.out⟩
  ·have h2':(r == 0)=false:=by simpa using h2
   clear h2;go_wp2_with fail
   go_ret
   exact⟨by simp[*],HB2.out⟩
 ·have h1':(op == 22)=false:=by simpa using h1
  clear h1
  by_cases h3:op=21
  ·subst h3
   cases is
   ·skip
    go_wp2_with fail
    go_ret
    exact⟨by simp[*],HB2.out⟩
   ·by_cases h4:gr=0
    ·subst h4
     go_wp2_with fail
     go_ret
     exact⟨by simp[*],HB2.out⟩
    ·have h4':(gr == 0)=false:=by simpa using h4
     clear h4;go_wp2_with fail
     go_ret
     exact⟨by simp[*],HB2.out⟩
  ·have h3':(op == 21)=false:=by simpa using h3
   clear h3;go_wp2_with fail
   go_ret
   exact⟨by simp[*],HB2.out⟩
theorem form_any (w:World) (D:Nat→Prop) (hD:∀ k,D k→k<w.heap.size) (p:Prg) (c0 c1 c2 d0 d3 d4:Value) (r s:Int) (i:Ins) (fn pc:Int) (hv:PrgVal w D p c0 c1 c2) (hd0:d0.oneCell'=true) (hd3:d3.oneCell'=true) (hd4:d4.oneCell'=true) :
  Calls Tryz.prog 292 #[.agg (lookC c0 c1 c2 d0 d3 d4 r s i fn pc)] w fun e w'=>e=.returned (.bool (knownS i.op && mayB i.a ((usesS i.op).1 && !quietV p r i) && mayB i.b (usesS i.op).2.1 && mayB i.c (usesS i.op).2.2))∧Below w.heap.size w w':=by
 obtain⟨op,a,b,c⟩:=i;have qu:=fun W h1 h2=>quiet_any W D h1 p c0 c1 c2 d0 d3 d4 r s ⟨op,a,b,c⟩ fn pc h2 hd0 hd3 hd4
 have hC0:=(Below.refl w.heap.size w).alloc (Nat.le_refl _) (.cells (lookC c0 c1 c2 d0 d3 d4 r s ⟨op,a,b,c⟩ fn pc) 360);have hbx:=box1 w (lookC c0 c1 c2 d0 d3 d4 r s ⟨op,a,b,c⟩ fn pc) 360 _ (Below.refl _ _);have hz0:(w.alloc (.cells (lookC c0 c1 c2 d0 d3 d4 r s ⟨op,a,b,c⟩ fn pc) 360)).heap.size=w.heap.size+1:=by simp
 obtain⟨W,hW⟩:∃ W,W=w.alloc (.cells (lookC c0 c1 c2 d0 d3 d4 r s ⟨op,a,b,c⟩ fn pc) 360):=⟨_,rfl⟩;rw[← hW] at hC0 hbx hz0;have q:∀ W',Below W.heap.size W W'→∀ j u,(lookC c0 c1 c2 d0 d3 d4 r s ⟨op,a,b,c⟩ fn pc)[j]?=some u→W'.cell? ⟨w.heap.size,j,none⟩=some u:=fun W' h j u hj=>below_cell h (hbx.1 j u hj)
 clear hbx;have HW:=k_ hW;clear hW;have hvW:∀ W',Below W.heap.size W W'→PrgVal W' D p c0 c1 c2:=fun W' h=>hv.fr (Fr.of_below (hC0.trans (h.mono hC0.size)) (fun _=>False)) (fun _ _ h=>h)
 have hDW:∀ k,D k→k<W.heap.size:=fun k hk=>by have:=hD k hk;omega
 have HQQ:=k_ q;clear q;have HC0:=k_ hC0;clear hC0;have HVW:=k_ hvW;clear hvW;have HDW:=k_ hDW;clear hDW;have HZ0:=k_ hz0;clear hz0
 dsimp only
 have us:=fun W=>uses_any W op
 unfold UsesSaid at us;have kn:=known_any op;generalize usesS op=U at *;obtain⟨v0,v1,v2⟩:=U;generalize knownS op=kb at *;generalize quietV p r ⟨op,a,b,c⟩=qb at *
 dsimp only at us ⊢
 have QU:=k_ (qu W HDW.out (HVW.out W (Below.refl _ _)));clear qu hv hD;have US:=k_ us;clear us;have KN:=k_ kn;clear kn;unfold lookC mayB at *
 go_enter Tryz.func292,Tryz.ntmps292
 go_upto_region 1 with fail
 rw[← HW.out];have p0:W.cell? ⟨w.heap.size,0,none⟩=some c0:=HQQ.out _ (Below.refl _ _) 0 _ rfl;have p1:W.cell? ⟨w.heap.size,1,none⟩=some c1:=HQQ.out _ (Below.refl _ _) 1 _ rfl;have p2:W.cell? ⟨w.heap.size,2,none⟩=some c2:=HQQ.out _ (Below.refl _ _) 2 _ rfl;have p3:W.cell? ⟨w.heap.size,3,none⟩=some d0:=HQQ.out _ (Below.refl _ _) 3 _ rfl;have p4:W.cell? ⟨w.heap.size,4,none⟩=some (.int .i64 r):=HQQ.out _ (Below.refl _ _) 4 _ rfl;have p5:W.cell? ⟨w.heap.size,5,none⟩=some (.int .i64 s):=HQQ.out _ (Below.refl _ _) 5 _ rfl;have p6:W.cell? ⟨w.heap.size,6,none⟩=some d3:=HQQ.out _ (Below.refl _ _) 6 _ rfl;have p7:W.cell? ⟨w.heap.size,7,none⟩=some d4:=HQQ.out _ (Below.refl _ _) 7 _ rfl;have p8:W.cell? ⟨w.heap.size,8,none⟩=some (.int .i64 op):=HQQ.out _ (Below.refl _ _) 8 _ rfl;have p9:W.cell? ⟨w.heap.size,9,none⟩=some (.int .i64 a):=HQQ.out _ (Below.refl _ _) 9 _ rfl;have p10:W.cell? ⟨w.heap.size,10,none⟩=some (.int .i64 b):=HQQ.out _ (Below.refl _ _) 10 _ rfl;have p11:W.cell? ⟨w.heap.size,11,none⟩=some (.int .i64 c):=HQQ.out _ (Below.refl _ _) 11 _ rfl;have p12:W.cell? ⟨w.heap.size,12,none⟩=some (.int .i64 fn):=HQQ.out _ (Below.refl _ _) 12 _ rfl;have p13:W.cell? ⟨w.heap.size,13,none⟩=some (.int .i64 pc):=HQQ.out _ (Below.refl _ _) 13 _ rfl;go_wp2_with fail;refine(US.out _).mono ?_;rintro e w1 ⟨rfl,rfl⟩
 cases v0
 ·have HB2:=k_ HC0.out
  go_wp2_with fail
  cases kb
  ·skip
   refine(KN.out _).mono ?_;rintro e wq ⟨rfl,rfl⟩;go_wp2_with fail
   go_ret
   exact⟨by simp[*],HB2.out⟩
  ·skip
   by_cases ha:a=0
   ·subst ha
    cases v1
    ·by_cases hb:b=0
     ·subst hb
      cases v2
      ·by_cases hc:c=0
       ·subst hc
        refine(KN.out _).mono ?_;rintro e wq ⟨rfl,rfl⟩;go_wp2_with fail
        go_ret
        exact⟨by simp[*],HB2.out⟩
       ·have hc':(c == 0)=false:=by simpa using hc
        clear hc;refine(KN.out _).mono ?_;rintro e wq ⟨rfl,rfl⟩;go_wp2_with fail
        go_ret
        exact⟨by simp[*],HB2.out⟩
      ·skip
       refine(KN.out _).mono ?_;rintro e wq ⟨rfl,rfl⟩;go_wp2_with fail
       go_ret
       exact⟨by simp[*],HB2.out⟩
     ·have hb':(b == 0)=false:=by simpa using hb
      clear hb;refine(KN.out _).mono ?_;rintro e wq ⟨rfl,rfl⟩;go_wp2_with fail
      go_ret
      exact⟨by simp[*],HB2.out⟩
    ·skip
     cases v2
     ·by_cases hc:c=0
      ·subst hc
       refine(KN.out _).mono ?_;rintro e wq ⟨rfl,rfl⟩;go_wp2_with fail
       go_ret
       exact⟨by simp[*],HB2.out⟩
      ·have hc':(c == 0)=false:=by simpa using hc
       clear hc;refine(KN.out _).mono ?_;rintro e wq ⟨rfl,rfl⟩;go_wp2_with fail
       go_ret
       exact⟨by simp[*],HB2.out⟩
     ·skip
      refine(KN.out _).mono ?_;rintro e wq ⟨rfl,rfl⟩;go_wp2_with fail
      go_ret
      exact⟨by simp[*],HB2.out⟩
   ·have ha':(a == 0)=false:=by simpa using ha
    clear ha;refine(KN.out _).mono ?_;rintro e wq ⟨rfl,rfl⟩;go_wp2_with fail
    go_ret
    exact⟨by simp[*],HB2.out⟩
 ·go_wp2_with fail
  refine QU.out.mono ?_;rintro e w1 ⟨rfl,hb1⟩;have HB2:=k_ (HC0.out.trans (hb1.mono HC0.out.size));clear p0 p1 p2 p3 p4 p5 p6 p7 p8 p9 p10 p11 p12 p13;have p0:w1.cell? ⟨w.heap.size,0,none⟩=some c0:=HQQ.out _ hb1 0 _ rfl;have p1:w1.cell? ⟨w.heap.size,1,none⟩=some c1:=HQQ.out _ hb1 1 _ rfl;have p2:w1.cell? ⟨w.heap.size,2,none⟩=some c2:=HQQ.out _ hb1 2 _ rfl;have p3:w1.cell? ⟨w.heap.size,3,none⟩=some d0:=HQQ.out _ hb1 3 _ rfl;have p4:w1.cell? ⟨w.heap.size,4,none⟩=some (.int .i64 r):=HQQ.out _ hb1 4 _ rfl;have p5:w1.cell? ⟨w.heap.size,5,none⟩=some (.int .i64 s):=HQQ.out _ hb1 5 _ rfl;have p6:w1.cell? ⟨w.heap.size,6,none⟩=some d3:=HQQ.out _ hb1 6 _ rfl;have p7:w1.cell? ⟨w.heap.size,7,none⟩=some d4:=HQQ.out _ hb1 7 _ rfl;have p8:w1.cell? ⟨w.heap.size,8,none⟩=some (.int .i64 op):=HQQ.out _ hb1 8 _ rfl;have p9:w1.cell? ⟨w.heap.size,9,none⟩=some (.int .i64 a):=HQQ.out _ hb1 9 _ rfl;have p10:w1.cell? ⟨w.heap.size,10,none⟩=some (.int .i64 b):=HQQ.out _ hb1 10 _ rfl;have p11:w1.cell? ⟨w.heap.size,11,none⟩=some (.int .i64 c):=HQQ.out _ hb1 11 _ rfl;have p12:w1.cell? ⟨w.heap.size,12,none⟩=some (.int .i64 fn):=HQQ.out _ hb1 12 _ rfl;have p13:w1.cell? ⟨w.heap.size,13,none⟩=some (.int .i64 pc):=HQQ.out _ hb1 13 _ rfl;clear hb1;go_wp2_with fail
  cases qb
  ·skip
   cases kb
   ·skip
    refine(KN.out _).mono ?_;rintro e wq ⟨rfl,rfl⟩;go_wp2_with fail
    go_ret
    exact⟨by simp[*],HB2.out⟩
   ·skip
    cases v1
    ·by_cases hb:b=0
     ·subst hb
      cases v2
      ·by_cases hc:c=0
       ·subst hc
        refine(KN.out _).mono ?_;rintro e wq ⟨rfl,rfl⟩;go_wp2_with fail
        go_ret
        exact⟨by simp[*],HB2.out⟩
       ·have hc':(c == 0)=false:=by simpa using hc
        clear hc;refine(KN.out _).mono ?_;rintro e wq ⟨rfl,rfl⟩;go_wp2_with fail
        go_ret
        exact⟨by simp[*],HB2.out⟩
      ·skip
       refine(KN.out _).mono ?_;rintro e wq ⟨rfl,rfl⟩;go_wp2_with fail
       go_ret
       exact⟨by simp[*],HB2.out⟩
     ·have hb':(b == 0)=false:=by simpa using hb
      clear hb;refine(KN.out _).mono ?_;rintro e wq ⟨rfl,rfl⟩;go_wp2_with fail
      go_ret
      exact⟨by simp[*],HB2.out⟩
    ·skip
     cases v2
     ·by_cases hc:c=0
      ·subst hc
       refine(KN.out _).mono ?_;rintro e wq ⟨rfl,rfl⟩;go_wp2_with fail
       go_ret
       exact⟨by simp[*],HB2.out⟩
      ·have hc':(c == 0)=false:=by simpa using hc
       clear hc;refine(KN.out _).mono ?_;rintro e wq ⟨rfl,rfl⟩;go_wp2_with fail
       go_ret
       exact⟨by simp[*],HB2.out⟩
     ·skip
      refine(KN.out _).mono ?_;rintro e wq ⟨rfl,rfl⟩;go_wp2_with fail
      go_ret
      exact⟨by simp[*],HB2.out⟩
  ·skip
   cases kb
   ·skip
    refine(KN.out _).mono ?_;rintro e wq ⟨rfl,rfl⟩;go_wp2_with fail
    go_ret
    exact⟨by simp[*],HB2.out⟩
   ·skip
    by_cases ha:a=0
    ·subst ha
     cases v1
     ·by_cases hb:b=0
      ·subst hb
       cases v2
       ·by_cases hc:c=0
        ·subst hc
         refine(KN.out _).mono ?_;rintro e wq ⟨rfl,rfl⟩;go_wp2_with fail
         go_ret
         exact⟨by simp[*],HB2.out⟩
        ·have hc':(c == 0)=false:=by simpa using hc
         clear hc;refine(KN.out _).mono ?_;rintro e wq ⟨rfl,rfl⟩;go_wp2_with fail
         go_ret
         exact⟨by simp[*],HB2.out⟩
       ·skip
        refine(KN.out _).mono ?_;rintro e wq ⟨rfl,rfl⟩;go_wp2_with fail
        go_ret
        exact⟨by simp[*],HB2.out⟩
      ·have hb':(b == 0)=false:=by simpa using hb
       clear hb;refine(KN.out _).mono ?_;rintro e wq ⟨rfl,rfl⟩;go_wp2_with fail
       go_ret
       exact⟨by simp[*],HB2.out⟩
     ·skip
      cases v2
      ·by_cases hc:c=0
       ·subst hc
        refine(KN.out _).mono ?_;rintro e wq ⟨rfl,rfl⟩;go_wp2_with fail
        go_ret
        exact⟨by simp[*],HB2.out⟩
       ·have hc':(c == 0)=false:=by simpa using hc
        clear hc;refine(KN.out _).mono ?_;rintro e wq ⟨rfl,rfl⟩;go_wp2_with fail
        go_ret
        exact⟨by simp[*],HB2.out⟩
      ·skip
       refine(KN.out _).mono ?_;rintro e wq ⟨rfl,rfl⟩;go_wp2_with fail
       go_ret
       exact⟨by simp[*],HB2.out⟩
    ·have ha':(a == 0)=false:=by simpa using ha
     clear ha;refine(KN.out _).mono ?_;rintro e wq ⟨rfl,rfl⟩;go_wp2_with fail
     go_ret
     exact⟨by simp[*],HB2.out⟩
def kindsV (p:Prg) (i:Ins):Bool:=if i.op=23∨i.op=24 then (calleeG p i).result == 0 && !(calleeG p i).args.any isLocB else if i.op=25∨i.op=26 then decide (0<p.shapes.length) else true
theorem kinds_eq (p:Prg) (i:Ins):kindsV p i=kindsB p i:=by
 unfold kindsV kindsB calleeG
 cases calleeF p i <;> rfl
theorem things_z (w:World) (D:Nat→Prop) (hD:∀ k,D k→k<w.heap.size) (p:Prg) (f:Fun) (c0 c1 c2 d0:Value) (g0 g2:Option Addr) (g1 g3:Nat) (r s:Int) (i:Ins) (fn pc:Int) (hv:PrgVal w D p c0 c1 c2) (hz:Zi i) :
  Calls Tryz.prog 293 #[.agg (lookC c0 c1 c2 d0 (.slice g0 f.objects.length g1) (.slice g2 f.code.length g3) r s i fn pc)] w fun e w'=>e=.returned (.bool (thingsB p f i))∧Below w.heap.size w w':=by
 obtain⟨op,a,b,c⟩:=i;have ho:=hz.op;obtain⟨d3,hd3⟩:∃ d3:Value,d3=.slice g0 f.objects.length g1:=⟨_,rfl⟩;obtain⟨d4,hd4⟩:∃ d4:Value,d4=.slice g2 f.code.length g3:=⟨_,rfl⟩;rw[← hd3,← hd4];have hC0:=(Below.refl w.heap.size w).alloc (Nat.le_refl _) (.cells (lookC c0 c1 c2 d0 d3 d4 r s ⟨op,a,b,c⟩ fn pc) 360);have hbx:=box1 w (lookC c0 c1 c2 d0 d3 d4 r s ⟨op,a,b,c⟩ fn pc) 360 _ (Below.refl _ _);have hz0:(w.alloc (.cells (lookC c0 c1 c2 d0 d3 d4 r s ⟨op,a,b,c⟩ fn pc) 360)).heap.size=w.heap.size+1:=by simp
 obtain⟨W,hW⟩:∃ W,W=w.alloc (.cells (lookC c0 c1 c2 d0 d3 d4 r s ⟨op,a,b,c⟩ fn pc) 360):=⟨_,rfl⟩;rw[← hW] at hC0 hbx hz0;have q:∀ W',Below W.heap.size W W'→∀ j u,(lookC c0 c1 c2 d0 d3 d4 r s ⟨op,a,b,c⟩ fn pc)[j]?=some u→W'.cell? ⟨w.heap.size,j,none⟩=some u:=fun W' h j u hj=>below_cell h (hbx.1 j u hj)
 clear hbx;have HW:=k_ hW;clear hW;have hvW:∀ W',Below W.heap.size W W'→PrgVal W' D p c0 c1 c2:=fun W' h=>hv.fr (Fr.of_below (hC0.trans (h.mono hC0.size)) (fun _=>False)) (fun _ _ h=>h)
 have hDW:∀ k,D k→k<W.heap.size:=fun k hk=>by have:=hD k hk;omega
 have HQQ:=k_ q;clear q;have HC0:=k_ hC0;clear hC0;have HVW:=k_ hvW;clear hvW;have HDW:=k_ hDW;clear hDW;have HZ0:=k_ hz0;clear hz0;obtain⟨⟨a0,m0,rfl,_⟩,⟨a1,m1,rfl,_⟩,a2,m2,rfl,_⟩:=hv;subst hd3 hd4;clear hD hz;unfold lookC at *
 go_enter Tryz.func293,Tryz.ntmps293
 go_upto_region 1 with fail
 rw[← HW.out];obtain⟨p0,p1,p2,p3,p4,p5,p6,p7,p8,p9,p10,p11,p12,p13⟩:=c_14 (HQQ.out _ (Below.refl _ _))
 rcases ho with rfl | rfl | rfl
 all_goals
  go_wp2_with fail
  go_ret
  exact⟨by simp[thingsB],HC0.out⟩
theorem kinds_z (w:World) (D:Nat→Prop) (hD:∀ k,D k→k<w.heap.size) (p:Prg) (c0 c1 c2 d0 d3 d4:Value) (r s:Int) (i:Ins) (fn pc:Int) (hv:PrgVal w D p c0 c1 c2) (hz:Zi i) :
  Calls Tryz.prog 295 #[.agg (lookC c0 c1 c2 d0 d3 d4 r s i fn pc)] w fun e w'=>e=.returned (.bool (kindsV p i))∧Below w.heap.size w w':=by
 obtain⟨op,a,b,c⟩:=i;have ho:=hz.op;have ca:=fun W h1 h2=>callee_any W D h1 p c0 c1 c2 d0 d3 d4 r s ⟨op,a,b,c⟩ fn pc h2
 unfold CalleePost at ca;have hC0:=(Below.refl w.heap.size w).alloc (Nat.le_refl _) (.cells (lookC c0 c1 c2 d0 d3 d4 r s ⟨op,a,b,c⟩ fn pc) 360);have hbx:=box1 w (lookC c0 c1 c2 d0 d3 d4 r s ⟨op,a,b,c⟩ fn pc) 360 _ (Below.refl _ _);have hz0:(w.alloc (.cells (lookC c0 c1 c2 d0 d3 d4 r s ⟨op,a,b,c⟩ fn pc) 360)).heap.size=w.heap.size+1:=by simp
 obtain⟨W,hW⟩:∃ W,W=w.alloc (.cells (lookC c0 c1 c2 d0 d3 d4 r s ⟨op,a,b,c⟩ fn pc) 360):=⟨_,rfl⟩;rw[← hW] at hC0 hbx hz0;have q:∀ W',Below W.heap.size W W'→∀ j u,(lookC c0 c1 c2 d0 d3 d4 r s ⟨op,a,b,c⟩ fn pc)[j]?=some u→W'.cell? ⟨w.heap.size,j,none⟩=some u:=fun W' h j u hj=>below_cell h (hbx.1 j u hj)
 clear hbx;have HW:=k_ hW;clear hW;have hvW:∀ W',Below W.heap.size W W'→PrgVal W' D p c0 c1 c2:=fun W' h=>hv.fr (Fr.of_below (hC0.trans (h.mono hC0.size)) (fun _=>False)) (fun _ _ h=>h)
 have hDW:∀ k,D k→k<W.heap.size:=fun k hk=>by have:=hD k hk;omega
 have HQQ:=k_ q;clear q;have HC0:=k_ hC0;clear hC0;have HVW:=k_ hvW;clear hvW;have HDW:=k_ hDW;clear hDW;have HZ0:=k_ hz0;clear hz0;have hv2:=hv;obtain⟨⟨a0,m0,rfl,_⟩,⟨a1,m1,rfl,_⟩,a2,m2,rfl,_⟩:=hv2;have hkv:kindsV p ⟨op,a,b,c⟩=true:=by rcases ho with rfl | rfl | rfl <;> simp[kindsV]
 rw[hkv];clear hkv;generalize (calleeG p ⟨op,a,b,c⟩)=G at *;generalize (calleeF p ⟨op,a,b,c⟩).isSome=is at *;generalize hgr:G.result=gr at *;generalize hgs:G.slots=gs at *;generalize hgn:G.args=ga at *;clear hgr hgs hz;have HGN:=k_ hgn;clear hgn;have CA:=k_ (ca W HDW.out (HVW.out W (Below.refl _ _)));clear ca hv hD;unfold lookC at *
 go_enter Tryz.func295,Tryz.ntmps295
 go_upto_region 1 with fail
 rw[← HW.out];obtain⟨p0,p1,p2,p3,p4,p5,p6,p7,p8,p9,p10,p11,p12,p13⟩:=c_14 (HQQ.out _ (Below.refl _ _));go_wp2_with fail;refine CA.out.mono ?_;rintro e w1 ⟨x0,x3,x4,rfl,hfv,hb1⟩;obtain⟨hq1,hq2,⟨g0,g1,rfl,hsl⟩,⟨g2,g3,rfl,_⟩,g4,g5,rfl,_⟩:=hfv;clear hq1 hq2;rw[HGN.out] at *;clear p0 p1 p2 p3 p4 p5 p6 p7 p8 p9 p10 p11 p12 p13;obtain⟨y,hy⟩:∃ y,y=w1.heap.size:=⟨_,rfl⟩;have hly:=heap_new w1 (.cells #[.slice g0 ga.length g1,.int .i64 gr,.int .i64 gs,.slice g2 G.objects.length g3,.slice g4 G.code.length g5] 66);have hb3:=(Below.refl w1.heap.size w1).alloc (Nat.le_refl _) (.cells #[.slice g0 ga.length g1,.int .i64 gr,.int .i64 gs,.slice g2 G.objects.length g3,.slice g4 G.code.length g5] 66);obtain⟨W3,hW3⟩:∃ W3,W3=w1.alloc (.cells #[.slice g0 ga.length g1,.int .i64 gr,.int .i64 gs,.slice g2 G.objects.length g3,.slice g4 G.code.length g5] 66):=⟨_,rfl⟩;rw[← hW3] at hb3;rw[← hW3,← hy] at hly;obtain⟨⟨y0,y1,y2,y3,y4⟩,_⟩:=five_cells hly;have hbw:=hb1.trans (hb3.mono hb1.size);obtain⟨p0,p1,p2,p3,p4,p5,p6,p7,p8,p9,p10,p11,p12,p13⟩:=c_14 (HQQ.out _ hbw);have HB2:=k_ (HC0.out.trans (hbw.mono HC0.out.size));have HW3:=k_ hW3;have HY:=k_ hy;clear hW3 hy hly hb1 hbw;clear hsl hb3
 go_upto_region 2 with fail
 rw[← HW3.out,← HY.out]
 rcases ho with rfl | rfl | rfl
 all_goals
  go_wp2_with fail
  go_ret
  exact⟨rfl,HB2.out⟩
end Go.Proofs.YtlofbhoicbemnaaGreatDoor
namespace Go.Proofs.YtlofbhoicbemnaaGreatDoor.Tk
open Go.ChangeShapes Go.WideShapes Go.ChangeAt Go.RowKit Go.Maps
abbrev I1:={ x:Int // i64B x }
def i1 (a:Int) (h:0≤a∧a≤100):I1:=⟨a,i64s a h⟩
def wayF (wb:Nat) (k:Nat):Value:=.func (.func k) #[.pointer (some ⟨wb,0,none⟩)] #[]
def tabW:List (Nat × I1 × Nat):=[(4,i1 0 (by omega),102),(8,i1 1 (by omega),103),(12,i1 2 (by omega),104),(16,i1 3 (by omega),105),(20,i1 4 (by omega),106),(24,i1 5 (by omega),107)]
def cntS (st:Nat→Int) (k:Nat):Nat:=((List.range k).filter fun i=>decide (st i=0)).length
theorem cntS_succ (st:Nat→Int) (k:Nat):cntS st (k+1)=cntS st k+(if st k=0 then 1 else 0):=by
 unfold cntS;rw[List.range_succ,List.filter_append,List.length_append]
 by_cases h:st k=0 <;> simp[h]
theorem cntS_le (st:Nat→Int) (k:Nat):cntS st k≤k:=by
 unfold cntS;exact Nat.le_trans (List.length_filter_le _ _) (by simp)
theorem steps_any (w:World) (wb:Nat) (a:Option Addr) (l:List Ent) (c:Nat) (hall:∀ x ∈ l,x=⟨0,0⟩) (D:Nat→Prop) (hln:l.length≤10000) (S:Nat→Nat→World→Prop) (st:Nat→Int)
  (h0:∀ w',Below w.heap.size w w'→S w'.heap.size 0 w') (hS:∀ N k wr w',S N k wr→Below wr.heap.size wr w'→S N k w') (hE:∀ N k wr,S N k wr→EntSl wr D a l) (hX:∀ N k wr,S N k wr→∃ X,WoAt wr wb X∧X.st=st k)
  (hgo:∀ N k,k<l.length→st k=0→∀ wr,S N k wr→Calls Tryz.prog 102 #[.pointer (some ⟨wb,0,none⟩),.int .i64 0] wr fun e w'=>e=.returned (.bool true)∧S N (k+1) w'∧Fr (fun q=>q<w.heap.size∨N≤q) wr w')
  (hno:∀ N k,k<l.length→st k≠0→∀ wr,S N k wr→S N (k+1) wr) :
  Calls Tryz.prog 85 #[.pointer (some ⟨wb,0,none⟩),.slice a l.length c] w fun e w'=>e=.returned (.int .i64 (cntS st l.length:Nat))∧∃ N,S N l.length w':=by
 obtain⟨X0,hX0,hX0s⟩:=hX _ _ _ (h0 w (Below.refl _ _));have nn:=none_any w wb X0 hX0;have hz:∀ w,(zeroValue 131).run Tryz.prog w=.ok Value.nilFunc w:=fun w=>by kernel_rfl
 have hzz:∀ (f:Fn) (x y:Array Value) (w:World),(Instr.makeFunc f x y).run Tryz.prog w=.ok (.func f x y) w:=fun _ _ _ _=>rfl
 clear hX0s hX0 X0;have HH0:=k_ h0;clear h0;have HHS:=k_ hS;clear hS;have HHE:=k_ hE;clear hE;have HHX:=k_ hX;clear hX;have HGO:=k_ hgo;clear hgo;have HNO:=k_ hno;clear hno;have NN:=k_ nn;clear nn;have HALL:=k_ hall;clear hall
 go_enter Tryz.func85,Tryz.ntmps85
 go_wp2_with fail;refine NN.out.mono ?_;rintro e w1 ⟨rfl,rfl⟩
 go_upto_region 3 with fail
 refine wp_region_noPanic ?_;refine wp_region_held_drew (S:=fun w'=>Below w.heap.size w w') (by kernel_rfl) (Below.refl _ _).drew (fun _=>?_);have HR1:=k_ (Below.refl w.heap.size w).drew;have hs1:w.drew.heap.size=w.heap.size:=rfl;have HS1:=k_ hs1;clear hs1;generalize w.drew=r1 at *;refine wpAnyH_take (i:=1) (v:=?_) rfl (by kernel_rfl) (by kernel_rfl) (by kernel_rfl) (fun _ _ _ h=>h) (Or.inl ⟨by kernel_rfl,?tq1⟩) HR1.out ?_
 case tq1=>(intro wq hq;go_simp;first | done | with_reducible rfl)
 refine wpAnyH_take (i:=2) (v:=?_) rfl (by kernel_rfl) (by kernel_rfl) (by kernel_rfl) (fun _ _ _ h=>h) (Or.inl ⟨by kernel_rfl,?tq2⟩) HR1.out ?_
 case tq2=>(intro wq hq;go_simp;first | done | with_reducible rfl)
 refine wpAnyH_take (i:=3) (v:=?_) rfl (by kernel_rfl) (by kernel_rfl) (by kernel_rfl) (fun _ _ _ h=>h) (Or.inl ⟨by kernel_rfl,?tq3⟩) HR1.out ?_
 case tq3=>(intro wq hq;go_simp;first | done | with_reducible rfl)
 refine wpAnyH_take (i:=5) (v:=?_) rfl (by kernel_rfl) (by kernel_rfl) (by kernel_rfl) (fun _ _ _ h=>h) (Or.inl ⟨by kernel_rfl,?tq5⟩) HR1.out ?_
 case tq5=>(intro wq hq;go_simp;first | done | with_reducible rfl)
 refine wpAnyH_take (i:=6) (v:=?_) rfl (by kernel_rfl) (by kernel_rfl) (by kernel_rfl) (fun _ _ _ h=>h) (Or.inl ⟨by kernel_rfl,?tq6⟩) HR1.out ?_
 case tq6=>(intro wq hq;go_simp;first | done | with_reducible rfl)
 refine wpAnyH_take (i:=7) (v:=?_) rfl (by kernel_rfl) (by kernel_rfl) (by kernel_rfl) (fun _ _ _ h=>h) (Or.inl ⟨by kernel_rfl,?tq7⟩) HR1.out ?_
 case tq7=>(intro wq hq;go_simp;first | done | with_reducible rfl)
 refine wpAnyH_take (i:=9) (v:=?_) rfl (by kernel_rfl) (by kernel_rfl) (by kernel_rfl) (fun _ _ _ h=>h) (Or.inl ⟨by kernel_rfl,?tq9⟩) HR1.out ?_
 case tq9=>(intro wq hq;go_simp;first | done | with_reducible rfl)
 refine wpAnyH_take (i:=10) (v:=?_) rfl (by kernel_rfl) (by kernel_rfl) (by kernel_rfl) (fun _ _ _ h=>h) (Or.inl ⟨by kernel_rfl,?tq10⟩) HR1.out ?_
 case tq10=>(intro wq hq;go_simp;first | done | with_reducible rfl)
 refine wpAnyH_take (i:=11) (v:=?_) rfl (by kernel_rfl) (by kernel_rfl) (by kernel_rfl) (fun _ _ _ h=>h) (Or.inl ⟨by kernel_rfl,?tq11⟩) HR1.out ?_
 case tq11=>(intro wq hq;go_simp;first | done | with_reducible rfl)
 refine wpAnyH_take (i:=13) (v:=?_) rfl (by kernel_rfl) (by kernel_rfl) (by kernel_rfl) (fun _ _ _ h=>h) (Or.inl ⟨by kernel_rfl,?tq13⟩) HR1.out ?_
 case tq13=>(intro wq hq;go_simp;first | done | with_reducible rfl)
 refine wpAnyH_take (i:=14) (v:=?_) rfl (by kernel_rfl) (by kernel_rfl) (by kernel_rfl) (fun _ _ _ h=>h) (Or.inl ⟨by kernel_rfl,?tq14⟩) HR1.out ?_
 case tq14=>(intro wq hq;go_simp;first | done | with_reducible rfl)
 refine wpAnyH_take (i:=15) (v:=?_) rfl (by kernel_rfl) (by kernel_rfl) (by kernel_rfl) (fun _ _ _ h=>h) (Or.inl ⟨by kernel_rfl,?tq15⟩) HR1.out ?_
 case tq15=>(intro wq hq;go_simp;first | done | with_reducible rfl)
 refine wpAnyH_take (i:=17) (v:=?_) rfl (by kernel_rfl) (by kernel_rfl) (by kernel_rfl) (fun _ _ _ h=>h) (Or.inl ⟨by kernel_rfl,?tq17⟩) HR1.out ?_
 case tq17=>(intro wq hq;go_simp;first | done | with_reducible rfl)
 refine wpAnyH_take (i:=18) (v:=?_) rfl (by kernel_rfl) (by kernel_rfl) (by kernel_rfl) (fun _ _ _ h=>h) (Or.inl ⟨by kernel_rfl,?tq18⟩) HR1.out ?_
 case tq18=>(intro wq hq;go_simp;first | done | with_reducible rfl)
 refine wpAnyH_take (i:=19) (v:=?_) rfl (by kernel_rfl) (by kernel_rfl) (by kernel_rfl) (fun _ _ _ h=>h) (Or.inl ⟨by kernel_rfl,?tq19⟩) HR1.out ?_
 case tq19=>(intro wq hq;go_simp;first | done | with_reducible rfl)
 refine wpAnyH_take (i:=21) (v:=?_) rfl (by kernel_rfl) (by kernel_rfl) (by kernel_rfl) (fun _ _ _ h=>h) (Or.inl ⟨by kernel_rfl,?tq21⟩) HR1.out ?_
 case tq21=>(intro wq hq;go_simp;first | done | with_reducible rfl)
 refine wpAnyH_take (i:=22) (v:=?_) rfl (by kernel_rfl) (by kernel_rfl) (by kernel_rfl) (fun _ _ _ h=>h) (Or.inl ⟨by kernel_rfl,?tq22⟩) HR1.out ?_
 case tq22=>(intro wq hq;go_simp;first | done | with_reducible rfl)
 refine wpAnyH_take (i:=23) (v:=?_) rfl (by kernel_rfl) (by kernel_rfl) (by kernel_rfl) (fun _ _ _ h=>h) (Or.inl ⟨by kernel_rfl,?tq23⟩) HR1.out ?_
 case tq23=>(intro wq hq;go_simp;first | done | with_reducible rfl)
 refine wpAnyH_ready (rs:=[0]) (by kernel_rfl) (by simp) ?_;refine(AllReadyH.cons rfl (fun K hK=>?_) AllReadyH.nil);go_simp;have hb2:Below w.heap.size w (r1.alloc (.map #[] 0)):=HR1.out.alloc HR1.out.size _;refine hK.out _ _ hb2 (fun _=>?_);clear hK K;refine inserts_go (K:=acK) (val:=wayF wb) Tryz.underlying179 _ r1.heap.size (fun w'=>Below w.heap.size w w') (fun _ h=>h) (fun w1 w2 h1 h2=>h1.trans ((turned_fr h2).below (N:=w.heap.size) h1.size (fun q hq=>by have:=HS1.out;have hq:q=r1.heap.size:=hq;omega))) 2 6 tabW rfl _ _ (by kernel_rfl) (fun x hx=>?_) (by decide) (by decide) (by kernel_rfl) (MapIs.made acK _ r1) (by decide) hb2 (fun w3 n g hn hm h1 h2 hb3=>?_)
 ·simp only[tabW,List.mem_cons,List.not_mem_nil,or_false] at hx
  rcases hx with rfl | rfl | rfl | rfl | rfl | rfl <;> exact⟨⟨_,_,_,rfl,rfl,rfl,rfl⟩,trivial⟩
 have hg:g (i1 0 (by omega))=some 102:=h1 _ (List.mem_cons_self ..);have HM:=k_ hm;have HB3:=k_ hb3;have HG:=k_ hg;clear hm h1 h2 hb3 hg;refine wpAnyH_take (i:=25) (v:=?_) rfl (by kernel_rfl) (by kernel_rfl) (by kernel_rfl) (fun _ _ _ h=>h) (Or.inl ⟨by kernel_rfl,?tq25⟩) HB3.out ?_
 case tq25=>(intro wq hq;go_simp;first | done | with_reducible rfl)
 refine wpAnyH_take (i:=26) (v:=?_) rfl (by kernel_rfl) (by kernel_rfl) (by kernel_rfl) (fun _ _ _ h=>h) (Or.inl ⟨by kernel_rfl,?tq26⟩) HB3.out ?_
 case tq26=>(intro wq hq;go_simp;first | done | with_reducible rfl)
 refine wpAnyH_done (by kernel_rfl) ?_ _;refine NoPanic.normal ?_;have hs0:=HH0.out w3 HB3.out;have hmb:w.heap.size≤r1.heap.size∧r1.heap.size<w3.heap.size:=⟨HR1.out.size,HM.out.lt⟩;clear HB3 HR1 HS1 hb2;generalize r1.heap.size=mb at *;obtain⟨N1,hN1⟩:∃ N1,N1=w3.heap.size:=⟨_,rfl⟩;rw[← hN1] at hs0 hmb;have HS0:=k_ hs0;have HMB:=k_ hmb;have HN1:=k_ hN1;clear hs0 hmb hN1 hn;go_wp2_with fail
 go_loopw [6,35] (fun n i wr=>∃ k:Nat,k≤l.length∧i=.int .i64 k∧n=.int .i64 (cntS st k:Nat)∧S N1 k wr∧(∃ m,MapIs acK (wayF wb) wr mb m g)∧N1≤wr.heap.size) (fun _ i _=>l.length - (intOf i).toNat)
 case atStart=>exact⟨0,Nat.zero_le _,rfl,rfl,HS0.out,⟨_,HM.out⟩,Nat.le_of_eq HN1.out⟩
 case round =>
  clear HM HS0;obtain⟨k,hk,rfl,rfl,hs,⟨m,hm⟩,hN⟩:=hrel
  by_cases hlt:k<l.length
  ·obtain⟨b,o,rfl,hd,e0,e1⟩:=HHE.out _ _ _ hs k hlt
   rw[HALL.out _ (List.getElem_mem hlt)] at e0 e1;have e0:wr.cell? ⟨b,o+k * 2,none⟩=some (.int .i64 0):=e0;have e1:wr.cell? ⟨b,o+k * 2+1,none⟩=some (.int .i64 0):=e1;obtain⟨w7,hw7⟩:∃ w7,w7=wr.alloc (.cells #[.int .i64 0,.int .i64 0] 29):=⟨_,rfl⟩;have hb7:Below wr.heap.size wr w7:=by rw[hw7];exact(Below.refl _ _).alloc (Nat.le_refl _) _
   have hr7:w7.heap[wr.heap.size]?=some (.cells #[.int .i64 0,.int .i64 0] 29):=by rw[hw7];exact heap_new _ _
   have hs7:=HHS.out _ _ _ _ hs hb7;have hm7:=hm.below hb7;obtain⟨X,hx,hst⟩:=HHX.out _ _ _ hs7;have q20:w7.cell? ⟨wb,20,none⟩=some (.int .i64 X.st):=(hx.cell 20).1;rw[hst] at q20;have hN7:=Nat.le_trans hN hb7.size;obtain⟨z,hz7⟩:∃ z,z=wr.heap.size:=⟨_,rfl⟩;rw[← hz7] at hr7;have z0:=(row_cell hr7 0).1;have z1:=(row_cell hr7 1).1;simp only[List.getElem?_toArray,List.getElem?_cons_zero,List.getElem?_cons_succ] at z0 z1;obtain⟨k1,hk1⟩:∃ k1,k1=k+1:=⟨_,rfl⟩;have iw:IntKind.i64.wrap ((k:Int)+1)=(k1:Int):=by rw[show ((k:Int)+1)=(k1:Int) from by omega];exact IntWalk.i64_in _ (by omega)
   have hcs:=cntS_succ st k;have hcl:=cntS_le st k;rw[← hk1] at hcs;have hle:k1≤l.length:=by omega
   have hdl:l.length - k1<l.length - k:=by omega
   obtain⟨cn,hcn⟩:∃ cn,cn=cntS st k:=⟨_,rfl⟩;rw[← hcn] at hcs hcl ⊢;obtain⟨cn1,hcn1⟩:∃ cn1,cn1=cn+1:=⟨_,rfl⟩;have jw:IntKind.i64.wrap ((cn:Int)+1)=(cn1:Int):=by rw[show ((cn:Int)+1)=(cn1:Int) from by omega];exact IntWalk.i64_in _ (by omega)
   have HW7:=k_ hw7;have HZ7:=k_ hz7;have HK1:=k_ hk1;clear hw7 hz7 hr7 hs hm hb7 hN hx hst X hcn hcl hk1 hd;have HS7:=k_ hs7;clear hs7;have HM7:=k_ hm7;clear hm7;have HN7:=k_ hN7;clear hN7;have HCS:=k_ hcs;clear hcs;have HLE:=k_ hle;clear hle;have HDL:=k_ hdl;clear hdl;have HCN1:=k_ hcn1;clear hcn1
   go_upto_region 8 with fail
   rw[← HW7.out,← HZ7.out];clear e0 e1
   by_cases h0:st k=0
   ·have go7:=HGO.out N1 k hlt h0 w7 HS7.out
    rw[h0] at q20;have GO7:=k_ go7;clear go7
    go_upto_region 9 with (refine look_some_ok rfl (.tmp 40) (.tmp 43) 179 131 rfl HM7.out Tryz.underlying179 (hz _) (i1 0 (by omega)) trivial rfl rfl _ HG.out ?_)
    unfold wayF;go_wp2_with fail;refine GO7.out.mono ?_;rintro e w8 ⟨rfl,hs8,hf8⟩;have hm8:=HM7.out.fr hf8 (fun h=>by have:=HMB.out;omega);have hN8:=Nat.le_trans HN7.out hf8.size;rw[← HK1.out] at hs8;clear hf8 z0 z1 q20;have HS8:=k_ hs8;clear hs8;have HM8:=k_ hm8;clear hm8;have HN8:=k_ hN8;clear hN8;go_wp2_with fail
    go_roundw
    case rel=>exact⟨k1,HLE.out,by go_num,by rw[HCS.out,if_pos h0,← HCN1.out],HS8.out,⟨m,HM8.out⟩,HN8.out⟩
    case measure=>have:=HDL.out;simp[intOf];omega
   ·have d20:(st k == 0)=false:=by rw[beq_eq_false_iff_ne];exact h0
    have hs8:=HNO.out N1 k hlt h0 w7 HS7.out;rw[← HK1.out] at hs8;have HS8:=k_ hs8;clear hs8
    go_upto_region 9 with (refine look_some_ok rfl (.tmp 40) (.tmp 43) 179 131 rfl HM7.out Tryz.underlying179 (hz _) (i1 0 (by omega)) trivial rfl rfl _ HG.out ?_)
    unfold wayF;go_wp2_with fail
    go_roundw
    case rel=>exact⟨k1,HLE.out,by go_num,by rw[HCS.out,if_neg h0];rfl,HS8.out,⟨m,HM7.out⟩,HN7.out⟩
    case measure=>have:=HDL.out;simp[intOf];omega
  ·have hk':k=l.length:=by omega
   subst hk';have HSE:=k_ hs;clear hs hm hN;go_wp2_with fail
   go_ret
   exact⟨rfl,N1,HSE.out⟩
end Go.Proofs.YtlofbhoicbemnaaGreatDoor.Tk
