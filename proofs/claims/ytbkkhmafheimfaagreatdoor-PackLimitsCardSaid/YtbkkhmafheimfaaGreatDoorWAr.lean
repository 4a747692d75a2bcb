/- Walks: check.look's form, things. Walk: check.look's kinds. Walks: of a program of three kinds of instructions alone: what check and .. -/
import Derived.Test.YtbkkhmafheimfaaGreatDoorWAi
set_option linter.unusedVariables false
set_option linter.unusedSimpArgs false
set_option maxRecDepth 100000
set_option maxHeartbeats 3200000
namespace Go.Proofs.YtbkkhmafheimfaaGreatDoor
open Go.ChangeShapes Go.WideShapes Go.ChangeAt Go.RowKit
theorem form_any (w:World) (D:Nat→Prop) (hD:∀ k,D k→k<w.heap.size) (p:Prg) (c0 c1 c2 d0 d3 d4:Value) (r s:Int) (i:Ins) (fn pc:Int) (hv:PrgVal w D p c0 c1 c2) (hd0:d0.oneCell'=true) (hd3:d3.oneCell'=true) (hd4:d4.oneCell'=true) :
  Calls Tryz.prog 237 #[.agg (lookC c0 c1 c2 d0 d3 d4 r s i fn pc)] w fun e w'=>e=.returned (.bool (knownS i.op && mayB i.a ((usesS i.op).1 && !quietV p r i) && mayB i.b (usesS i.op).2.1 && mayB i.c (usesS i.op).2.2))∧Below w.heap.size w w':=by
 obtain⟨op,a,b,c⟩:=i;have qu:=fun W h1 h2=>quiet_any W D h1 p c0 c1 c2 d0 d3 d4 r s ⟨op,a,b,c⟩ fn pc h2 hd0 hd3 hd4
 have hC0:=(Below.refl w.heap.size w).alloc (Nat.le_refl _) (.cells (lookC c0 c1 c2 d0 d3 d4 r s ⟨op,a,b,c⟩ fn pc) 311);have hbx:=box1 w (lookC c0 c1 c2 d0 d3 d4 r s ⟨op,a,b,c⟩ fn pc) 311 _ (Below.refl _ _);have hz0:(w.alloc (.cells (lookC c0 c1 c2 d0 d3 d4 r s ⟨op,a,b,c⟩ fn pc) 311)).heap.size=w.heap.size+1:=by simp
 obtain⟨W,hW⟩:∃ W,W=w.alloc (.cells (lookC c0 c1 c2 d0 d3 d4 r s ⟨op,a,b,c⟩ fn pc) 311):=⟨_,rfl⟩;rw[← hW] at hC0 hbx hz0;have q:∀ W',Below W.heap.size W W'→∀ j u,(lookC c0 c1 c2 d0 d3 d4 r s ⟨op,a,b,c⟩ fn pc)[j]?=some u→W'.cell? ⟨w.heap.size,j,none⟩=some u:=fun W' h j u hj=>below_cell h (hbx.1 j u hj)
 clear hbx;have HW:=k_ hW;clear hW;have hvW:∀ W',Below W.heap.size W W'→PrgVal W' D p c0 c1 c2:=fun W' h=>hv.fr (Fr.of_below (hC0.trans (h.mono hC0.size)) (fun _=>False)) (fun _ _ h=>h)
 have hDW:∀ k,D k→k<W.heap.size:=fun k hk=>by have:=hD k hk;omega
 have HQQ:=k_ q;clear q;have HC0:=k_ hC0;clear hC0;have HVW:=k_ hvW;clear hvW;have HDW:=k_ hDW;clear hDW;have HZ0:=k_ hz0;clear hz0
 dsimp only
 have us:=fun W=>uses_any W op
 unfold UsesSaid at us;have kn:=known_any op;generalize usesS op=U at *;obtain⟨v0,v1,v2⟩:=U;generalize knownS op=kb at *;generalize quietV p r ⟨op,a,b,c⟩=qb at *
 dsimp only at us ⊢
 have QU:=k_ (qu W HDW.out (HVW.out W (Below.refl _ _)));clear qu hv hD;have US:=k_ us;clear us;have KN:=k_ kn;clear kn;unfold lookC mayB at *
 go_enter Tryz.func237,Tryz.ntmps237
 go_upto_region 1 with fail
 rw[← HW.out];have p0:W.cell? ⟨w.heap.size,0,none⟩=some c0:=HQQ.out _ (Below.refl _ _) 0 _ rfl;have p1:W.cell? ⟨w.heap.size,1,none⟩=some c1:=HQQ.out _ (Below.refl _ _) 1 _ rfl;have p2:W.cell? ⟨w.heap.size,2,none⟩=some c2:=HQQ.out _ (Below.refl _ _) 2 _ rfl;have p3:W.cell? ⟨w.heap.size,3,none⟩=some d0:=HQQ.out _ (Below.refl _ _) 3 _ rfl;have p4:W.cell? ⟨w.heap.size,4,none⟩=some (.int .i64 r):=HQQ.out _ (Below.refl _ _) 4 _ rfl;have p5:W.cell? ⟨w.heap.size,5,none⟩=some (.int .i64 s):=HQQ.out _ (Below.refl _ _) 5 _ rfl;have p6:W.cell? ⟨w.heap.size,6,none⟩=some d3:=HQQ.out _ (Below.refl _ _) 6 _ rfl;have p7:W.cell? ⟨w.heap.size,7,none⟩=some d4:=HQQ.out _ (Below.refl _ _) 7 _ rfl;have p8:W.cell? ⟨w.heap.size,8,none⟩=some (.int .i64 op):=HQQ.out _ (Below.refl _ _) 8 _ rfl;have p9:W.cell? ⟨w.heap.size,9,none⟩=some (.int .i64 a):=HQQ.out _ (Below.refl _ _) 9 _ rfl;have p10:W.cell? ⟨w.heap.size,10,none⟩=some (.int .i64 b):=HQQ.out _ (Below.refl _ _) 10 _ rfl;have p11:W.cell? ⟨w.heap.size,11,none⟩=some (.int .i64 c):=HQQ.out _ (Below.refl _ _) 11 _ rfl;have p12:W.cell? ⟨w.heap.size,12,none⟩=some (.int .i64 fn):=HQQ.out _ (Below.refl _ _) 12 _ rfl;have p13:W.cell? ⟨w.heap.size,13,none⟩=some (.int .i64 pc):=HQQ.out _ (Below.refl _ _) 13 _ rfl;go_wp2_with fail;refine(US.out _).mono ?_;rintro e w1 ⟨rfl,rfl⟩
 cases v0
 ·have HB2:=k_ HC0.out
  go_wp2_with fail
  cases kb
  ·skip
   refine(KN.out _).mono ?_;rintro e wq ⟨rfl,rfl⟩;go_wp2_with fail
   go_ret
   exact⟨by simp[*],HB2.out⟩
  ·skip
   by_cases ha:a=0
   ·subst ha
    cases v1
    ·by_cases hb:b=0
     ·subst hb
      cases v2
      ·by_cases hc:c=0
       ·subst hc
        refine(KN.out _).mono ?_;rintro e wq ⟨rfl,rfl⟩;go_wp2_with fail
        go_ret
        exact⟨by simp[*],HB2.out⟩
       ·have hc':(c == 0)=false:=by simpa using hc
        clear hc;refine(KN.out _).mono ?_;rintro e wq ⟨rfl,rfl⟩;go_wp2_with fail
        go_ret
        exact⟨by simp[*],HB2.out⟩
      ·skip
       refine(KN.out _).mono ?_;rintro e wq ⟨rfl,rfl⟩;go_wp2_with fail
       go_ret
       exact⟨by simp[*],HB2.out⟩
     ·have hb':(b == 0)=false:=by simpa using hb
      clear hb;refine(KN.out _).mono ?_;rintro e wq ⟨rfl,rfl⟩;go_wp2_with fail
      go_ret
      exact⟨by simp[*],HB2.out⟩
    ·skip
     cases v2
     ·by_cases hc:c=0
      ·subst hc
       refine(KN.out _).mono ?_;rintro e wq ⟨rfl,rfl⟩;go_wp2_with fail
       go_ret
       exact⟨by simp[*],HB2.out⟩
      ·have hc':(c == 0)=false:=by simpa using hc
       clear hc;refine(KN.out _).mono ?_;rintro e wq ⟨rfl,rfl⟩;go_wp2_with fail
       go_ret
       exact⟨by simp[*],HB2.out⟩
     ·skip
      refine(KN.out _).mono ?_;rintro e wq ⟨rfl,rfl⟩;go_wp2_with fail
      go_ret
      exact⟨by simp[*],HB2.out⟩
   ·have ha':(a == 0)=false:=by simpa using ha
    clear ha;refine(KN.out _).mono ?_;rintro e wq ⟨rfl,rfl⟩;go_wp2_with fail
    go_ret
    exact⟨by simp[*],HB2.out⟩
 ·go_wp2_with fail
  refine QU.out.mono ?_;rintro e w1 ⟨rfl,hb1⟩;have HB2:=k_ (HC0.out.trans (hb1.mono HC0.out.size));clear p0 p1 p2 p3 p4 p5 p6 p7 p8 p9 p10 p11 p12 p13;have p0:w1.cell? ⟨w.heap.size,0,none⟩=some c0:=HQQ.out _ hb1 0 _ rfl;have p1:w1.cell? ⟨w.heap.size,1,none⟩=some c1:=HQQ.out _ hb1 1 _ rfl;have p2:w1.cell? ⟨w.heap.size,2,none⟩=some c2:=HQQ.out _ hb1 2 _ rfl;have p3:w1.cell? ⟨w.heap.size,3,none⟩=some d0:=HQQ.out _ hb1 3 _ rfl;have p4:w1.cell? ⟨w.heap.size,4,none⟩=some (.int .i64 r):=HQQ.out _ hb1 4 _ rfl;have p5:w1.cell? ⟨w.heap.size,5,none⟩=some (.int .i64 s):=HQQ.out _ hb1 5 _ rfl;have p6:w1.cell? ⟨w.heap.size,6,none⟩=some d3:=HQQ.out _ hb1 6 _ rfl;have p7:w1.cell? ⟨w.heap.size,7,none⟩=some d4:=HQQ.out _ hb1 7 _ rfl;have p8:w1.cell? ⟨w.heap.size,8,none⟩=some (.int .i64 op):=HQQ.out _ hb1 8 _ rfl;have p9:w1.cell? ⟨w.heap.size,9,none⟩=some (.int .i64 a):=HQQ.out _ hb1 9 _ rfl;have p10:w1.cell? ⟨w.heap.size,10,none⟩=some (.int .i64 b):=HQQ.out _ hb1 10 _ rfl;have p11:w1.cell? ⟨w.heap.size,11,none⟩=some (.int .i64 c):=HQQ.out _ hb1 11 _ rfl;have p12:w1.cell? ⟨w.heap.size,12,none⟩=some (.int .i64 fn):=HQQ.out _ hb1 12 _ rfl;have p13:w1.cell? ⟨w.heap.size,13,none⟩=some (.int .i64 pc):=HQQ.out _ hb1 13 _ rfl;clear hb1;go_wp2_with fail
  cases qb
  ·skip
   cases kb
   ·skip
    refine(KN.out _).mono ?_;rintro e wq ⟨rfl,rfl⟩;go_wp2_with fail
    go_ret
    exact⟨by simp[*],HB2.out⟩
   ·skip
    cases v1
    ·by_cases hb:b=0
     ·subst hb
      cases v2
      ·by_cases hc:c=0
       ·subst hc
        refine(KN.out _).mono ?_;rintro e wq ⟨rfl,rfl⟩;go_wp2_with fail
        go_ret
        exact⟨by simp[*],HB2.out⟩
       ·have hc':(c == 0)=false:=by simpa using hc
        clear hc;refine(KN.out _).mono ?_;rintro e wq ⟨rfl,rfl⟩;go_wp2_with fail
        go_ret
        exact⟨by simp[*],HB2.out⟩
      ·skip
       refine(KN.out _).mono ?_;rintro e wq ⟨rfl,rfl⟩;go_wp2_with fail
       go_ret
       exact⟨by simp[*],HB2.out⟩
     ·have hb':(b == 0)=false:=by simpa using hb
      clear hb;refine(KN.out _).mono ?_;rintro e wq ⟨rfl,rfl⟩;go_wp2_with fail
      go_ret
      exact⟨by simp[*],HB2.out⟩
    ·skip
     cases v2
     ·by_cases hc:c=0
      ·subst hc
       refine(KN.out _).mono ?_;rintro e wq ⟨rfl,rfl⟩;go_wp2_with fail
       go_ret
       exact⟨by simp[*],HB2.out⟩
      ·have hc':(c == 0)=false:=by simpa using hc
       clear hc;refine(KN.out _).mono ?_;rintro e wq ⟨rfl,rfl⟩;go_wp2_with fail
       go_ret
       exact⟨by simp[*],HB2.out⟩
     ·skip
      refine(KN.out _).mono ?_;rintro e wq ⟨rfl,rfl⟩;go_wp2_with fail
      go_ret
      exact⟨by simp[*],HB2.out⟩
  ·skip
   cases kb
   ·skip
    refine(KN.out _).mono ?_;rintro e wq ⟨rfl,rfl⟩;go_wp2_with fail
    go_ret
    exact⟨by simp[*],HB2.out⟩
   ·skip
    by_cases ha:a=0
    ·subst ha
     cases v1
     ·by_cases hb:b=0
      ·subst hb
       cases v2
       ·by_cases hc:c=0
        ·subst hc
         refine(KN.out _).mono ?_;rintro e wq ⟨rfl,rfl⟩;go_wp2_with fail
         go_ret
         exact⟨by simp[*],HB2.out⟩
        ·have hc':(c == 0)=false:=by simpa using hc
         clear hc;refine(KN.out _).mono ?_;rintro e wq ⟨rfl,rfl⟩;go_wp2_with fail
         go_ret
         exact⟨by simp[*],HB2.out⟩
       ·skip
        refine(KN.out _).mono ?_;rintro e wq ⟨rfl,rfl⟩;go_wp2_with fail
        go_ret
        exact⟨by simp[*],HB2.out⟩
      ·have hb':(b == 0)=false:=by simpa using hb
       clear hb;refine(KN.out _).mono ?_;rintro e wq ⟨rfl,rfl⟩;go_wp2_with fail
       go_ret
       exact⟨by simp[*],HB2.out⟩
     ·skip
      cases v2
      ·by_cases hc:c=0
       ·subst hc
        refine(KN.out _).mono ?_;rintro e wq ⟨rfl,rfl⟩;go_wp2_with fail
        go_ret
        exact⟨by simp[*],HB2.out⟩
       ·have hc':(c == 0)=false:=by simpa using hc
        clear hc;refine(KN.out _).mono ?_;rintro e wq ⟨rfl,rfl⟩;go_wp2_with fail
        go_ret
        exact⟨by simp[*],HB2.out⟩
      ·skip
       refine(KN.out _).mono ?_;rintro e wq ⟨rfl,rfl⟩;go_wp2_with fail
       go_ret
       exact⟨by simp[*],HB2.out⟩
    ·have ha':(a == 0)=false:=by simpa using ha
     clear ha;refine(KN.out _).mono ?_;rintro e wq ⟨rfl,rfl⟩;go_wp2_with fail
     go_ret
     exact⟨by simp[*],HB2.out⟩
def kindsV (p:Prg) (i:Ins):Bool:=if i.op=23∨i.op=24 then (calleeG p i).result == 0 && !(calleeG p i).args.any isLocB else if i.op=25∨i.op=26 then decide (0<p.shapes.length) else true
theorem kinds_eq (p:Prg) (i:Ins):kindsV p i=kindsB p i:=by
 unfold kindsV kindsB calleeG
 cases calleeF p i <;> rfl
theorem things_z (w:World) (D:Nat→Prop) (hD:∀ k,D k→k<w.heap.size) (p:Prg) (f:Fun) (c0 c1 c2 d0:Value) (g0 g2:Option Addr) (g1 g3:Nat) (r s:Int) (i:Ins) (fn pc:Int) (hv:PrgVal w D p c0 c1 c2) (hz:Zi i) :
  Calls Tryz.prog 238 #[.agg (lookC c0 c1 c2 d0 (.slice g0 f.objects.length g1) (.slice g2 f.code.length g3) r s i fn pc)] w fun e w'=>e=.returned (.bool (thingsB p f i))∧Below w.heap.size w w':=by
 obtain⟨op,a,b,c⟩:=i;have ho:=hz.op;obtain⟨d3,hd3⟩:∃ d3:Value,d3=.slice g0 f.objects.length g1:=⟨_,rfl⟩;obtain⟨d4,hd4⟩:∃ d4:Value,d4=.slice g2 f.code.length g3:=⟨_,rfl⟩;rw[← hd3,← hd4];have hC0:=(Below.refl w.heap.size w).alloc (Nat.le_refl _) (.cells (lookC c0 c1 c2 d0 d3 d4 r s ⟨op,a,b,c⟩ fn pc) 311);have hbx:=box1 w (lookC c0 c1 c2 d0 d3 d4 r s ⟨op,a,b,c⟩ fn pc) 311 _ (Below.refl _ _);have hz0:(w.alloc (.cells (lookC c0 c1 c2 d0 d3 d4 r s ⟨op,a,b,c⟩ fn pc) 311)).heap.size=w.heap.size+1:=by simp
 obtain⟨W,hW⟩:∃ W,W=w.alloc (.cells (lookC c0 c1 c2 d0 d3 d4 r s ⟨op,a,b,c⟩ fn pc) 311):=⟨_,rfl⟩;rw[← hW] at hC0 hbx hz0;have q:∀ W',Below W.heap.size W W'→∀ j u,(lookC c0 c1 c2 d0 d3 d4 r s ⟨op,a,b,c⟩ fn pc)[j]?=some u→W'.cell? ⟨w.heap.size,j,none⟩=some u:=fun W' h j u hj=>below_cell h (hbx.1 j u hj)
 clear hbx;have HW:=k_ hW;clear hW;have hvW:∀ W',Below W.heap.size W W'→PrgVal W' D p c0 c1 c2:=fun W' h=>hv.fr (Fr.of_below (hC0.trans (h.mono hC0.size)) (fun _=>False)) (fun _ _ h=>h)
 have hDW:∀ k,D k→k<W.heap.size:=fun k hk=>by have:=hD k hk;omega
 have HQQ:=k_ q;clear q;have HC0:=k_ hC0;clear hC0;have HVW:=k_ hvW;clear hvW;have HDW:=k_ hDW;clear hDW;have HZ0:=k_ hz0;clear hz0;obtain⟨⟨a0,m0,rfl,_⟩,⟨a1,m1,rfl,_⟩,a2,m2,rfl,_⟩:=hv;subst hd3 hd4;clear hD hz;unfold lookC at *
 go_enter Tryz.func238,Tryz.ntmps238
 go_upto_region 1 with fail
 rw[← HW.out];obtain⟨p0,p1,p2,p3,p4,p5,p6,p7,p8,p9,p10,p11,p12,p13⟩:=c_14 (HQQ.out _ (Below.refl _ _))
 rcases ho with rfl | rfl | rfl
 all_goals
  go_wp2_with fail
  go_ret
  exact⟨by simp[thingsB],HC0.out⟩
theorem kinds_z (w:World) (D:Nat→Prop) (hD:∀ k,D k→k<w.heap.size) (p:Prg) (c0 c1 c2 d0 d3 d4:Value) (r s:Int) (i:Ins) (fn pc:Int) (hv:PrgVal w D p c0 c1 c2) (hz:Zi i) :
  Calls Tryz.prog 240 #[.agg (lookC c0 c1 c2 d0 d3 d4 r s i fn pc)] w fun e w'=>e=.returned (.bool (kindsV p i))∧Below w.heap.size w w':=by
 obtain⟨op,a,b,c⟩:=i;have ho:=hz.op;have ca:=fun W h1 h2=>callee_any W D h1 p c0 c1 c2 d0 d3 d4 r s ⟨op,a,b,c⟩ fn pc h2
 unfold CalleePost at ca;have hC0:=(Below.refl w.heap.size w).alloc (Nat.le_refl _) (.cells (lookC c0 c1 c2 d0 d3 d4 r s ⟨op,a,b,c⟩ fn pc) 311);have hbx:=box1 w (lookC c0 c1 c2 d0 d3 d4 r s ⟨op,a,b,c⟩ fn pc) 311 _ (Below.refl _ _);have hz0:(w.alloc (.cells (lookC c0 c1 c2 d0 d3 d4 r s ⟨op,a,b,c⟩ fn pc) 311)).heap.size=w.heap.size+1:=by simp
 obtain⟨W,hW⟩:∃ W,W=w.alloc (.cells (lookC c0 c1 c2 d0 d3 d4 r s ⟨op,a,b,c⟩ fn pc) 311):=⟨_,rfl⟩;rw[← hW] at hC0 hbx hz0;have q:∀ W',Below W.heap.size W W'→∀ j u,(lookC c0 c1 c2 d0 d3 d4 r s ⟨op,a,b,c⟩ fn pc)[j]?=some u→W'.cell? ⟨w.heap.size,j,none⟩=some u:=fun W' h j u hj=>below_cell h (hbx.1 j u hj)
 clear hbx;have HW:=k_ hW;clear hW;have hvW:∀ W',Below W.heap.size W W'→PrgVal W' D p c0 c1 c2:=fun W' h=>hv.fr (Fr.of_below (hC0.trans (h.mono hC0.size)) (fun _=>False)) (fun _ _ h=>h)
 have hDW:∀ k,D k→k<W.heap.size:=fun k hk=>by have:=hD k hk;omega
 have HQQ:=k_ q;clear q;have HC0:=k_ hC0;clear hC0;have HVW:=k_ hvW;clear hvW;have HDW:=k_ hDW;clear hDW;have HZ0:=k_ hz0;clear hz0;have hv2:=hv;obtain⟨⟨a0,m0,rfl,_⟩,⟨a1,m1,rfl,_⟩,a2,m2,rfl,_⟩:=hv2;have hkv:kindsV p ⟨op,a,b,c⟩=true:=by rcases ho with rfl | rfl | rfl <;> simp[kindsV]
 rw[hkv];clear hkv;generalize (calleeG p ⟨op,a,b,c⟩)=G at *;generalize (calleeF p ⟨op,a,b,c⟩).isSome=is at *;generalize hgr:G.result=gr at *;generalize hgs:G.slots=gs at *;generalize hgn:G.args=ga at *;clear hgr hgs hz;have HGN:=k_ hgn;clear hgn;have CA:=k_ (ca W HDW.out (HVW.out W (Below.refl _ _)));clear ca hv hD;unfold lookC at *
 go_enter Tryz.func240,Tryz.ntmps240
 go_upto_region 1 with fail
 rw[← HW.out];obtain⟨p0,p1,p2,p3,p4,p5,p6,p7,p8,p9,p10,p11,p12,p13⟩:=c_14 (HQQ.out _ (Below.refl _ _));go_wp2_with fail;refine CA.out.mono ?_;rintro e w1 ⟨x0,x3,x4,rfl,hfv,hb1⟩;obtain⟨hq1,hq2,⟨g0,g1,rfl,hsl⟩,⟨g2,g3,rfl,_⟩,g4,g5,rfl,_⟩:=hfv;clear hq1 hq2;rw[HGN.out] at *;clear p0 p1 p2 p3 p4 p5 p6 p7 p8 p9 p10 p11 p12 p13;obtain⟨y,hy⟩:∃ y,y=w1.heap.size:=⟨_,rfl⟩;have hly:=heap_new w1 (.cells #[.slice g0 ga.length g1,.int .i64 gr,.int .i64 gs,.slice g2 G.objects.length g3,.slice g4 G.code.length g5] 36);have hb3:=(Below.refl w1.heap.size w1).alloc (Nat.le_refl _) (.cells #[.slice g0 ga.length g1,.int .i64 gr,.int .i64 gs,.slice g2 G.objects.length g3,.slice g4 G.code.length g5] 36);obtain⟨W3,hW3⟩:∃ W3,W3=w1.alloc (.cells #[.slice g0 ga.length g1,.int .i64 gr,.int .i64 gs,.slice g2 G.objects.length g3,.slice g4 G.code.length g5] 36):=⟨_,rfl⟩;rw[← hW3] at hb3;rw[← hW3,← hy] at hly;obtain⟨⟨y0,y1,y2,y3,y4⟩,_⟩:=five_cells hly;have hbw:=hb1.trans (hb3.mono hb1.size);obtain⟨p0,p1,p2,p3,p4,p5,p6,p7,p8,p9,p10,p11,p12,p13⟩:=c_14 (HQQ.out _ hbw);have HB2:=k_ (HC0.out.trans (hbw.mono HC0.out.size));have HW3:=k_ hW3;have HY:=k_ hy;clear hW3 hy hly hb1 hbw;clear hsl hb3
 go_upto_region 2 with fail
 rw[← HW3.out,← HY.out]
 rcases ho with rfl | rfl | rfl
 all_goals
  go_wp2_with fail
  go_ret
  exact⟨rfl,HB2.out⟩
end Go.Proofs.YtbkkhmafheimfaaGreatDoor
