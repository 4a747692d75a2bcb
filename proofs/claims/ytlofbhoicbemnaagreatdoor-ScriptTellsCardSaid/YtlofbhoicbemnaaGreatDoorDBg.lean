/- Walk: check.front: why a function may not be, but for its instructions. Walks: check.Func, check.Args. Walk: check.Program. -/
import Derived.Test.YtlofbhoicbemnaaGreatDoorDBb
set_option linter.unusedVariables false
set_option linter.unusedSimpArgs false
set_option maxRecDepth 100000
set_option maxHeartbeats 3200000
namespace Go.Proofs.YtlofbhoicbemnaaGreatDoor
open Go.ChangeShapes Go.WideShapes Go.ChangeAt Go.RowKit Go.Maps
theorem frontC_any (w:World) (D:Nat→Prop) (hD:∀ k,D k→k<w.heap.size) (p:Prg) (f:Fun) (c0 c1 c2 d0 d3 d4:Value) (hv:PrgVal w D p c0 c1 c2) (hf:FunVal w D f d0 (.int .i64 f.result) (.int .i64 f.slots) d3 d4) (hB:FunB f) (hls:p.shapes.length≤3000) (hla:f.args.length≤3000) (hlo:f.objects.length≤3000) (hlc:f.code.length≤3000) :
  Calls Tryz.prog 223 #[.agg #[c0,c1,c2],.agg #[d0,.int .i64 f.result,.int .i64 f.slots,d3,d4]] w fun e w'=>e=.returned (.int .i64 (frontS p f))∧Below w.heap.size w w':=by
 obtain⟨⟨a0,m0,rfl,_⟩,⟨a1,m1,rfl,_⟩,a2,m2,rfl,_⟩:=hv;obtain⟨_,_,⟨e0,e1,rfl,ha⟩,⟨e2,e3,rfl,ho⟩,e4,e5,rfl,_⟩:=hf;obtain⟨fa,fr,fs,fo,fc⟩:=f;obtain⟨bv,br,_,bo,_⟩:=hB
 dsimp only at ha ho bv br bo hla hlo hlc ⊢
 have hbx:=fun wr h=>box2 w #[.slice a0 p.globals.length m0,.slice a1 p.shapes.length m1,.slice a2 p.funcs.length m2] #[.slice e0 fa.length e1,.int .i64 fr,.int .i64 fs,.slice e2 fo.length e3,.slice e4 fc.length e5] 48 66 wr h
 have hz0:((w.alloc (.cells #[.slice a0 p.globals.length m0,.slice a1 p.shapes.length m1,.slice a2 p.funcs.length m2] 48)).alloc (.cells #[.slice e0 fa.length e1,.int .i64 fr,.int .i64 fs,.slice e2 fo.length e3,.slice e4 fc.length e5] 66)).heap.size=w.heap.size+2:=by simp
 obtain⟨W,hW⟩:∃ W,W=(w.alloc (.cells #[.slice a0 p.globals.length m0,.slice a1 p.shapes.length m1,.slice a2 p.funcs.length m2] 48)).alloc (.cells #[.slice e0 fa.length e1,.int .i64 fr,.int .i64 fs,.slice e2 fo.length e3,.slice e4 fc.length e5] 66):=⟨_,rfl⟩;rw[← hW] at hbx hz0;have hs:∀ wr,Below W.heap.size W wr→wr.cell? ⟨w.heap.size,0,none⟩=some (.slice a0 p.globals.length m0)∧wr.cell? ⟨w.heap.size,1,none⟩=some (.slice a1 p.shapes.length m1)∧wr.cell? ⟨w.heap.size,2,none⟩=some (.slice a2 p.funcs.length m2)∧wr.cell? ⟨w.heap.size+1,0,none⟩=some (.slice e0 fa.length e1)∧wr.cell? ⟨w.heap.size+1,1,none⟩=some (.int .i64 fr)∧wr.cell? ⟨w.heap.size+1,2,none⟩=some (.int .i64 fs)∧wr.cell? ⟨w.heap.size+1,3,none⟩=some (.slice e2 fo.length e3)∧wr.cell? ⟨w.heap.size+1,4,none⟩=some (.slice e4 fc.length e5):=fun wr h=>by
  rw[hz0] at h;have hb:=hbx wr h;exact⟨hb.1 0 _ rfl,hb.1 1 _ rfl,hb.1 2 _ rfl,hb.2.1 0 _ rfl,hb.2.1 1 _ rfl,hb.2.1 2 _ rfl,hb.2.1 3 _ rfl,hb.2.1 4 _ rfl⟩
 have hbw:∀ wr,Below W.heap.size W wr→Below w.heap.size w wr:=fun wr h=>by rw[hz0] at h;exact(hbx wr h).2.2.1
 have hw0:=Below.refl W.heap.size W;have hb0:=hbw W hw0;have ha:∀ wr,Below W.heap.size W wr→IntSl wr D e0 fa:=fun wr h=>ha.fr (Fr.of_below (hbw wr h) (fun _=>False)) (fun _ _ h=>h)
 have ho:∀ wr,Below W.heap.size W wr→IntSl wr D e2 fo:=fun wr h=>ho.fr (Fr.of_below (hbw wr h) (fun _=>False)) (fun _ _ h=>h)
 obtain⟨E,hE⟩:∃ E,E=frontS p ⟨fa,fr,fs,fo,fc⟩:=⟨_,rfl⟩;rw[← hE];unfold frontS at hE
 dsimp only at hE
 obtain⟨k0,k1,k2,k3,k4,k5,k6,k7⟩:=hs W hw0;have HW:=k_ hW;clear hW hbx hz0;have HB0:=k_ hb0;clear hb0;have HS:=k_ hs;clear hs;have HBW:=k_ hbw;clear hbw;have HW0:=k_ hw0;clear hw0
 by_cases hc:fs<fa.length∨16<fs∨8<fo.length∨fc.length<1∨64<fc.length
 case pos =>
  rw[if_pos hc] at hE;subst hE
  by_cases c1:fs<fa.length
  ·skip
   clear hc ha ho bv bo br hD
   go_enter Tryz.func223,Tryz.ntmps223
   go_upto_region 1 with fail
   rw[← HW.out];go_wp2_with fail
   go_ret
   exact⟨rfl,HB0.out⟩
  by_cases c2:16<fs
  ·skip
   clear hc ha ho bv bo br hD
   go_enter Tryz.func223,Tryz.ntmps223
   go_upto_region 1 with fail
   rw[← HW.out];go_wp2_with fail
   go_ret
   exact⟨rfl,HB0.out⟩
  by_cases c3:(8:Int)<fo.length
  ·skip
   clear hc ha ho bv bo br hD
   go_enter Tryz.func223,Tryz.ntmps223
   go_upto_region 1 with fail
   rw[← HW.out];go_wp2_with fail
   go_ret
   exact⟨rfl,HB0.out⟩
  by_cases c4:(fc.length:Int)<1
  ·skip
   clear hc ha ho bv bo br hD
   go_enter Tryz.func223,Tryz.ntmps223
   go_upto_region 1 with fail
   rw[← HW.out];go_wp2_with fail
   go_ret
   exact⟨rfl,HB0.out⟩
  by_cases c5:(64:Int)<fc.length
  ·skip
   clear hc ha ho bv bo br hD
   go_enter Tryz.func223,Tryz.ntmps223
   go_upto_region 1 with fail
   rw[← HW.out];go_wp2_with fail
   go_ret
   exact⟨rfl,HB0.out⟩
  exact absurd hc (by omega)
 rw[if_neg hc] at hE;have c1:¬ fs<fa.length:=by omega
 have c2:¬ 16<fs:=by omega
 have c3:¬ (8:Int)<fo.length:=by omega
 have c4:¬ (fc.length:Int)<1:=by omega
 have c5:¬ (64:Int)<fc.length:=by omega
 have HE:=k_ hE;clear hc hE;have HA:=k_ ha;clear ha;have HO:=k_ ho;clear ho;have BV:=k_ bv;clear bv;have BO:=k_ bo;clear bo;have BR:=k_ br;clear br;have HD:=k_ hD;clear hD
 go_enter Tryz.func223,Tryz.ntmps223
 go_upto_region 1 with fail
 rw[← HW.out];go_wp2_with fail;clear k0 k1 k2 k3 k4 k5 k6 k7
 go_loopw [41] (fun i wr=>∃ k:Nat,k≤fa.length∧i=.int .i64 k∧Below W.heap.size W wr∧(fa.take k).all (validB · p.shapes.length)=true) (fun i _=>fa.length - (intOf i).toNat)
 case atStart=>exact⟨0,Nat.zero_le _,rfl,HW0.out,rfl⟩
 case round =>
  obtain⟨k,hk,rfl,hR,hall⟩:=hrel;obtain⟨k0,k1,k2,k3,k4,k5,k6,k7⟩:=HS.out wr hR;have hbw:=HBW.out wr hR
  by_cases hlt:k<fa.length
  ·obtain⟨b',o',rfl,_,hx⟩:=HA.out wr hR k hlt
   have va:=fun w=>valid_any w fa[k] p.shapes.length (by omega) (BV.out _ (List.getElem_mem hlt))
   have hsn:=all_take hlt hall;have hno:=all_no (P:=(validB · p.shapes.length)) hlt
   try dsimp only at hsn hno
   generalize fa[k]=x at *
   cases hwx:validB x p.shapes.length
   ·have e:=HE.out
    rw[if_pos (hno hwx)] at e;subst e;rw[hwx] at va;clear hsn hno hwx hall;have HBW2:=k_ hbw;clear hbw;have VA:=k_ va;clear va;have HR:=k_ hR;clear hR;go_wp2_with fail;refine(VA.out _).mono ?_;rintro e w9 ⟨rfl,hb9⟩;have HB9:=k_ (HBW2.out.trans (hb9.mono HBW2.out.size));clear hb9;go_wp2_with fail
    go_ret
    exact⟨rfl,HB9.out⟩
   ·rw[hwx] at va hsn
    clear hno hwx hall hbw;have VA:=k_ va;clear va;have HR:=k_ hR;clear hR;have HSN:=k_ hsn;clear hsn;go_wp2_with fail;refine(VA.out _).mono ?_;rintro e w9 ⟨rfl,hb9⟩;have HB9:=k_ (HR.out.trans (hb9.mono HR.out.size));clear hb9;go_wp2_with fail
    go_roundw
    case rel=>exact⟨k+1,by omega,by go_num,HB9.out,HSN.out⟩
    case measure=>simp[intOf];omega
  ·have hk':k=fa.length:=by omega
   subst hk';rw[List.take_length] at hall;have hE:=HE.out;rw[if_neg (by rw[hall];simp)] at hE;clear hall HE hbw;have HR:=k_ hR;clear hR
   by_cases hr:fr=0
   ·subst hr
    rw[if_neg (by simp)] at hE;have HE:=k_ hE;clear hE
    go_upto_region 11 with fail
    clear k0 k1 k2 k3 k4 k5 k6 k7;obtain⟨k0,k1,k2,k3,k4,k5,k6,k7⟩:=HS.out wr HR.out;have hE:=HE.out;clear HE;have hO:=k_ hE;clear hE;go_wp2_with fail
    go_loopw [67] (fun i wr=>∃ k:Nat,k≤fo.length∧i=.int .i64 k∧Below W.heap.size W wr∧(fo.take k).all (withinB · p.shapes.length)=true) (fun i _=>fo.length - (intOf i).toNat)
    case atStart=>exact⟨0,Nat.zero_le _,rfl,HR.out,rfl⟩
    case round =>
     obtain⟨k,hk,rfl,hR,hall⟩:=hrel;obtain⟨k0,k1,k2,k3,k4,k5,k6,k7⟩:=HS.out wr hR;have hbw:=HBW.out wr hR
     by_cases hlt:k<fo.length
     ·obtain⟨b',o',rfl,_,hx⟩:=HO.out wr hR k hlt
      have wi:=fun w=>within_any w fo[k] p.shapes.length
      have hsn:=all_take hlt hall;have hno:=all_no (P:=(withinB · p.shapes.length)) hlt
      try dsimp only at hsn hno
      generalize fo[k]=x at *
      cases hwx:withinB x p.shapes.length
      ·have e:=hO.out
       rw[if_pos (hno hwx)] at e;subst e;rw[hwx] at wi;clear hsn hno hwx hall;have HBW2:=k_ hbw;clear hbw;have WI:=k_ wi;clear wi;have HR:=k_ hR;clear hR;go_wp2_with fail;refine(WI.out _).mono ?_;rintro e w9 ⟨rfl,rfl⟩;go_wp2_with fail
       go_ret
       exact⟨rfl,HBW2.out⟩
      ·rw[hwx] at wi hsn
       clear hno hwx hall;clear hbw;have WI:=k_ wi;clear wi;have HR:=k_ hR;clear hR;have HSN:=k_ hsn;clear hsn;go_wp2_with fail;refine(WI.out _).mono ?_;rintro e w9 ⟨rfl,rfl⟩;go_wp2_with fail
       go_roundw
       case rel=>exact⟨k+1,by omega,by go_num,HR.out,HSN.out⟩
       case measure=>simp[intOf];omega
     ·have hk':k=fo.length:=by omega
      subst hk';rw[List.take_length] at hall;have e:=hO.out;rw[if_neg (by rw[hall];simp)] at e;subst e;clear hall;have HBW2:=k_ hbw;clear hbw;have HR:=k_ hR;clear hR;go_wp2_with fail
      go_ret
      exact⟨rfl,HBW2.out⟩
   ·have hr1:(fr != 0)=true:=by simpa using hr
    have fi:=fun w=>field_any w fr p.shapes.length (by omega) BR.out
    cases hfi:fieldB fr p.shapes.length
    ·rw[if_pos ⟨hr,hfi⟩] at hE
     subst hE;rw[hfi] at fi;clear hfi hr;have FI:=k_ fi;clear fi;go_wp2_with fail;refine(FI.out _).mono ?_;rintro e w9 ⟨rfl,hb9⟩;have HB9:=k_ (HBW.out _ (HR.out.trans (hb9.mono HR.out.size)));clear hb9;go_wp2_with fail
     go_ret
     exact⟨rfl,HB9.out⟩
    ·rw[if_neg (by rw[hfi];simp)] at hE
     rw[hfi] at fi;clear hfi hr;have HE:=k_ hE;clear hE;have FI:=k_ fi;clear fi;go_wp2_with fail;refine(FI.out _).mono ?_;rintro e w9 ⟨rfl,hb9⟩;have HR9:=k_ (HR.out.trans (hb9.mono HR.out.size));clear hb9 k0 k1 k2 k3 k4 k5 k6 k7;obtain⟨k0,k1,k2,k3,k4,k5,k6,k7⟩:=HS.out w9 HR9.out;have hE:=HE.out;clear HE;have hO:=k_ hE;clear hE;go_wp2_with fail
     go_loopw [67] (fun i wr=>∃ k:Nat,k≤fo.length∧i=.int .i64 k∧Below W.heap.size W wr∧(fo.take k).all (withinB · p.shapes.length)=true) (fun i _=>fo.length - (intOf i).toNat)
     case atStart=>exact⟨0,Nat.zero_le _,rfl,HR9.out,rfl⟩
     case round =>
      obtain⟨k,hk,rfl,hR,hall⟩:=hrel;obtain⟨k0,k1,k2,k3,k4,k5,k6,k7⟩:=HS.out wr hR;have hbw:=HBW.out wr hR
      by_cases hlt:k<fo.length
      ·obtain⟨b',o',rfl,_,hx⟩:=HO.out wr hR k hlt
       have wi:=fun w=>within_any w fo[k] p.shapes.length
       have hsn:=all_take hlt hall;have hno:=all_no (P:=(withinB · p.shapes.length)) hlt
       try dsimp only at hsn hno
       generalize fo[k]=x at *
       cases hwx:withinB x p.shapes.length
       ·have e:=hO.out
        rw[if_pos (hno hwx)] at e;subst e;rw[hwx] at wi;clear hsn hno hwx hall;have HBW2:=k_ hbw;clear hbw;have WI:=k_ wi;clear wi;have HR:=k_ hR;clear hR;go_wp2_with fail;refine(WI.out _).mono ?_;rintro e w9 ⟨rfl,rfl⟩;go_wp2_with fail
        go_ret
        exact⟨rfl,HBW2.out⟩
       ·rw[hwx] at wi hsn
        clear hno hwx hall;clear hbw;have WI:=k_ wi;clear wi;have HR:=k_ hR;clear hR;have HSN:=k_ hsn;clear hsn;go_wp2_with fail;refine(WI.out _).mono ?_;rintro e w9 ⟨rfl,rfl⟩;go_wp2_with fail
        go_roundw
        case rel=>exact⟨k+1,by omega,by go_num,HR.out,HSN.out⟩
        case measure=>simp[intOf];omega
      ·have hk':k=fo.length:=by omega
       subst hk';rw[List.take_length] at hall;have e:=hO.out;rw[if_neg (by rw[hall];simp)] at e;subst e;clear hall;have HBW2:=k_ hbw;clear hbw;have HR:=k_ hR;clear hR;go_wp2_with fail
       go_ret
       exact⟨rfl,HBW2.out⟩
def placeS (p:Prg) (fn:Int):Int × Int:=if (funcS p fn).1=0 then (0,0) else (fn,(funcS p fn).2)
def FuncPost (p:Prg) (fn:Int) (w:World) (e:Ending) (w':World):Prop :=
 e=.returned (.tuple #[.int .i64 (funcS p fn).1,.agg #[.int .i64 (placeS p fn).1,.int .i64 (placeS p fn).2]])∧Below w.heap.size w w'
theorem funcPost_bad {p:Prg} {fn E m:Int} {n:Nat} {w w':World} (h:funcS p fn=(E,n)) (hE:E≠0) (hm:m=n) (hb:Below w.heap.size w w'):FuncPost p fn w (.returned (.tuple #[.int .i64 E,.agg #[.int .i64 fn,.int .i64 m]])) w':=by
 unfold FuncPost placeS;rw[h];simp only;rw[if_neg hE,hm];exact⟨rfl,hb⟩
theorem funcPost_ok {p:Prg} {fn:Int} {w w':World} (h:funcS p fn=(0,0)) (hb:Below w.heap.size w w'):FuncPost p fn w (.returned (.tuple #[.int .i64 0,.agg #[.int .i64 0,.int .i64 0]])) w':=by
 unfold FuncPost placeS;rw[h];simp only;rw[if_pos trivial];exact⟨rfl,hb⟩
theorem funcC_any (w:World) (D:Nat→Prop) (hD:∀ k,D k→k<w.heap.size) (p:Prg) (c0 c1 c2:Value) (hv:PrgVal w D p c0 c1 c2) (hp:PrgB p) (hq:PrgR p) (fn:Int) :
  Calls Tryz.prog 159 #[.agg #[c0,c1,c2],.int .i64 fn] w (FuncPost p fn w):=by
 have hPP:∀ wr,Below w.heap.size w wr→PrgVal wr D p c0 c1 c2:=fun wr hb=>hv.fr (Fr.of_below hb (fun _=>False)) (fun _ _ h=>h)
 obtain⟨⟨a0,m0,rfl,_⟩,⟨a1,m1,rfl,_⟩,a2,m2,rfl,hfn⟩:=hv;have hbx:=fun wr h=>box2 w #[.slice a0 p.globals.length m0,.slice a1 p.shapes.length m1,.slice a2 p.funcs.length m2] #[.int .i64 0,.int .i64 0] 48 147 wr h
 have hz0:((w.alloc (.cells #[.slice a0 p.globals.length m0,.slice a1 p.shapes.length m1,.slice a2 p.funcs.length m2] 48)).alloc (.cells #[.int .i64 0,.int .i64 0] 147)).heap.size=w.heap.size+2:=by simp
 have hpl:=heap_new (w.alloc (.cells #[.slice a0 p.globals.length m0,.slice a1 p.shapes.length m1,.slice a2 p.funcs.length m2] 48)) (.cells #[.int .i64 0,.int .i64 0] 147);rw[show (w.alloc (.cells #[.slice a0 p.globals.length m0,.slice a1 p.shapes.length m1,.slice a2 p.funcs.length m2] 48)).heap.size=w.heap.size+1 from by simp] at hpl;obtain⟨W,hW⟩:∃ W,W=(w.alloc (.cells #[.slice a0 p.globals.length m0,.slice a1 p.shapes.length m1,.slice a2 p.funcs.length m2] 48)).alloc (.cells #[.int .i64 0,.int .i64 0] 147):=⟨_,rfl⟩;rw[← hW] at hbx hz0 hpl;have hs:∀ wr,Below W.heap.size W wr→wr.cell? ⟨w.heap.size,0,none⟩=some (.slice a0 p.globals.length m0)∧wr.cell? ⟨w.heap.size,1,none⟩=some (.slice a1 p.shapes.length m1)∧wr.cell? ⟨w.heap.size,2,none⟩=some (.slice a2 p.funcs.length m2)∧wr.heap[w.heap.size+1]?=some (.cells #[.int .i64 0,.int .i64 0] 147):=fun wr h=>by
  have hpl2:=(Fr.of_below h (fun _=>False)).heap hpl (fun h=>h);rw[hz0] at h;have hb:=hbx wr h;exact⟨hb.1 0 _ rfl,hb.1 1 _ rfl,hb.1 2 _ rfl,hpl2⟩
 have hbw:∀ wr,Below W.heap.size W wr→Below w.heap.size w wr:=fun wr h=>by rw[hz0] at h;exact(hbx wr h).2.2.1
 have hw0:=Below.refl W.heap.size W;have hb0:=hbw W hw0;have hfn:=hfn.fr (Fr.of_below (hbw W hw0) (fun _=>False)) (fun _ _ h=>h);obtain⟨k0,k1,k2,k3⟩:=hs W hw0;have wi:=within_any W fn p.funcs.length;have HW:=k_ hW;clear hW hbx
 cases hin:withinB fn p.funcs.length
 ·rw[hin] at wi
  have hr:=row_set (row_set k3 0 (.int .i64 fn)) 1 (.int .i64 0);have hf:Fr (fun q=>q=w.heap.size+1) W _:=((Fr.refl (fun q=>q=w.heap.size+1) W).setCell (p:=⟨w.heap.size+1,0,none⟩) (fun _=>rfl) (.int .i64 fn)).setCell (p:=⟨w.heap.size+1,1,none⟩) (fun _=>rfl) (.int .i64 0);have hb:=hb0.trans (hf.below hb0.size (fun k hk=>by omega));obtain⟨_,_,f0,f1⟩:=two_cells k3;have hP:=funcPost_bad (funcS_out hin) (by decide) rfl hb;clear k3 hfn hs hbw hPP hpl hin hD hz0;have WI:=k_ wi;clear wi
  go_enter Tryz.func159,Tryz.ntmps159
  go_upto_region 1 with fail
  rw[← HW.out];go_wp2_with fail;refine WI.out.mono ?_;rintro e w' ⟨rfl,rfl⟩;have HR:=k_ hr;clear hr;have HP:=k_ hP;clear hP;clear hf hb
  go_wp2_with (with_reducible refine bodyPost_ret ?_ rfl HP.out;obtain⟨k0,k1,_⟩:=two_cells HR.out;simp[results,Tryz.results159,go_sem,k0,k1])
  all_goals (try trivial)
 rw[hin] at wi;obtain⟨j,rfl,hj⟩:=within_nat hin;have hfS:=funcS_at j hj;obtain⟨bb,o,rfl,_,y0,y1,y2,y3,y4,g0,g1,g2,g3,g4,hfv⟩:=hfn j hj;have hB:=hp.2.2 p.funcs[j] (List.getElem_mem hj);have hR:=hq.2.2.2.2 p.funcs[j] (List.getElem_mem hj);have hfv0:=hfv;have hco:(codeOf p j)=p.funcs[j].code:=by unfold codeOf;rw[if_pos hin];simp[hj]
 have hln:=codeOf_len hq (j:Int);generalize p.funcs[j]=f at *;obtain⟨rfl,rfl,⟨e0,e1,rfl,_⟩,⟨e2,e3,rfl,_⟩,e4,e5,rfl,_⟩:=hfv;have hx1:=fun wr h=>box1 W #[.slice e0 f.args.length e1,.int .i64 f.result,.int .i64 f.slots,.slice e2 f.objects.length e3,.slice e4 f.code.length e5] 66 wr h
 have hx2:(W.alloc (.cells #[.slice e0 f.args.length e1,.int .i64 f.result,.int .i64 f.slots,.slice e2 f.objects.length e3,.slice e4 f.code.length e5] 66)).heap.size=W.heap.size+1:=by simp
 obtain⟨X,hX⟩:∃ X,X=W.alloc (.cells #[.slice e0 f.args.length e1,.int .i64 f.result,.int .i64 f.slots,.slice e2 f.objects.length e3,.slice e4 f.code.length e5] 66):=⟨_,rfl⟩;rw[← hX] at hx1 hx2;have ht:∀ wr,Below X.heap.size X wr→wr.cell? ⟨W.heap.size,0,none⟩=some (.slice e0 f.args.length e1)∧wr.cell? ⟨W.heap.size,1,none⟩=some (.int .i64 f.result)∧wr.cell? ⟨W.heap.size,2,none⟩=some (.int .i64 f.slots)∧wr.cell? ⟨W.heap.size,3,none⟩=some (.slice e2 f.objects.length e3)∧wr.cell? ⟨W.heap.size,4,none⟩=some (.slice e4 f.code.length e5):=fun wr h=>by
  rw[hx2] at h;have hb:=hx1 wr h;exact⟨hb.1 0 _ rfl,hb.1 1 _ rfl,hb.1 2 _ rfl,hb.1 3 _ rfl,hb.1 4 _ rfl⟩
 have htw:∀ wr,Below X.heap.size X wr→Below W.heap.size W wr:=fun wr h=>by rw[hx2] at h;exact(hx1 wr h).2.1
 have hX0:=Below.refl X.heap.size X;have fr:=frontC_any X D (fun k hk=>Nat.lt_of_lt_of_le (hD k hk) (hbw X (htw X hX0)).size) p f _ _ _ _ _ _ (hPP X (hbw X (htw X hX0))) (hfv0.fr (Fr.of_below (htw X hX0) (fun _=>False)) (fun _ _ h=>h)) hB hq.2.1 hR.1 hR.2.1 hR.2.2;have ins:=fun wr (h:Below X.heap.size X wr) (k:Nat) (hk:k≤3000)=>instrC_any wr D p _ _ _ j k (fun q hq=>Nat.lt_of_lt_of_le (hD q hq) (hbw wr (htw wr h)).size) (hPP wr (hbw wr (htw wr h))) (by unfold i64B;have:=hq.2.2.1;omega) (by unfold i64B;omega) hln (calleeG_len hq) (slots_lt hp) hq.1.1
 have hj1:(j:Int)<p.funcs.length:=by omega
 have hcl:f.code.length≤3000:=hR.2.2;have HX:=k_ hX;clear hX hx1 hfv0 hin hB hR hco hln hPP hp hq hD hpl hz0;have front:=@funF_front p j f;have code:=@funF_code p j f;rw[← hfS] at front code;clear hfS;generalize frontS p f=fe at *;have FRONT:=k_ front;clear front;have CODE:=k_ code;clear code;have WI:=k_ wi;clear wi;have HS:=k_ hs;clear hs;have HBW:=k_ hbw;clear hbw;have HW0:=k_ hw0;clear hw0;have HB0:=k_ hb0;clear hb0;have HFN:=k_ hfn;clear hfn;have HT:=k_ ht;clear ht;have HTW:=k_ htw;clear htw;have HX0:=k_ hX0;clear hX0;have FR:=k_ fr;clear fr;have INS:=k_ ins;clear ins
 go_enter Tryz.func159,Tryz.ntmps159
 go_upto_region 1 with fail
 rw[← HW.out];go_wp2_with fail;refine WI.out.mono ?_;rintro e w' ⟨rfl,rfl⟩
 go_upto_region 4 with fail
 rw[← HX.out];clear k0 k1 k2 k3 g0 g1 g2 g3 g4;obtain⟨k0,k1,k2,k3⟩:=HS.out X (HTW.out X HX0.out);obtain⟨t0,t1,t2,t3,t4⟩:=HT.out X HX0.out;go_wp2_with fail;refine FR.out.mono ?_;rintro e w1 ⟨rfl,hb1⟩;have hbz:=HBW.out w1 (HTW.out w1 hb1);clear k0 k1 k2 k3 t0 t1 t2 t3 t4;obtain⟨k0,k1,k2,k3⟩:=HS.out w1 (HTW.out w1 hb1);obtain⟨t0,t1,t2,t3,t4⟩:=HT.out w1 hb1
 by_cases hfe:fe=0
 case neg =>
  have hfe1:(fe != 0)=true:=by simpa using hfe
  have hr:=row_set (row_set k3 0 (.int .i64 (j:Int))) 1 (.int .i64 0);have hf:Fr (fun q=>q=w.heap.size+1) w1 _:=((Fr.refl (fun q=>q=w.heap.size+1) w1).setCell (p:=⟨w.heap.size+1,0,none⟩) (fun _=>rfl) (.int .i64 (j:Int))).setCell (p:=⟨w.heap.size+1,1,none⟩) (fun _=>rfl) (.int .i64 0);have hb:=hbz.trans (hf.below hbz.size (fun k hk=>by omega));obtain⟨_,_,f0,f1⟩:=two_cells k3;have hP:=funcPost_bad (FRONT.out hfe) hfe rfl hb;clear k3 hbz hfe hb1;have HR:=k_ hr;clear hr;have HP:=k_ hP;clear hP;clear hf hb
  go_wp2_with (with_reducible refine bodyPost_ret ?_ rfl HP.out;obtain⟨k0,k1,_⟩:=two_cells HR.out;simp[results,Tryz.results159,go_sem,k0,k1])
  all_goals (try trivial)
 subst hfe;have code2:=CODE.out rfl;clear CODE;have CODE:=k_ code2;clear code2;have HB1:=k_ hb1;clear k3 hbz hb1;go_wp2_with fail
 go_loopw [34] (fun i wr=>∃ k:Nat,k≤f.code.length∧i=.int .i64 k∧Below X.heap.size X wr∧∀ q,q<k→instrE p j q=0) (fun i _=>f.code.length - (intOf i).toNat)
 case atStart=>exact⟨0,Nat.zero_le _,rfl,HB1.out,fun q hq=>absurd hq (by omega)⟩
 case round =>
  clear k0 k1 k2 t0 t1 t2 t3 t4;obtain⟨k,hk,rfl,hR,hall⟩:=hrel;have hbz:=HBW.out wr (HTW.out wr hR);obtain⟨k0,k1,k2,k3⟩:=HS.out wr (HTW.out wr hR)
  by_cases hlt:k<f.code.length
  ·have ins:=INS.out wr hR k (by omega)
   have hhit:=firstAt_hit (f:=fun pc:Nat=>instrE p j pc) (n:=f.code.length) (k:=k) hlt hall;have hsu:instrE p j k=0→∀ q,q<k+1→instrE p j q=0:=fun h q hq=>by
    by_cases he:q=k
    ·subst he;exact h
    ·exact hall q (by omega)
   try dsimp only at hhit
   rw[← CODE.out] at hhit;generalize instrE p j k=ie at *;clear k3 hbz hall;have INS:=k_ ins;clear ins;have HHIT:=k_ hhit;clear hhit;have HSU:=k_ hsu;clear hsu;have HR:=k_ hR;clear hR;go_wp2_with fail;refine INS.out.mono ?_;rintro e w9 ⟨rfl,hb9⟩;have hR9:=HR.out.trans (hb9.mono HR.out.size);have hbz:=HBW.out w9 (HTW.out w9 hR9);clear k0 k1 k2;obtain⟨k0,k1,k2,k3⟩:=HS.out w9 (HTW.out w9 hR9)
   by_cases hie:ie=0
   case neg =>
    have hie1:(ie != 0)=true:=by simpa using hie
    have hr:=row_set (row_set k3 0 (.int .i64 (j:Int))) 1 (.int .i64 (k:Int));have hf:Fr (fun q=>q=w.heap.size+1) w9 _:=((Fr.refl (fun q=>q=w.heap.size+1) w9).setCell (p:=⟨w.heap.size+1,0,none⟩) (fun _=>rfl) (.int .i64 (j:Int))).setCell (p:=⟨w.heap.size+1,1,none⟩) (fun _=>rfl) (.int .i64 (k:Int));have hb:=hbz.trans (hf.below hbz.size (fun k hk=>by omega));obtain⟨_,_,f0,f1⟩:=two_cells k3;have hP:=funcPost_bad (HHIT.out hie) hie rfl hb;clear k3 hbz hie hb9 hR9 HR;have HR:=k_ hr;clear hr;have HP:=k_ hP;clear hP;clear hf hb
    go_wp2_with (with_reducible refine bodyPost_ret ?_ rfl HP.out;obtain⟨k0,k1,_⟩:=two_cells HR.out;simp[results,Tryz.results159,go_sem,k0,k1])
    all_goals (try trivial)
   subst hie;have hsv:=HSU.out rfl;clear k3 hbz hb9 HSU;have HSV:=k_ hsv;clear hsv;have HR9:=k_ hR9;clear hR9;go_wp2_with fail
   go_roundw
   case rel=>exact⟨k+1,by omega,by go_num,HR9.out,HSV.out⟩
   case measure=>simp[intOf];omega
  ·have hk':k=f.code.length:=by omega
   subst hk';have hzz:=firstAt_none (f:=fun pc:Nat=>instrE p j pc) hall;rw[← CODE.out] at hzz;have hr:=row_set (row_set k3 0 (.int .i64 0)) 1 (.int .i64 0);have hf:Fr (fun q=>q=w.heap.size+1) wr _:=((Fr.refl (fun q=>q=w.heap.size+1) wr).setCell (p:=⟨w.heap.size+1,0,none⟩) (fun _=>rfl) (.int .i64 0)).setCell (p:=⟨w.heap.size+1,1,none⟩) (fun _=>rfl) (.int .i64 0);have hb:=hbz.trans (hf.below hbz.size (fun k hk=>by omega));obtain⟨_,_,f0,f1⟩:=two_cells k3;have hP:=funcPost_ok hzz hb;clear k3 hbz hall hR hzz;have HR:=k_ hr;clear hr;have HP:=k_ hP;clear hP;clear hf hb
   go_wp2_with (with_reducible refine bodyPost_ret ?_ rfl HP.out;obtain⟨k0,k1,_⟩:=two_cells HR.out;simp[results,Tryz.results159,go_sem,k0,k1])
   all_goals (try trivial)
def ProgPost (p:Prg) (w:World) (e:Ending) (w':World):Prop :=
 e=.returned (.tuple #[.int .i64 (progS p).1,.agg #[.int .i64 (progS p).2.1,.int .i64 (progS p).2.2]])∧Below w.heap.size w w'
theorem progPost_of {p:Prg} {E a b:Int} {x y:Nat} {w w':World} (h:progS p=(E,x,y)) (hx:a=x) (hy:b=y) (hb:Below w.heap.size w w'):ProgPost p w (.returned (.tuple #[.int .i64 E,.agg #[.int .i64 a,.int .i64 b]])) w':=by
 unfold ProgPost;rw[h,hx,hy];exact⟨rfl,hb⟩
theorem progS_whole {p:Prg} (h:wholeS p≠0):progS p=(wholeS p,0,0):=by unfold progS;rw[if_pos h]
theorem progS_hit {p:Prg} (h:wholeS p=0) (k:Nat) (hk:k<p.funcs.length) (hp:∀ q:Nat,q<k→(funcS p (q:Int)).1=0) (hne:(funcS p k).1≠0):progS p=((funcS p k).1,k,(funcS p k).2):=by
 unfold progS;rw[if_neg (by simpa using h),firstAt_hit (f:=fun i:Nat=>(funcS p i).1) (k:=k) hk hp hne];simp only;rw[if_neg hne]
theorem progS_ok {p:Prg} (h:wholeS p=0) (hp:∀ q:Nat,q<p.funcs.length→(funcS p (q:Int)).1=0):progS p=(0,0,0):=by
 unfold progS;rw[if_neg (by simpa using h),firstAt_none (f:=fun i:Nat=>(funcS p i).1) hp]
 rfl
theorem progC_any (w:World) (D:Nat→Prop) (hD:∀ k,D k→k<w.heap.size) (p:Prg) (c0 c1 c2:Value) (hv:PrgVal w D p c0 c1 c2) (hp:PrgB p) (hq:PrgR p) :
  Calls Tryz.prog 112 #[.agg #[c0,c1,c2]] w (ProgPost p w):=by
 have hPP:∀ wr,Below w.heap.size w wr→PrgVal wr D p c0 c1 c2:=fun wr hb=>hv.fr (Fr.of_below hb (fun _=>False)) (fun _ _ h=>h)
 obtain⟨⟨a0,m0,rfl,_⟩,⟨a1,m1,rfl,_⟩,a2,m2,rfl,_⟩:=hv;have hbx:=fun wr h=>box2 w #[.slice a0 p.globals.length m0,.slice a1 p.shapes.length m1,.slice a2 p.funcs.length m2] #[.int .i64 0,.int .i64 0] 48 147 wr h
 have hz0:((w.alloc (.cells #[.slice a0 p.globals.length m0,.slice a1 p.shapes.length m1,.slice a2 p.funcs.length m2] 48)).alloc (.cells #[.int .i64 0,.int .i64 0] 147)).heap.size=w.heap.size+2:=by simp
 have hpl:=heap_new (w.alloc (.cells #[.slice a0 p.globals.length m0,.slice a1 p.shapes.length m1,.slice a2 p.funcs.length m2] 48)) (.cells #[.int .i64 0,.int .i64 0] 147);rw[show (w.alloc (.cells #[.slice a0 p.globals.length m0,.slice a1 p.shapes.length m1,.slice a2 p.funcs.length m2] 48)).heap.size=w.heap.size+1 from by simp] at hpl;obtain⟨W,hW⟩:∃ W,W=(w.alloc (.cells #[.slice a0 p.globals.length m0,.slice a1 p.shapes.length m1,.slice a2 p.funcs.length m2] 48)).alloc (.cells #[.int .i64 0,.int .i64 0] 147):=⟨_,rfl⟩;rw[← hW] at hbx hz0 hpl;have hs:∀ wr,Below W.heap.size W wr→wr.cell? ⟨w.heap.size,0,none⟩=some (.slice a0 p.globals.length m0)∧wr.cell? ⟨w.heap.size,1,none⟩=some (.slice a1 p.shapes.length m1)∧wr.cell? ⟨w.heap.size,2,none⟩=some (.slice a2 p.funcs.length m2)∧wr.heap[w.heap.size+1]?=some (.cells #[.int .i64 0,.int .i64 0] 147):=fun wr h=>by
  have hpl2:=(Fr.of_below h (fun _=>False)).heap hpl (fun h=>h);rw[hz0] at h;have hb:=hbx wr h;exact⟨hb.1 0 _ rfl,hb.1 1 _ rfl,hb.1 2 _ rfl,hpl2⟩
 have hbw:∀ wr,Below W.heap.size W wr→Below w.heap.size w wr:=fun wr h=>by rw[hz0] at h;exact(hbx wr h).2.2.1
 have hw0:=Below.refl W.heap.size W;have wh:=wholeC_any W D (fun k hk=>Nat.lt_of_lt_of_le (hD k hk) (hbw W hw0).size) p _ _ _ (hPP W (hbw W hw0)) hp hq;have fu:=fun wr (h:Below W.heap.size W wr) (k:Nat)=>funcC_any wr D (fun q hq=>Nat.lt_of_lt_of_le (hD q hq) (hbw wr h).size) p _ _ _ (hPP wr (hbw wr h)) hp hq k
 have HW:=k_ hW;have hfl:=hq.2.2.1;have hzw:w.heap.size+1<W.heap.size:=by omega
 clear hW hbx hz0 hpl hPP hp hq hD;have wnz:=@progS_whole p;have wzh:=@progS_hit p;have wzo:=@progS_ok p;generalize wholeS p=we at *;have WNZ:=k_ wnz;clear wnz;have WZH:=k_ wzh;clear wzh;have WZO:=k_ wzo;clear wzo;obtain⟨k0,k1,k2,k3⟩:=hs W hw0;have HZW:=k_ hzw;clear hzw;have HS:=k_ hs;clear hs;have HBW:=k_ hbw;clear hbw;have HW0:=k_ hw0;clear hw0;have WH:=k_ wh;clear wh;have FU:=k_ fu;clear fu
 go_enter Tryz.func112,Tryz.ntmps112
 go_upto_region 1 with fail
 rw[← HW.out];go_wp2_with fail;refine WH.out.mono ?_;rintro e w1 ⟨rfl,hb1⟩;have hbz:=HBW.out w1 hb1;clear k0 k1 k2 k3;obtain⟨k0,k1,k2,k3⟩:=HS.out w1 hb1
 by_cases hwe:we=0
 case neg =>
  have hwe1:(we != 0)=true:=by simpa using hwe
  have hr:=row_set (row_set k3 0 (.int .i64 0)) 1 (.int .i64 0);have hf:Fr (fun q=>q=w.heap.size+1) w1 _:=((Fr.refl (fun q=>q=w.heap.size+1) w1).setCell (p:=⟨w.heap.size+1,0,none⟩) (fun _=>rfl) (.int .i64 0)).setCell (p:=⟨w.heap.size+1,1,none⟩) (fun _=>rfl) (.int .i64 0);have hb:=hbz.trans (hf.below hbz.size (fun k hk=>by omega));obtain⟨_,_,f0,f1⟩:=two_cells k3;have hP:=progPost_of (WNZ.out hwe) rfl rfl hb;clear k3 hbz hwe hb1;have HR:=k_ hr;clear hr;have HP:=k_ hP;clear hP;clear hf hb
  go_wp2_with (with_reducible refine bodyPost_ret ?_ rfl HP.out;obtain⟨k0,k1,_⟩:=two_cells HR.out;simp[results,Tryz.results112,go_sem,k0,k1])
  all_goals (try trivial)
 subst hwe;have qWZH:=WZH.out rfl;clear WZH;have WZH:=k_ qWZH;clear qWZH;have qWZO:=WZO.out rfl;clear WZO;have WZO:=k_ qWZO;clear qWZO;have HB1:=k_ hb1;clear k3 hbz hb1;go_wp2_with fail
 go_loopw [17] (fun i wr=>∃ k:Nat,k≤p.funcs.length∧i=.int .i64 k∧Below W.heap.size W wr∧∀ q:Nat,q<k→(funcS p (q:Int)).1=0) (fun i _=>p.funcs.length - (intOf i).toNat)
 case atStart=>exact⟨0,Nat.zero_le _,rfl,HB1.out,fun q hq=>absurd hq (by omega)⟩
 case round =>
  clear k0 k1 k2;obtain⟨k,hk,rfl,hR,hall⟩:=hrel;have hbz:=HBW.out wr hR;obtain⟨k0,k1,k2,k3⟩:=HS.out wr hR
  by_cases hlt:k<p.funcs.length
  ·have fu:=FU.out wr hR k
   have hhit:=WZH.out k hlt hall;have hsu:(funcS p k).1=0→∀ q:Nat,q<k+1→(funcS p (q:Int)).1=0:=fun h q hq=>by
    by_cases he:q=k
    ·subst he;exact h
    ·exact hall q (by omega)
   unfold FuncPost placeS at fu;generalize funcS p (k:Int)=fs at *;obtain⟨ie,n⟩:=fs
   dsimp only at fu hhit hsu
   clear k3 hbz hall;have HHIT:=k_ hhit;clear hhit;have HSU:=k_ hsu;clear hsu;have HR:=k_ hR;clear hR
   by_cases hie:ie=0
   ·subst hie
    rw[if_pos rfl] at fu
    dsimp only at fu
    have hsv:=HSU.out rfl;clear HSU;have FU:=k_ fu;clear fu;have HSV:=k_ hsv;clear hsv;go_wp2_with fail;refine FU.out.mono ?_;rintro e w9 ⟨rfl,hb9⟩;have hR9:=HR.out.trans (hb9.mono HR.out.size);have hR10:=hR9.alloc hR9.size (.cells #[.int .i64 0,.int .i64 0] 147);clear hb9 hR9;have HR10:=k_ hR10;clear hR10;go_wp2_with fail
    go_roundw
    case rel=>exact⟨k+1,by omega,by go_num,HR10.out,HSV.out⟩
    case measure=>simp[intOf];omega
   ·have hie1:(ie != 0)=true:=by simpa using hie
    rw[if_neg hie] at fu
    dsimp only at fu
    have hpr:=HHIT.out hie;clear HHIT HSU hie;have FU:=k_ fu;clear fu;have HPR:=k_ hpr;clear hpr;go_wp2_with fail;refine FU.out.mono ?_;rintro e w9 ⟨rfl,hb9⟩;have hR9:=HR.out.trans (hb9.mono HR.out.size);have hq0:∀ wz,Below (w9.heap.size+1) (w9.alloc (.cells #[.int .i64 k,.int .i64 n] 147)) wz→wz.cell? ⟨w9.heap.size,0,none⟩=some (.int .i64 k)∧wz.cell? ⟨w9.heap.size,1,none⟩=some (.int .i64 n):=fun wz h=>⟨(box1 w9 _ _ wz h).1 0 _ rfl,(box1 w9 _ _ wz h).1 1 _ rfl⟩
    have hR10:=hR9.alloc hR9.size (.cells #[.int .i64 k,.int .i64 n] 147);have hsz:(w9.alloc (.cells #[.int .i64 k,.int .i64 n] 147)).heap.size=w9.heap.size+1:=by simp
    clear hb9 hR9
    go_upto_region 9 with fail
    obtain⟨w10,hw10⟩:∃ w10,w10=w9.alloc (.cells #[.int .i64 k,.int .i64 n] 147):=⟨_,rfl⟩;rw[← hw10] at hq0 hR10 hsz ⊢;clear hw10;obtain⟨l0,l1⟩:=hq0 w10 (by rw[← hsz];exact Below.refl _ _);have hbz:=HBW.out w10 hR10;clear k0 k1 k2;obtain⟨k0,k1,k2,k3⟩:=HS.out w10 hR10;have hr:=row_set (row_set k3 0 (.int .i64 (k:Int))) 1 (.int .i64 (n:Int));have hf:Fr (fun q=>q=w.heap.size+1) w10 _:=((Fr.refl (fun q=>q=w.heap.size+1) w10).setCell (p:=⟨w.heap.size+1,0,none⟩) (fun _=>rfl) (.int .i64 (k:Int))).setCell (p:=⟨w.heap.size+1,1,none⟩) (fun _=>rfl) (.int .i64 (n:Int));have hb:=hbz.trans (hf.below hbz.size (fun k hk=>by omega));obtain⟨_,_,f0,f1⟩:=two_cells k3;have hP:=progPost_of HPR.out rfl rfl hb.drew;have hr:=(Fr.refl (fun _=>False) _).drew.heap hr (fun h=>h);clear k3 hbz hR10 hq0;have HR:=k_ hr;clear hr;have HP:=k_ hP;clear hP;clear hf hb
    go_region
    all_goals
     go_wp2_with (with_reducible refine bodyPost_ret ?_ rfl HP.out;obtain⟨k0,k1,_⟩:=two_cells HR.out;simp[results,Tryz.results112,go_sem,k0,k1])
    all_goals (try trivial)
  ·have hk':k=p.funcs.length:=by omega
   subst hk';have hzz:=WZO.out hall;have hr:=row_set (row_set k3 0 (.int .i64 0)) 1 (.int .i64 0);have hf:Fr (fun q=>q=w.heap.size+1) wr _:=((Fr.refl (fun q=>q=w.heap.size+1) wr).setCell (p:=⟨w.heap.size+1,0,none⟩) (fun _=>rfl) (.int .i64 0)).setCell (p:=⟨w.heap.size+1,1,none⟩) (fun _=>rfl) (.int .i64 0);have hb:=hbz.trans (hf.below hbz.size (fun k hk=>by omega));obtain⟨_,_,f0,f1⟩:=two_cells k3;have hP:=progPost_of hzz rfl rfl hb;clear k3 hbz hall hR hzz;have HR:=k_ hr;clear hr;have HP:=k_ hP;clear hP;clear hf hb
   go_wp2_with (with_reducible refine bodyPost_ret ?_ rfl HP.out;obtain⟨k0,k1,_⟩:=two_cells HR.out;simp[results,Tryz.results112,go_sem,k0,k1])
   all_goals (try trivial)
end Go.Proofs.YtlofbhoicbemnaaGreatDoor
