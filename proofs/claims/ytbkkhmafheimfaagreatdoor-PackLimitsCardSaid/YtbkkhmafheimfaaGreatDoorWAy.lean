/- Walk: check.front: why a function may not be, but for its instructions. Walk: check.whole: why a program may not be, but for its functions. -/
import Derived.Test.YtbkkhmafheimfaaGreatDoorWAt
import Derived.Test.YtbkkhmafheimfaaGreatDoorWAh
set_option linter.unusedVariables false
set_option linter.unusedSimpArgs false
set_option maxRecDepth 100000
set_option maxHeartbeats 3200000
namespace Go.Proofs.YtbkkhmafheimfaaGreatDoor
open Go.ChangeShapes Go.WideShapes Go.ChangeAt Go.RowKit Go.Maps
theorem frontC_any (w:World) (D:Nat→Prop) (hD:∀ k,D k→k<w.heap.size) (p:Prg) (f:Fun) (c0 c1 c2 d0 d3 d4:Value) (hv:PrgVal w D p c0 c1 c2) (hf:FunVal w D f d0 (.int .i64 f.result) (.int .i64 f.slots) d3 d4) (hB:FunB f) (hls:p.shapes.length≤3000) (hla:f.args.length≤3000) (hlo:f.objects.length≤3000) (hlc:f.code.length≤3000) :
  Calls Tryz.prog 168 #[.agg #[c0,c1,c2],.agg #[d0,.int .i64 f.result,.int .i64 f.slots,d3,d4]] w fun e w'=>e=.returned (.int .i64 (frontS p f))∧Below w.heap.size w w':=by
 obtain⟨⟨a0,m0,rfl,_⟩,⟨a1,m1,rfl,_⟩,a2,m2,rfl,_⟩:=hv;obtain⟨_,_,⟨e0,e1,rfl,ha⟩,⟨e2,e3,rfl,ho⟩,e4,e5,rfl,_⟩:=hf;obtain⟨fa,fr,fs,fo,fc⟩:=f;obtain⟨bv,br,_,bo,_⟩:=hB
 dsimp only at ha ho bv br bo hla hlo hlc ⊢
 have hbx:=fun wr h=>box2 w #[.slice a0 p.globals.length m0,.slice a1 p.shapes.length m1,.slice a2 p.funcs.length m2] #[.slice e0 fa.length e1,.int .i64 fr,.int .i64 fs,.slice e2 fo.length e3,.slice e4 fc.length e5] 40 36 wr h
 have hz0:((w.alloc (.cells #[.slice a0 p.globals.length m0,.slice a1 p.shapes.length m1,.slice a2 p.funcs.length m2] 40)).alloc (.cells #[.slice e0 fa.length e1,.int .i64 fr,.int .i64 fs,.slice e2 fo.length e3,.slice e4 fc.length e5] 36)).heap.size=w.heap.size+2:=by simp
 obtain⟨W,hW⟩:∃ W,W=(w.alloc (.cells #[.slice a0 p.globals.length m0,.slice a1 p.shapes.length m1,.slice a2 p.funcs.length m2] 40)).alloc (.cells #[.slice e0 fa.length e1,.int .i64 fr,.int .i64 fs,.slice e2 fo.length e3,.slice e4 fc.length e5] 36):=⟨_,rfl⟩;rw[← hW] at hbx hz0;have hs:∀ wr,Below W.heap.size W wr→wr.cell? ⟨w.heap.size,0,none⟩=some (.slice a0 p.globals.length m0)∧wr.cell? ⟨w.heap.size,1,none⟩=some (.slice a1 p.shapes.length m1)∧wr.cell? ⟨w.heap.size,2,none⟩=some (.slice a2 p.funcs.length m2)∧wr.cell? ⟨w.heap.size+1,0,none⟩=some (.slice e0 fa.length e1)∧wr.cell? ⟨w.heap.size+1,1,none⟩=some (.int .i64 fr)∧wr.cell? ⟨w.heap.size+1,2,none⟩=some (.int .i64 fs)∧wr.cell? ⟨w.heap.size+1,3,none⟩=some (.slice e2 fo.length e3)∧wr.cell? ⟨w.heap.size+1,4,none⟩=some (.slice e4 fc.length e5):=fun wr h=>by
  rw[hz0] at h;have hb:=hbx wr h;exact⟨hb.1 0 _ rfl,hb.1 1 _ rfl,hb.1 2 _ rfl,hb.2.1 0 _ rfl,hb.2.1 1 _ rfl,hb.2.1 2 _ rfl,hb.2.1 3 _ rfl,hb.2.1 4 _ rfl⟩
 have hbw:∀ wr,Below W.heap.size W wr→Below w.heap.size w wr:=fun wr h=>by rw[hz0] at h;exact(hbx wr h).2.2.1
 have hw0:=Below.refl W.heap.size W;have hb0:=hbw W hw0;have ha:∀ wr,Below W.heap.size W wr→IntSl wr D e0 fa:=fun wr h=>ha.fr (Fr.of_below (hbw wr h) (fun _=>False)) (fun _ _ h=>h)
 have ho:∀ wr,Below W.heap.size W wr→IntSl wr D e2 fo:=fun wr h=>ho.fr (Fr.of_below (hbw wr h) (fun _=>False)) (fun _ _ h=>h)
 obtain⟨E,hE⟩:∃ E,E=frontS p ⟨fa,fr,fs,fo,fc⟩:=⟨_,rfl⟩;rw[← hE];unfold frontS at hE
 dsimp only at hE
 obtain⟨k0,k1,k2,k3,k4,k5,k6,k7⟩:=hs W hw0;have HW:=k_ hW;clear hW hbx hz0;have HB0:=k_ hb0;clear hb0;have HS:=k_ hs;clear hs;have HBW:=k_ hbw;clear hbw;have HW0:=k_ hw0;clear hw0
 by_cases hc:fs<fa.length∨16<fs∨8<fo.length∨fc.length<1∨64<fc.length
 case pos =>
  rw[if_pos hc] at hE;subst hE
  by_cases c1:fs<fa.length
  ·skip
   clear hc ha ho bv bo br hD
   go_enter Tryz.func168,Tryz.ntmps168
   go_upto_region 1 with fail
   rw[← HW.out];go_wp2_with fail
   go_ret
   exact⟨rfl,HB0.out⟩
  by_cases c2:16<fs
  ·skip
   clear hc ha ho bv bo br hD
   go_enter Tryz.func168,Tryz.ntmps168
   go_upto_region 1 with fail
   rw[← HW.out];go_wp2_with fail
   go_ret
   exact⟨rfl,HB0.out⟩
  by_cases c3:(8:Int)<fo.length
  ·skip
   clear hc ha ho bv bo br hD
   go_enter Tryz.func168,Tryz.ntmps168
   go_upto_region 1 with fail
   rw[← HW.out];go_wp2_with fail
   go_ret
   exact⟨rfl,HB0.out⟩
  by_cases c4:(fc.length:Int)<1
  ·skip
   clear hc ha ho bv bo br hD
   go_enter Tryz.func168,Tryz.ntmps168
   go_upto_region 1 with fail
   rw[← HW.out];go_wp2_with fail
   go_ret
   exact⟨rfl,HB0.out⟩
  by_cases c5:(64:Int)<fc.length
  ·skip
   clear hc ha ho bv bo br hD
   go_enter Tryz.func168,Tryz.ntmps168
   go_upto_region 1 with fail
   rw[← HW.out];go_wp2_with fail
   go_ret
   exact⟨rfl,HB0.out⟩
  exact absurd hc (by omega)
 rw[if_neg hc] at hE;have c1:¬ fs<fa.length:=by omega
 have c2:¬ 16<fs:=by omega
 have c3:¬ (8:Int)<fo.length:=by omega
 have c4:¬ (fc.length:Int)<1:=by omega
 have c5:¬ (64:Int)<fc.length:=by omega
 have HE:=k_ hE;clear hc hE;have HA:=k_ ha;clear ha;have HO:=k_ ho;clear ho;have BV:=k_ bv;clear bv;have BO:=k_ bo;clear bo;have BR:=k_ br;clear br;have HD:=k_ hD;clear hD
 go_enter Tryz.func168,Tryz.ntmps168
 go_upto_region 1 with fail
 rw[← HW.out];go_wp2_with fail;clear k0 k1 k2 k3 k4 k5 k6 k7
 go_loopw [41] (fun i wr=>∃ k:Nat,k≤fa.length∧i=.int .i64 k∧Below W.heap.size W wr∧(fa.take k).all (validB · p.shapes.length)=true) (fun i _=>fa.length - (intOf i).toNat)
 case atStart=>exact⟨0,Nat.zero_le _,rfl,HW0.out,rfl⟩
 case round =>
  obtain⟨k,hk,rfl,hR,hall⟩:=hrel;obtain⟨k0,k1,k2,k3,k4,k5,k6,k7⟩:=HS.out wr hR;have hbw:=HBW.out wr hR
  by_cases hlt:k<fa.length
  ·obtain⟨b',o',rfl,_,hx⟩:=HA.out wr hR k hlt
   have va:=fun w=>valid_any w fa[k] p.shapes.length (by omega) (BV.out _ (List.getElem_mem hlt))
   have hsn:=all_take hlt hall;have hno:=all_no (P:=(validB · p.shapes.length)) hlt
   try dsimp only at hsn hno
   generalize fa[k]=x at *
   cases hwx:validB x p.shapes.length
   ·have e:=HE.out
    rw[if_pos (hno hwx)] at e;subst e;rw[hwx] at va;clear hsn hno hwx hall;have HBW2:=k_ hbw;clear hbw;have VA:=k_ va;clear va;have HR:=k_ hR;clear hR;go_wp2_with fail;refine(VA.out _).mono ?_;rintro e w9 ⟨rfl,hb9⟩;have HB9:=k_ (HBW2.out.trans (hb9.mono HBW2.out.size));clear hb9;go_wp2_with fail
    go_ret
    exact⟨rfl,HB9.out⟩
   ·rw[hwx] at va hsn
    clear hno hwx hall hbw;have VA:=k_ va;clear va;have HR:=k_ hR;clear hR;have HSN:=k_ hsn;clear hsn;go_wp2_with fail;refine(VA.out _).mono ?_;rintro e w9 ⟨rfl,hb9⟩;have HB9:=k_ (HR.out.trans (hb9.mono HR.out.size));clear hb9;go_wp2_with fail
    go_roundw
    case rel=>exact⟨k+1,by omega,by go_num,HB9.out,HSN.out⟩
    case measure=>simp[intOf];omega
  ·have hk':k=fa.length:=by omega
   subst hk';rw[List.take_length] at hall;have hE:=HE.out;rw[if_neg (by rw[hall];simp)] at hE;clear hall HE hbw;have HR:=k_ hR;clear hR
   by_cases hr:fr=0
   ·subst hr
    rw[if_neg (by simp)] at hE;have HE:=k_ hE;clear hE
    go_upto_region 11 with fail
    clear k0 k1 k2 k3 k4 k5 k6 k7;obtain⟨k0,k1,k2,k3,k4,k5,k6,k7⟩:=HS.out wr HR.out;have hE:=HE.out;clear HE;have hO:=k_ hE;clear hE;go_wp2_with fail
    go_loopw [67] (fun i wr=>∃ k:Nat,k≤fo.length∧i=.int .i64 k∧Below W.heap.size W wr∧(fo.take k).all (withinB · p.shapes.length)=true) (fun i _=>fo.length - (intOf i).toNat)
    case atStart=>exact⟨0,Nat.zero_le _,rfl,HR.out,rfl⟩
    case round =>
     obtain⟨k,hk,rfl,hR,hall⟩:=hrel;obtain⟨k0,k1,k2,k3,k4,k5,k6,k7⟩:=HS.out wr hR;have hbw:=HBW.out wr hR
     by_cases hlt:k<fo.length
     ·obtain⟨b',o',rfl,_,hx⟩:=HO.out wr hR k hlt
      have wi:=fun w=>within_any w fo[k] p.shapes.length
      have hsn:=all_take hlt hall;have hno:=all_no (P:=(withinB · p.shapes.length)) hlt
      try dsimp only at hsn hno
      generalize fo[k]=x at *
      cases hwx:withinB x p.shapes.length
      ·have e:=hO.out
       rw[if_pos (hno hwx)] at e;subst e;rw[hwx] at wi;clear hsn hno hwx hall;have HBW2:=k_ hbw;clear hbw;have WI:=k_ wi;clear wi;have HR:=k_ hR;clear hR;go_wp2_with fail;refine(WI.out _).mono ?_;rintro e w9 ⟨rfl,rfl⟩;go_wp2_with fail
       go_ret
       exact⟨rfl,HBW2.out⟩
      ·rw[hwx] at wi hsn
       clear hno hwx hall;clear hbw;have WI:=k_ wi;clear wi;have HR:=k_ hR;clear hR;have HSN:=k_ hsn;clear hsn;go_wp2_with fail;refine(WI.out _).mono ?_;rintro e w9 ⟨rfl,rfl⟩;go_wp2_with fail
       go_roundw
       case rel=>exact⟨k+1,by omega,by go_num,HR.out,HSN.out⟩
       case measure=>simp[intOf];omega
     ·have hk':k=fo.length:=by omega
      subst hk';rw[List.take_length] at hall;have e:=hO.out;rw[if_neg (by rw[hall];simp)] at e;subst e;clear hall;have HBW2:=k_ hbw;clear hbw;have HR:=k_ hR;clear hR;go_wp2_with fail
      go_ret
      exact⟨rfl,HBW2.out⟩
   ·have hr1:(fr != 0)=true:=by simpa using hr
    have fi:=fun w=>field_any w fr p.shapes.length (by omega) BR.out
    cases hfi:fieldB fr p.shapes.length
    ·rw[if_pos ⟨hr,hfi⟩] at hE
     subst hE;rw[hfi] at fi;clear hfi hr;have FI:=k_ fi;clear fi;go_wp2_with fail;refine(FI.out _).mono ?_;rintro e w9 ⟨rfl,hb9⟩;have HB9:=k_ (HBW.out _ (HR.out.trans (hb9.mono HR.out.size)));clear hb9;go_wp2_with fail
     go_ret
     exact⟨rfl,HB9.out⟩
    ·rw[if_neg (by rw[hfi];simp)] at hE
     rw[hfi] at fi;clear hfi hr;have HE:=k_ hE;clear hE;have FI:=k_ fi;clear fi;go_wp2_with fail;refine(FI.out _).mono ?_;rintro e w9 ⟨rfl,hb9⟩;have HR9:=k_ (HR.out.trans (hb9.mono HR.out.size));clear hb9 k0 k1 k2 k3 k4 k5 k6 k7;obtain⟨k0,k1,k2,k3,k4,k5,k6,k7⟩:=HS.out w9 HR9.out;have hE:=HE.out;clear HE;have hO:=k_ hE;clear hE;go_wp2_with fail
     go_loopw [67] (fun i wr=>∃ k:Nat,k≤fo.length∧i=.int .i64 k∧Below W.heap.size W wr∧(fo.take k).all (withinB · p.shapes.length)=true) (fun i _=>fo.length - (intOf i).toNat)
     case atStart=>exact⟨0,Nat.zero_le _,rfl,HR9.out,rfl⟩
     case round =>
      obtain⟨k,hk,rfl,hR,hall⟩:=hrel;obtain⟨k0,k1,k2,k3,k4,k5,k6,k7⟩:=HS.out wr hR;have hbw:=HBW.out wr hR
      by_cases hlt:k<fo.length
      ·obtain⟨b',o',rfl,_,hx⟩:=HO.out wr hR k hlt
       have wi:=fun w=>within_any w fo[k] p.shapes.length
       have hsn:=all_take hlt hall;have hno:=all_no (P:=(withinB · p.shapes.length)) hlt
       try dsimp only at hsn hno
       generalize fo[k]=x at *
       cases hwx:withinB x p.shapes.length
       ·have e:=hO.out
        rw[if_pos (hno hwx)] at e;subst e;rw[hwx] at wi;clear hsn hno hwx hall;have HBW2:=k_ hbw;clear hbw;have WI:=k_ wi;clear wi;have HR:=k_ hR;clear hR;go_wp2_with fail;refine(WI.out _).mono ?_;rintro e w9 ⟨rfl,rfl⟩;go_wp2_with fail
        go_ret
        exact⟨rfl,HBW2.out⟩
       ·rw[hwx] at wi hsn
        clear hno hwx hall;clear hbw;have WI:=k_ wi;clear wi;have HR:=k_ hR;clear hR;have HSN:=k_ hsn;clear hsn;go_wp2_with fail;refine(WI.out _).mono ?_;rintro e w9 ⟨rfl,rfl⟩;go_wp2_with fail
        go_roundw
        case rel=>exact⟨k+1,by omega,by go_num,HR.out,HSN.out⟩
        case measure=>simp[intOf];omega
      ·have hk':k=fo.length:=by omega
       subst hk';rw[List.take_length] at hall;have e:=hO.out;rw[if_neg (by rw[hall];simp)] at e;subst e;clear hall;have HBW2:=k_ hbw;clear hbw;have HR:=k_ hR;clear hR;go_wp2_with fail
       go_ret
       exact⟨rfl,HBW2.out⟩
theorem wholeC_any (w:World) (D:Nat→Prop) (hD:∀ k,D k→k<w.heap.size) (p:Prg) (c0 c1 c2:Value) (hv:PrgVal w D p c0 c1 c2) (hp:PrgB p) (hq:PrgR p) :
  Calls Tryz.prog 103 #[.agg #[c0,c1,c2]] w fun e w'=>e=.returned (.int .i64 (wholeS p))∧Below w.heap.size w w':=by
 obtain⟨⟨a0,m0,rfl,hg⟩,⟨a1,m1,rfl,hsh⟩,a2,m2,rfl,hfn⟩:=hv;obtain⟨bg,bs,_⟩:=hp;obtain⟨q0,q1,q2,q3,q4⟩:=hq;have hbx:=fun wr h=>box1 w #[.slice a0 p.globals.length m0,.slice a1 p.shapes.length m1,.slice a2 p.funcs.length m2] 40 wr h
 have hz0:(w.alloc (.cells #[.slice a0 p.globals.length m0,.slice a1 p.shapes.length m1,.slice a2 p.funcs.length m2] 40)).heap.size=w.heap.size+1:=by simp
 obtain⟨W,hW⟩:∃ W,W=(w.alloc (.cells #[.slice a0 p.globals.length m0,.slice a1 p.shapes.length m1,.slice a2 p.funcs.length m2] 40)):=⟨_,rfl⟩;rw[← hW] at hbx hz0;have hs:∀ wr,Below W.heap.size W wr→wr.cell? ⟨w.heap.size,0,none⟩=some (.slice a0 p.globals.length m0)∧wr.cell? ⟨w.heap.size,1,none⟩=some (.slice a1 p.shapes.length m1)∧wr.cell? ⟨w.heap.size,2,none⟩=some (.slice a2 p.funcs.length m2):=fun wr h=>by
  rw[hz0] at h;have hb:=hbx wr h;exact⟨hb.1 0 _ rfl,hb.1 1 _ rfl,hb.1 2 _ rfl⟩
 have hbw:∀ wr,Below W.heap.size W wr→Below w.heap.size w wr:=fun wr h=>by rw[hz0] at h;exact(hbx wr h).2.1
 have hw0:=Below.refl W.heap.size W;have hg:∀ wr,Below W.heap.size W wr→IntSl wr D a0 p.globals:=fun wr h=>hg.fr (Fr.of_below (hbw wr h) (fun _=>False)) (fun _ _ h=>h)
 have hfn:∀ wr,Below W.heap.size W wr→FnSl wr D a2 p.funcs:=fun wr h=>hfn.fr (Fr.of_below (hbw wr h) (fun _=>False)) (fun _ _ h=>h)
 have sc:=fun wr (h:Below W.heap.size W wr)=>shapeCheck_any wr D (fun k hk=>Nat.lt_of_lt_of_le (hD k hk) (hbw wr h).size) a1 p.shapes m1 (hsh.fr (Fr.of_below (hbw wr h) (fun _=>False)) (fun _ _ h=>h)) bs q1 q3
 obtain⟨E,hE⟩:∃ E,E=wholeS p:=⟨_,rfl⟩;rw[← hE];unfold wholeS at hE;generalize shapesErr p.shapes=se at *;obtain⟨k0,k1,k2⟩:=hs W hw0;have HW:=k_ hW;have HE:=k_ hE;clear hW hbx hz0 hE hsh bs q3 q4;have HS:=k_ hs;clear hs;have HBW:=k_ hbw;clear hbw;have HW0:=k_ hw0;clear hw0;have HG:=k_ hg;clear hg;have HFN:=k_ hfn;clear hfn;have SC:=k_ sc;clear sc;have HD:=k_ hD;clear hD;have BG:=k_ bg;clear bg
 go_enter Tryz.func103,Tryz.ntmps103
 go_upto_region 1 with fail
 rw[← HW.out];go_wp2_with fail;refine(SC.out W HW0.out).mono ?_;rintro e w1 ⟨rfl,hb1⟩;have HR1:=k_ hb1;have HB1:=k_ (HBW.out w1 hb1);obtain⟨k0,k1,k2⟩:=HS.out w1 hb1;clear hb1;have hE:=HE.out;clear HE
 by_cases hse:se=0
 case neg =>
  have hs1:(se != 0)=true:=by simpa using hse
  rw[if_pos hse] at hE;subst hE;clear hse;go_wp2_with fail
  go_ret
  exact⟨rfl,HB1.out⟩
 subst hse;rw[if_neg (by simp)] at hE
 by_cases hc:16<p.globals.length∨p.funcs.length<1∨16<p.funcs.length
 case pos =>
  rw[if_pos hc] at hE;subst hE
  by_cases c1:(16:Int)<p.globals.length
  ·clear hc
   go_wp2_with fail
   go_ret
   exact⟨rfl,HB1.out⟩
  by_cases c2:(p.funcs.length:Int)<1
  ·clear hc
   go_wp2_with fail
   go_ret
   exact⟨rfl,HB1.out⟩
  by_cases c3:(16:Int)<p.funcs.length
  ·clear hc
   go_wp2_with fail
   go_ret
   exact⟨rfl,HB1.out⟩
  exact absurd hc (by omega)
 rw[if_neg hc] at hE;have c1:¬ (16:Int)<p.globals.length:=by omega
 have c2:¬ (p.funcs.length:Int)<1:=by omega
 have c3:¬ (16:Int)<p.funcs.length:=by omega
 have HE:=k_ hE;clear hE hc;go_wp2_with fail
 go_loopw [31] (fun i wr=>∃ k:Nat,k≤p.globals.length∧i=.int .i64 k∧Below W.heap.size W wr∧(p.globals.take k).all (fieldB · p.shapes.length)=true) (fun i _=>p.globals.length - (intOf i).toNat)
 case atStart=>exact⟨0,Nat.zero_le _,rfl,HR1.out,rfl⟩
 case round =>
  clear k0 k1 k2;obtain⟨k,hk,rfl,hR,hall⟩:=hrel;obtain⟨k0,k1,k2⟩:=HS.out wr hR
  by_cases hlt:k<p.globals.length
  ·obtain⟨b',o',rfl,_,hx⟩:=HG.out wr hR k hlt
   have fi:=fun w=>field_any w p.globals[k] p.shapes.length (by omega) (BG.out _ (List.getElem_mem hlt))
   have hsn:=all_take hlt hall;have hno:=all_no (P:=(fieldB · p.shapes.length)) hlt
   try dsimp only at hsn hno
   generalize p.globals[k]=x at *
   cases hwx:fieldB x p.shapes.length
   ·have e:=HE.out
    rw[if_pos (hno hwx)] at e;subst e;rw[hwx] at fi;clear hsn hno hwx hall;have FI:=k_ fi;clear fi;have HR:=k_ hR;clear hR;go_wp2_with fail;refine(FI.out _).mono ?_;rintro e w9 ⟨rfl,hb9⟩;have HB9:=k_ (HBW.out _ (HR.out.trans (hb9.mono HR.out.size)));clear hb9;go_wp2_with fail
    go_ret
    exact⟨rfl,HB9.out⟩
   ·rw[hwx] at fi hsn
    clear hno hwx hall;have FI:=k_ fi;clear fi;have HR:=k_ hR;clear hR;have HSN:=k_ hsn;clear hsn;go_wp2_with fail;refine(FI.out _).mono ?_;rintro e w9 ⟨rfl,hb9⟩;have HB9:=k_ (HR.out.trans (hb9.mono HR.out.size));clear hb9;go_wp2_with fail
    go_roundw
    case rel=>exact⟨k+1,by omega,by go_num,HB9.out,HSN.out⟩
    case measure=>simp[intOf];omega
  ·have hk':k=p.globals.length:=by omega
   subst hk';rw[List.take_length] at hall;have hE:=HE.out;rw[if_neg (by rw[hall];simp)] at hE;have h0:0<p.funcs.length:=by omega
   obtain⟨b2,o2,rfl,_,y0,y1,y2,y3,y4,g0,g1,g2,g3,g4,hfv⟩:=HFN.out wr hR 0 h0;obtain⟨rfl,rfl,⟨e0,e1,rfl,_⟩,_⟩:=hfv;rw[show (p.funcs[0]?).getD fun0=p.funcs[0] from by simp[h0]] at hE;generalize p.funcs[0]=f at *;simp only[Nat.zero_mul,Nat.add_zero] at g0 g1 g2 g3 g4;have HB9:=k_ (HBW.out wr hR);clear hall HE hR g2 g3 g4;generalize f.args.length=la at *;generalize f.result=fr at *
   by_cases d1:la=0
   ·subst d1
    by_cases d2:fr=0
    ·subst d2
     rw[if_neg (by rintro (h | h) <;> omega)] at hE;subst hE;go_wp2_with fail
     go_ret
     exact⟨rfl,HB9.out⟩
    ·have d3:(fr != 0)=true:=by simpa using d2
     rw[if_pos (Or.inr d2)] at hE;subst hE;go_wp2_with fail
     go_ret
     exact⟨rfl,HB9.out⟩
   ·have d3:0<la:=by omega
    have d4:(0:Int)<la:=by omega
    rw[if_pos (Or.inl d3)] at hE;subst hE;go_wp2_with fail
    go_ret
    exact⟨rfl,HB9.out⟩
end Go.Proofs.YtbkkhmafheimfaaGreatDoor
