/- Walks: what two lists have in common, the program's and the reference's. Walk: check.front: why a function may not be, but for its .. -/
import Derived.Test.YtlofbhoicbemnaaGreatDoorGBc
set_option linter.unusedVariables false
set_option linter.unusedSimpArgs false
set_option maxRecDepth 100000
set_option maxHeartbeats 3200000
namespace Go.Proofs.YtlofbhoicbemnaaGreatDoor
open Go.ChangeShapes Go.WideShapes Go.ChangeAt Go.RowKit
theorem sS (l m:List Int) (k:Nat) (h:k<l.length) (h2:k<m.length):(joinL l m).take (k+1)=(joinL l m).take k ++ [if l[k]=m[k] then l[k] else 0]:=by
 have hk:k<(joinL l m).length:=by rw[fT];omega
 rw[aK _ k hk]
 simp[joinL]
theorem vK (l m:List Int) (k:Nat) (h:¬ (k<l.length∧k<m.length)) (hk:k≤l.length∧k≤m.length):(joinL l m).take k=joinL l m:=by
 rw[List.take_of_length_le (by rw[fT];omega)]
theorem FL (w:World) (D D':Nat→Prop) (a a':Option Addr) (l m:List Int) (c c':Nat) (hl:aQ w D a l) (hm:aQ w D' a' m) (hn:l.length≤100000) (hn2:m.length≤100000) :
  Calls Tryz.prog 225 #[.slice a l.length c,.slice a' m.length c'] w fun e w'=>∃ v,e=.returned v∧Own aG w' w.heap.size v (joinL l m)∧Below w.heap.size w w':=by
 by_cases hmin:(l.length:Int)≤(m.length:Int)
 ·go_enter Tryz.func225,Tryz.ntmps225
  go_upto_region 3 with fail
  go_loopw [5,12] (fun v i wr=>∃ k:Nat,k≤l.length∧k≤m.length∧i=.int .i64 k∧Own aG wr w.heap.size v ((joinL l m).take k)∧Below w.heap.size w wr) (fun _ i _=>l.length - (intOf i).toNat)
  case atStart=>exact⟨0,Nat.zero_le _,Nat.zero_le _,rfl,Own.nil _ _ _,Below.refl _ _⟩
  case round =>
   obtain⟨k,hk1,hk2,rfl,hown,hB⟩:=hrel
   by_cases hlt:k<l.length∧k<m.length
   ·obtain⟨h1,h2⟩:=hlt
    obtain⟨b1,o1,rfl,_,q1⟩:=hl k h1;obtain⟨b2,o2,rfl,_,q2⟩:=hm k h2;have q1:=ae hB q1;have q2:=ae hB q2;have hjs:=sS l m k h1 h2;have hjl:((joinL l m).take k).length=k:=by rw[List.length_take,fT];omega
    have n1:(k:Int)<(l.length:Int):=by omega
    have n2:(k:Int)<(m.length:Int):=by omega
    generalize (joinL l m).take k=J at *;generalize l[k]=x at *;generalize m[k]=y at *;have HJL:=k_ hjl;clear hjl hl hm;have HOWN:=k_ hown;have HB:=k_ hB;clear hown hB;have i1:IntKind.i64.wrap ((k:Int)+1)=(k:Int)+1:=IntWalk.i64_in _ (by omega)
    by_cases hxy:x=y
    ·subst hxy
     rw[if_pos rfl] at hjs;have HJS:=k_ hjs;clear hjs
     go_upto_region 5 with fail
     go_quiet (fail)
     have HOQ:=k_ (HOWN.out.below (below_drewN (Below.refl wr.heap.size wr) nq));have HBQ:=k_ (below_drewN HB.out nq);have q1:=ae (below_drewN (Below.refl wr.heap.size wr) nq) q1;clear HOWN HB q2
     go_wp2_with (at_builtin;refine bJ aG rfl (.tmp 24) (.tmp 29) rfl w.heap.size J [x] _ rfl (HOQ.out.alloc _) wr.heap.size 0 1 rfl (aA.new _ _ _ _) ?c1 ?c2 ?_)
     case c1=>rw[HJL.out];simp;omega
     case c2=>have hz:(wr.drewN nq).heap.size=wr.heap.size:=rfl;have:=HBQ.out.size;simp;omega
     intro v2 w2 hown2 hg2;have hB2:=k_ (below_grown (HBQ.out.alloc HBQ.out.size _) (HOQ.out.alloc _) hg2 (by have hz:(wr.drewN nq).heap.size=wr.heap.size:=rfl;have:=HBQ.out.size;simp;omega) (Nat.le_refl _));have HO2:=k_ hown2;clear hown2 hg2;go_wp2_with fail
     go_roundw
     case rel=>exact⟨k+1,by omega,by omega,by go_num,by rw[HJS.out];exact HO2.out,hB2.out⟩
     case measure=>simp[intOf];omega
    ·have hne:(x == y)=false:=by simpa using hxy
     rw[if_neg hxy] at hjs;have HJS:=k_ hjs;clear hjs hxy
     go_upto_region 5 with fail
     go_quiet (fail)
     have HOQ:=k_ (HOWN.out.below (below_drewN (Below.refl wr.heap.size wr) nq));have HBQ:=k_ (below_drewN HB.out nq);clear HOWN HB q1 q2
     go_wp2_with (at_builtin;refine bJ aG rfl (.tmp 31) (.tmp 32) rfl w.heap.size J [0] _ rfl (HOQ.out.alloc _) wr.heap.size 0 1 rfl (aA.new _ _ _ _) ?c1 ?c2 ?_)
     case c1=>rw[HJL.out];simp;omega
     case c2=>have hz:(wr.drewN nq).heap.size=wr.heap.size:=rfl;have:=HBQ.out.size;simp;omega
     intro v2 w2 hown2 hg2;have hB2:=k_ (below_grown (HBQ.out.alloc HBQ.out.size _) (HOQ.out.alloc _) hg2 (by have hz:(wr.drewN nq).heap.size=wr.heap.size:=rfl;have:=HBQ.out.size;simp;omega) (Nat.le_refl _));have HO2:=k_ hown2;clear hown2 hg2;go_wp2_with fail
     go_roundw
     case rel=>exact⟨k+1,by omega,by omega,by go_num,by rw[HJS.out];exact HO2.out,hB2.out⟩
     case measure=>simp[intOf];omega
   ·have hall:=vK l m k hlt ⟨hk1,hk2⟩
    rw[hall] at hown;have HOWN:=k_ hown;clear hown;have HB:=k_ hB;clear hB;have HALL:=k_ hall;clear hall;have n3:¬ ((k:Int)<(l.length:Int)∧(k:Int)<(m.length:Int)):=by omega
    clear hl hm
    by_cases n4:(k:Int)<(l.length:Int)
    ·have n5:¬ (k:Int)<(m.length:Int):=fun h=>n3 ⟨n4,h⟩
     clear n3 hlt
     (exfalso;omega)
    ·skip
     clear n3 hlt
     (go_wp2_with fail;go_ret;exact⟨_,rfl,HOWN.out,HB.out⟩)
 ·have hmin:(m.length:Int)<(l.length:Int):=by omega
  go_enter Tryz.func225,Tryz.ntmps225
  go_upto_region 3 with fail
  go_loopw [5,12] (fun v i wr=>∃ k:Nat,k≤l.length∧k≤m.length∧i=.int .i64 k∧Own aG wr w.heap.size v ((joinL l m).take k)∧Below w.heap.size w wr) (fun _ i _=>l.length - (intOf i).toNat)
  case atStart=>exact⟨0,Nat.zero_le _,Nat.zero_le _,rfl,Own.nil _ _ _,Below.refl _ _⟩
  case round =>
   obtain⟨k,hk1,hk2,rfl,hown,hB⟩:=hrel
   by_cases hlt:k<l.length∧k<m.length
   ·obtain⟨h1,h2⟩:=hlt
    obtain⟨b1,o1,rfl,_,q1⟩:=hl k h1;obtain⟨b2,o2,rfl,_,q2⟩:=hm k h2;have q1:=ae hB q1;have q2:=ae hB q2;have hjs:=sS l m k h1 h2;have hjl:((joinL l m).take k).length=k:=by rw[List.length_take,fT];omega
    have n1:(k:Int)<(l.length:Int):=by omega
    have n2:(k:Int)<(m.length:Int):=by omega
    generalize (joinL l m).take k=J at *;generalize l[k]=x at *;generalize m[k]=y at *;have HJL:=k_ hjl;clear hjl hl hm;have HOWN:=k_ hown;have HB:=k_ hB;clear hown hB;have i1:IntKind.i64.wrap ((k:Int)+1)=(k:Int)+1:=IntWalk.i64_in _ (by omega)
    by_cases hxy:x=y
    ·subst hxy
     rw[if_pos rfl] at hjs;have HJS:=k_ hjs;clear hjs
     go_upto_region 5 with fail
     go_quiet (fail)
     have HOQ:=k_ (HOWN.out.below (below_drewN (Below.refl wr.heap.size wr) nq));have HBQ:=k_ (below_drewN HB.out nq);have q1:=ae (below_drewN (Below.refl wr.heap.size wr) nq) q1;clear HOWN HB q2
     go_wp2_with (at_builtin;refine bJ aG rfl (.tmp 24) (.tmp 29) rfl w.heap.size J [x] _ rfl (HOQ.out.alloc _) wr.heap.size 0 1 rfl (aA.new _ _ _ _) ?c1 ?c2 ?_)
     case c1=>rw[HJL.out];simp;omega
     case c2=>have hz:(wr.drewN nq).heap.size=wr.heap.size:=rfl;have:=HBQ.out.size;simp;omega
     intro v2 w2 hown2 hg2;have hB2:=k_ (below_grown (HBQ.out.alloc HBQ.out.size _) (HOQ.out.alloc _) hg2 (by have hz:(wr.drewN nq).heap.size=wr.heap.size:=rfl;have:=HBQ.out.size;simp;omega) (Nat.le_refl _));have HO2:=k_ hown2;clear hown2 hg2;go_wp2_with fail
     go_roundw
     case rel=>exact⟨k+1,by omega,by omega,by go_num,by rw[HJS.out];exact HO2.out,hB2.out⟩
     case measure=>simp[intOf];omega
    ·have hne:(x == y)=false:=by simpa using hxy
     rw[if_neg hxy] at hjs;have HJS:=k_ hjs;clear hjs hxy
     go_upto_region 5 with fail
     go_quiet (fail)
     have HOQ:=k_ (HOWN.out.below (below_drewN (Below.refl wr.heap.size wr) nq));have HBQ:=k_ (below_drewN HB.out nq);clear HOWN HB q1 q2
     go_wp2_with (at_builtin;refine bJ aG rfl (.tmp 31) (.tmp 32) rfl w.heap.size J [0] _ rfl (HOQ.out.alloc _) wr.heap.size 0 1 rfl (aA.new _ _ _ _) ?c1 ?c2 ?_)
     case c1=>rw[HJL.out];simp;omega
     case c2=>have hz:(wr.drewN nq).heap.size=wr.heap.size:=rfl;have:=HBQ.out.size;simp;omega
     intro v2 w2 hown2 hg2;have hB2:=k_ (below_grown (HBQ.out.alloc HBQ.out.size _) (HOQ.out.alloc _) hg2 (by have hz:(wr.drewN nq).heap.size=wr.heap.size:=rfl;have:=HBQ.out.size;simp;omega) (Nat.le_refl _));have HO2:=k_ hown2;clear hown2 hg2;go_wp2_with fail
     go_roundw
     case rel=>exact⟨k+1,by omega,by omega,by go_num,by rw[HJS.out];exact HO2.out,hB2.out⟩
     case measure=>simp[intOf];omega
   ·have hall:=vK l m k hlt ⟨hk1,hk2⟩
    rw[hall] at hown;have HOWN:=k_ hown;clear hown;have HB:=k_ hB;clear hB;have HALL:=k_ hall;clear hall;have n3:¬ ((k:Int)<(l.length:Int)∧(k:Int)<(m.length:Int)):=by omega
    clear hl hm
    by_cases n4:(k:Int)<(l.length:Int)
    ·have n5:¬ (k:Int)<(m.length:Int):=fun h=>n3 ⟨n4,h⟩
     clear n3 hlt
     (go_wp2_with fail;go_ret;exact⟨_,rfl,HOWN.out,HB.out⟩)
    ·skip
     clear n3 hlt
     (exfalso;omega)
open Go.Maps
theorem AR (w:World) (D:Nat→Prop) (hD:∀ k,D k→k<w.heap.size) (p:Prg) (f:Fun) (c0 c1 c2 d0 d3 d4:Value) (hv:aD w D p c0 c1 c2) (hf:dP w D f d0 (.int .i64 f.result) (.int .i64 f.slots) d3 d4) (hB:Js f) (hls:p.shapes.length≤3000) (hla:f.args.length≤3000) (hlo:f.objects.length≤3000) (hlc:f.code.length≤3000) :
  Calls Tryz.prog 223 #[.agg #[c0,c1,c2],.agg #[d0,.int .i64 f.result,.int .i64 f.slots,d3,d4]] w fun e w'=>e=.returned (.int .i64 (iT p f))∧Below w.heap.size w w':=by
 obtain⟨⟨a0,m0,rfl,_⟩,⟨a1,m1,rfl,_⟩,a2,m2,rfl,_⟩:=hv;obtain⟨_,_,⟨e0,e1,rfl,ha⟩,⟨e2,e3,rfl,ho⟩,e4,e5,rfl,_⟩:=hf;obtain⟨fa,fr,fs,fo,fc⟩:=f;obtain⟨bv,br,_,bo,_⟩:=hB
 dsimp only at ha ho bv br bo hla hlo hlc ⊢
 have hbx:=fun wr h=>nz w #[.slice a0 p.globals.length m0,.slice a1 p.shapes.length m1,.slice a2 p.funcs.length m2] #[.slice e0 fa.length e1,.int .i64 fr,.int .i64 fs,.slice e2 fo.length e3,.slice e4 fc.length e5] 48 66 wr h
 have hz0:((w.alloc (.cells #[.slice a0 p.globals.length m0,.slice a1 p.shapes.length m1,.slice a2 p.funcs.length m2] 48)).alloc (.cells #[.slice e0 fa.length e1,.int .i64 fr,.int .i64 fs,.slice e2 fo.length e3,.slice e4 fc.length e5] 66)).heap.size=w.heap.size+2:=by simp
 obtain⟨W,hW⟩:∃ W,W=(w.alloc (.cells #[.slice a0 p.globals.length m0,.slice a1 p.shapes.length m1,.slice a2 p.funcs.length m2] 48)).alloc (.cells #[.slice e0 fa.length e1,.int .i64 fr,.int .i64 fs,.slice e2 fo.length e3,.slice e4 fc.length e5] 66):=⟨_,rfl⟩;rw[← hW] at hbx hz0;have hs:∀ wr,Below W.heap.size W wr→wr.cell? ⟨w.heap.size,0,none⟩=some (.slice a0 p.globals.length m0)∧wr.cell? ⟨w.heap.size,1,none⟩=some (.slice a1 p.shapes.length m1)∧wr.cell? ⟨w.heap.size,2,none⟩=some (.slice a2 p.funcs.length m2)∧wr.cell? ⟨w.heap.size+1,0,none⟩=some (.slice e0 fa.length e1)∧wr.cell? ⟨w.heap.size+1,1,none⟩=some (.int .i64 fr)∧wr.cell? ⟨w.heap.size+1,2,none⟩=some (.int .i64 fs)∧wr.cell? ⟨w.heap.size+1,3,none⟩=some (.slice e2 fo.length e3)∧wr.cell? ⟨w.heap.size+1,4,none⟩=some (.slice e4 fc.length e5):=fun wr h=>by
  rw[hz0] at h;have hb:=hbx wr h;exact⟨hb.1 0 _ rfl,hb.1 1 _ rfl,hb.1 2 _ rfl,hb.2.1 0 _ rfl,hb.2.1 1 _ rfl,hb.2.1 2 _ rfl,hb.2.1 3 _ rfl,hb.2.1 4 _ rfl⟩
 have hbw:∀ wr,Below W.heap.size W wr→Below w.heap.size w wr:=fun wr h=>by rw[hz0] at h;exact(hbx wr h).2.2.1
 have hw0:=Below.refl W.heap.size W;have hb0:=hbw W hw0;have ha:∀ wr,Below W.heap.size W wr→aQ wr D e0 fa:=fun wr h=>ha.fr (Fr.of_below (hbw wr h) (fun _=>False)) (fun _ _ h=>h)
 have ho:∀ wr,Below W.heap.size W wr→aQ wr D e2 fo:=fun wr h=>ho.fr (Fr.of_below (hbw wr h) (fun _=>False)) (fun _ _ h=>h)
 obtain⟨E,hE⟩:∃ E,E=iT p ⟨fa,fr,fs,fo,fc⟩:=⟨_,rfl⟩;rw[← hE];unfold iT at hE
 dsimp only at hE
 obtain⟨k0,k1,k2,k3,k4,k5,k6,k7⟩:=hs W hw0;have HW:=k_ hW;clear hW hbx hz0;have HB0:=k_ hb0;clear hb0;have HS:=k_ hs;clear hs;have HBW:=k_ hbw;clear hbw;have HW0:=k_ hw0;clear hw0
 by_cases hc:fs<fa.length∨16<fs∨8<fo.length∨fc.length<1∨64<fc.length
 case pos =>
  rw[if_pos hc] at hE;subst hE
  by_cases c1:fs<fa.length
  ·skip
   clear hc ha ho bv bo br hD
   go_enter Tryz.func223,Tryz.ntmps223
   go_upto_region 1 with fail
   rw[← HW.out];go_wp2_with fail
   go_ret
   exact⟨rfl,HB0.out⟩
  by_cases c2:16<fs
  ·skip
   clear hc ha ho bv bo br hD
   go_enter Tryz.func223,Tryz.ntmps223
   go_upto_region 1 with fail
   rw[← HW.out];go_wp2_with fail
   go_ret
   exact⟨rfl,HB0.out⟩
  by_cases c3:(8:Int)<fo.length
  ·skip
   clear hc ha ho bv bo br hD
   go_enter Tryz.func223,Tryz.ntmps223
   go_upto_region 1 with fail
   rw[← HW.out];go_wp2_with fail
   go_ret
   exact⟨rfl,HB0.out⟩
  by_cases c4:(fc.length:Int)<1
  ·skip
   clear hc ha ho bv bo br hD
   go_enter Tryz.func223,Tryz.ntmps223
   go_upto_region 1 with fail
   rw[← HW.out];go_wp2_with fail
   go_ret
   exact⟨rfl,HB0.out⟩
  by_cases c5:(64:Int)<fc.length
  ·skip
   clear hc ha ho bv bo br hD
   go_enter Tryz.func223,Tryz.ntmps223
   go_upto_region 1 with fail
   rw[← HW.out];go_wp2_with fail
   go_ret
   exact⟨rfl,HB0.out⟩
  exact absurd hc (by omega)
 rw[if_neg hc] at hE;have c1:¬ fs<fa.length:=by omega
 have c2:¬ 16<fs:=by omega
 have c3:¬ (8:Int)<fo.length:=by omega
 have c4:¬ (fc.length:Int)<1:=by omega
 have c5:¬ (64:Int)<fc.length:=by omega
 have HE:=k_ hE;clear hc hE;have HA:=k_ ha;clear ha;have HO:=k_ ho;clear ho;have BV:=k_ bv;clear bv;have BO:=k_ bo;clear bo;have BR:=k_ br;clear br;have HD:=k_ hD;clear hD
 go_enter Tryz.func223,Tryz.ntmps223
 go_upto_region 1 with fail
 rw[← HW.out];go_wp2_with fail;clear k0 k1 k2 k3 k4 k5 k6 k7
 go_loopw [41] (fun i wr=>∃ k:Nat,k≤fa.length∧i=.int .i64 k∧Below W.heap.size W wr∧(fa.take k).all (iV · p.shapes.length)=true) (fun i _=>fa.length - (intOf i).toNat)
 case atStart=>exact⟨0,Nat.zero_le _,rfl,HW0.out,rfl⟩
 case round =>
  obtain⟨k,hk,rfl,hR,hall⟩:=hrel;obtain⟨k0,k1,k2,k3,k4,k5,k6,k7⟩:=HS.out wr hR;have hbw:=HBW.out wr hR
  by_cases hlt:k<fa.length
  ·obtain⟨b',o',rfl,_,hx⟩:=HA.out wr hR k hlt
   have va:=fun w=>BH w fa[k] p.shapes.length (by omega) (BV.out _ (List.getElem_mem hlt))
   have hsn:=pJ hlt hall;have hno:=wR (P:=(iV · p.shapes.length)) hlt
   try dsimp only at hsn hno
   generalize fa[k]=x at *
   cases hwx:iV x p.shapes.length
   ·have e:=HE.out
    rw[if_pos (hno hwx)] at e;subst e;rw[hwx] at va;clear hsn hno hwx hall;have HBW2:=k_ hbw;clear hbw;have VA:=k_ va;clear va;have HR:=k_ hR;clear hR;go_wp2_with fail;refine(VA.out _).mono ?_;rintro e w9 ⟨rfl,hb9⟩;have HB9:=k_ (HBW2.out.trans (hb9.mono HBW2.out.size));clear hb9;go_wp2_with fail
    go_ret
    exact⟨rfl,HB9.out⟩
   ·rw[hwx] at va hsn
    clear hno hwx hall hbw;have VA:=k_ va;clear va;have HR:=k_ hR;clear hR;have HSN:=k_ hsn;clear hsn;go_wp2_with fail;refine(VA.out _).mono ?_;rintro e w9 ⟨rfl,hb9⟩;have HB9:=k_ (HR.out.trans (hb9.mono HR.out.size));clear hb9;go_wp2_with fail
    go_roundw
    case rel=>exact⟨k+1,by omega,by go_num,HB9.out,HSN.out⟩
    case measure=>simp[intOf];omega
  ·have hk':k=fa.length:=by omega
   subst hk';rw[List.take_length] at hall;have hE:=HE.out;rw[if_neg (by rw[hall];simp)] at hE;clear hall HE hbw;have HR:=k_ hR;clear hR
   by_cases hr:fr=0
   ·subst hr
    rw[if_neg (by simp)] at hE;have HE:=k_ hE;clear hE
    go_upto_region 11 with fail
    clear k0 k1 k2 k3 k4 k5 k6 k7;obtain⟨k0,k1,k2,k3,k4,k5,k6,k7⟩:=HS.out wr HR.out;have hE:=HE.out;clear HE;have hO:=k_ hE;clear hE;go_wp2_with fail
    go_loopw [67] (fun i wr=>∃ k:Nat,k≤fo.length∧i=.int .i64 k∧Below W.heap.size W wr∧(fo.take k).all (au · p.shapes.length)=true) (fun i _=>fo.length - (intOf i).toNat)
    case atStart=>exact⟨0,Nat.zero_le _,rfl,HR.out,rfl⟩
    case round =>
     obtain⟨k,hk,rfl,hR,hall⟩:=hrel;obtain⟨k0,k1,k2,k3,k4,k5,k6,k7⟩:=HS.out wr hR;have hbw:=HBW.out wr hR
     by_cases hlt:k<fo.length
     ·obtain⟨b',o',rfl,_,hx⟩:=HO.out wr hR k hlt
      have wi:=fun w=>dG w fo[k] p.shapes.length
      have hsn:=pJ hlt hall;have hno:=wR (P:=(au · p.shapes.length)) hlt
      try dsimp only at hsn hno
      generalize fo[k]=x at *
      cases hwx:au x p.shapes.length
      ·have e:=hO.out
       rw[if_pos (hno hwx)] at e;subst e;rw[hwx] at wi;clear hsn hno hwx hall;have HBW2:=k_ hbw;clear hbw;have WI:=k_ wi;clear wi;have HR:=k_ hR;clear hR;go_wp2_with fail;refine(WI.out _).mono ?_;rintro e w9 ⟨rfl,rfl⟩;go_wp2_with fail
       go_ret
       exact⟨rfl,HBW2.out⟩
      ·rw[hwx] at wi hsn
       clear hno hwx hall;clear hbw;have WI:=k_ wi;clear wi;have HR:=k_ hR;clear hR;have HSN:=k_ hsn;clear hsn;go_wp2_with fail;refine(WI.out _).mono ?_;rintro e w9 ⟨rfl,rfl⟩;go_wp2_with fail
       go_roundw
       case rel=>exact⟨k+1,by omega,by go_num,HR.out,HSN.out⟩
       case measure=>simp[intOf];omega
     ·have hk':k=fo.length:=by omega
      subst hk';rw[List.take_length] at hall;have e:=hO.out;rw[if_neg (by rw[hall];simp)] at e;subst e;clear hall;have HBW2:=k_ hbw;clear hbw;have HR:=k_ hR;clear hR;go_wp2_with fail
      go_ret
      exact⟨rfl,HBW2.out⟩
   ·have hr1:(fr != 0)=true:=by simpa using hr
    have fi:=fun w=>vG w fr p.shapes.length (by omega) BR.out
    cases hfi:cK fr p.shapes.length
    ·rw[if_pos ⟨hr,hfi⟩] at hE
     subst hE;rw[hfi] at fi;clear hfi hr;have FI:=k_ fi;clear fi;go_wp2_with fail;refine(FI.out _).mono ?_;rintro e w9 ⟨rfl,hb9⟩;have HB9:=k_ (HBW.out _ (HR.out.trans (hb9.mono HR.out.size)));clear hb9;go_wp2_with fail
     go_ret
     exact⟨rfl,HB9.out⟩
    ·rw[if_neg (by rw[hfi];simp)] at hE
     rw[hfi] at fi;clear hfi hr;have HE:=k_ hE;clear hE;have FI:=k_ fi;clear fi;go_wp2_with fail;refine(FI.out _).mono ?_;rintro e w9 ⟨rfl,hb9⟩;have HR9:=k_ (HR.out.trans (hb9.mono HR.out.size));clear hb9 k0 k1 k2 k3 k4 k5 k6 k7;obtain⟨k0,k1,k2,k3,k4,k5,k6,k7⟩:=HS.out w9 HR9.out;have hE:=HE.out;clear HE;have hO:=k_ hE;clear hE;go_wp2_with fail
     go_loopw [67] (fun i wr=>∃ k:Nat,k≤fo.length∧i=.int .i64 k∧Below W.heap.size W wr∧(fo.take k).all (au · p.shapes.length)=true) (fun i _=>fo.length - (intOf i).toNat)
     case atStart=>exact⟨0,Nat.zero_le _,rfl,HR9.out,rfl⟩
     case round =>
      obtain⟨k,hk,rfl,hR,hall⟩:=hrel;obtain⟨k0,k1,k2,k3,k4,k5,k6,k7⟩:=HS.out wr hR;have hbw:=HBW.out wr hR
      by_cases hlt:k<fo.length
      ·obtain⟨b',o',rfl,_,hx⟩:=HO.out wr hR k hlt
       have wi:=fun w=>dG w fo[k] p.shapes.length
       have hsn:=pJ hlt hall;have hno:=wR (P:=(au · p.shapes.length)) hlt
       try dsimp only at hsn hno
       generalize fo[k]=x at *
       cases hwx:au x p.shapes.length
       ·have e:=hO.out
        rw[if_pos (hno hwx)] at e;subst e;rw[hwx] at wi;clear hsn hno hwx hall;have HBW2:=k_ hbw;clear hbw;have WI:=k_ wi;clear wi;have HR:=k_ hR;clear hR;go_wp2_with fail;refine(WI.out _).mono ?_;rintro e w9 ⟨rfl,rfl⟩;go_wp2_with fail
        go_ret
        exact⟨rfl,HBW2.out⟩
       ·rw[hwx] at wi hsn
        clear hno hwx hall;clear hbw;have WI:=k_ wi;clear wi;have HR:=k_ hR;clear hR;have HSN:=k_ hsn;clear hsn;go_wp2_with fail;refine(WI.out _).mono ?_;rintro e w9 ⟨rfl,rfl⟩;go_wp2_with fail
        go_roundw
        case rel=>exact⟨k+1,by omega,by go_num,HR.out,HSN.out⟩
        case measure=>simp[intOf];omega
      ·have hk':k=fo.length:=by omega
       subst hk';rw[List.take_length] at hall;have e:=hO.out;rw[if_neg (by rw[hall];simp)] at e;subst e;clear hall;have HBW2:=k_ hbw;clear hbw;have HR:=k_ hR;clear hR;go_wp2_with fail
       go_ret
       exact⟨rfl,HBW2.out⟩
theorem Ai (w:World) (D:Nat→Prop) (hD:∀ k,D k→k<w.heap.size) (p:Prg) (c0 c1 c2:Value) (hv:aD w D p c0 c1 c2) (hp:pM p) (hq:qP p) :
  Calls Tryz.prog 158 #[.agg #[c0,c1,c2]] w fun e w'=>e=.returned (.int .i64 (iC p))∧Below w.heap.size w w':=by
 obtain⟨⟨a0,m0,rfl,hg⟩,⟨a1,m1,rfl,hsh⟩,a2,m2,rfl,hfn⟩:=hv;obtain⟨bg,bs,_⟩:=hp;obtain⟨q0,q1,q2,q3,q4⟩:=hq;have hbx:=fun wr h=>kL w #[.slice a0 p.globals.length m0,.slice a1 p.shapes.length m1,.slice a2 p.funcs.length m2] 48 wr h
 have hz0:(w.alloc (.cells #[.slice a0 p.globals.length m0,.slice a1 p.shapes.length m1,.slice a2 p.funcs.length m2] 48)).heap.size=w.heap.size+1:=by simp
 obtain⟨W,hW⟩:∃ W,W=(w.alloc (.cells #[.slice a0 p.globals.length m0,.slice a1 p.shapes.length m1,.slice a2 p.funcs.length m2] 48)):=⟨_,rfl⟩;rw[← hW] at hbx hz0;have hs:∀ wr,Below W.heap.size W wr→wr.cell? ⟨w.heap.size,0,none⟩=some (.slice a0 p.globals.length m0)∧wr.cell? ⟨w.heap.size,1,none⟩=some (.slice a1 p.shapes.length m1)∧wr.cell? ⟨w.heap.size,2,none⟩=some (.slice a2 p.funcs.length m2):=fun wr h=>by
  rw[hz0] at h;have hb:=hbx wr h;exact⟨hb.1 0 _ rfl,hb.1 1 _ rfl,hb.1 2 _ rfl⟩
 have hbw:∀ wr,Below W.heap.size W wr→Below w.heap.size w wr:=fun wr h=>by rw[hz0] at h;exact(hbx wr h).2.1
 have hw0:=Below.refl W.heap.size W;have hg:∀ wr,Below W.heap.size W wr→aQ wr D a0 p.globals:=fun wr h=>hg.fr (Fr.of_below (hbw wr h) (fun _=>False)) (fun _ _ h=>h)
 have hfn:∀ wr,Below W.heap.size W wr→AZ wr D a2 p.funcs:=fun wr h=>hfn.fr (Fr.of_below (hbw wr h) (fun _=>False)) (fun _ _ h=>h)
 have sc:=fun wr (h:Below W.heap.size W wr)=>mF wr D (fun k hk=>Nat.lt_of_lt_of_le (hD k hk) (hbw wr h).size) a1 p.shapes m1 (hsh.fr (Fr.of_below (hbw wr h) (fun _=>False)) (fun _ _ h=>h)) bs q1 q3
 obtain⟨E,hE⟩:∃ E,E=iC p:=⟨_,rfl⟩;rw[← hE];unfold iC at hE;generalize bU p.shapes=se at *;obtain⟨k0,k1,k2⟩:=hs W hw0;have HW:=k_ hW;have HE:=k_ hE;clear hW hbx hz0 hE hsh bs q3 q4;have HS:=k_ hs;clear hs;have HBW:=k_ hbw;clear hbw;have HW0:=k_ hw0;clear hw0;have HG:=k_ hg;clear hg;have HFN:=k_ hfn;clear hfn;have SC:=k_ sc;clear sc;have HD:=k_ hD;clear hD;have BG:=k_ bg;clear bg
 go_enter Tryz.func158,Tryz.ntmps158
 go_upto_region 1 with fail
 rw[← HW.out];go_wp2_with fail;refine(SC.out W HW0.out).mono ?_;rintro e w1 ⟨rfl,hb1⟩;have HR1:=k_ hb1;have HB1:=k_ (HBW.out w1 hb1);obtain⟨k0,k1,k2⟩:=HS.out w1 hb1;clear hb1;have hE:=HE.out;clear HE
 by_cases hse:se=0
 case neg =>
  have hs1:(se != 0)=true:=by simpa using hse
  rw[if_pos hse] at hE;subst hE;clear hse;go_wp2_with fail
  go_ret
  exact⟨rfl,HB1.out⟩
 subst hse;rw[if_neg (by simp)] at hE
 by_cases hc:16<p.globals.length∨p.funcs.length<1∨16<p.funcs.length
 case pos =>
  rw[if_pos hc] at hE;subst hE
  by_cases c1:(16:Int)<p.globals.length
  ·clear hc
   go_wp2_with fail
   go_ret
   exact⟨rfl,HB1.out⟩
  by_cases c2:(p.funcs.length:Int)<1
  ·clear hc
   go_wp2_with fail
   go_ret
   exact⟨rfl,HB1.out⟩
  by_cases c3:(16:Int)<p.funcs.length
  ·clear hc
   go_wp2_with fail
   go_ret
   exact⟨rfl,HB1.out⟩
  exact absurd hc (by omega)
 rw[if_neg hc] at hE;have c1:¬ (16:Int)<p.globals.length:=by omega
 have c2:¬ (p.funcs.length:Int)<1:=by omega
 have c3:¬ (16:Int)<p.funcs.length:=by omega
 have HE:=k_ hE;clear hE hc;go_wp2_with fail
 go_loopw [31] (fun i wr=>∃ k:Nat,k≤p.globals.length∧i=.int .i64 k∧Below W.heap.size W wr∧(p.globals.take k).all (cK · p.shapes.length)=true) (fun i _=>p.globals.length - (intOf i).toNat)
 case atStart=>exact⟨0,Nat.zero_le _,rfl,HR1.out,rfl⟩
 case round =>
  clear k0 k1 k2;obtain⟨k,hk,rfl,hR,hall⟩:=hrel;obtain⟨k0,k1,k2⟩:=HS.out wr hR
  by_cases hlt:k<p.globals.length
  ·obtain⟨b',o',rfl,_,hx⟩:=HG.out wr hR k hlt
   have fi:=fun w=>vG w p.globals[k] p.shapes.length (by omega) (BG.out _ (List.getElem_mem hlt))
   have hsn:=pJ hlt hall;have hno:=wR (P:=(cK · p.shapes.length)) hlt
   try dsimp only at hsn hno
   generalize p.globals[k]=x at *
   cases hwx:cK x p.shapes.length
   ·have e:=HE.out
    rw[if_pos (hno hwx)] at e;subst e;rw[hwx] at fi;clear hsn hno hwx hall;have FI:=k_ fi;clear fi;have HR:=k_ hR;clear hR;go_wp2_with fail;refine(FI.out _).mono ?_;rintro e w9 ⟨rfl,hb9⟩;have HB9:=k_ (HBW.out _ (HR.out.trans (hb9.mono HR.out.size)));clear hb9;go_wp2_with fail
    go_ret
    exact⟨rfl,HB9.out⟩
   ·rw[hwx] at fi hsn
    clear hno hwx hall;have FI:=k_ fi;clear fi;have HR:=k_ hR;clear hR;have HSN:=k_ hsn;clear hsn;go_wp2_with fail;refine(FI.out _).mono ?_;rintro e w9 ⟨rfl,hb9⟩;have HB9:=k_ (HR.out.trans (hb9.mono HR.out.size));clear hb9;go_wp2_with fail
    go_roundw
    case rel=>exact⟨k+1,by omega,by go_num,HB9.out,HSN.out⟩
    case measure=>simp[intOf];omega
  ·have hk':k=p.globals.length:=by omega
   subst hk';rw[List.take_length] at hall;have hE:=HE.out;rw[if_neg (by rw[hall];simp)] at hE;have h0:0<p.funcs.length:=by omega
   obtain⟨b2,o2,rfl,_,y0,y1,y2,y3,y4,g0,g1,g2,g3,g4,hfv⟩:=HFN.out wr hR 0 h0;obtain⟨rfl,rfl,⟨e0,e1,rfl,_⟩,_⟩:=hfv;rw[show (p.funcs[0]?).getD lH=p.funcs[0] from by simp[h0]] at hE;generalize p.funcs[0]=f at *;simp only[Nat.zero_mul,Nat.add_zero] at g0 g1 g2 g3 g4;have HB9:=k_ (HBW.out wr hR);clear hall HE hR g2 g3 g4;generalize f.args.length=la at *;generalize f.result=fr at *
   by_cases d1:la=0
   ·subst d1
    by_cases d2:fr=0
    ·subst d2
     rw[if_neg (by rintro (h | h) <;> omega)] at hE;subst hE;go_wp2_with fail
     go_ret
     exact⟨rfl,HB9.out⟩
    ·have d3:(fr != 0)=true:=by simpa using d2
     rw[if_pos (Or.inr d2)] at hE;subst hE;go_wp2_with fail
     go_ret
     exact⟨rfl,HB9.out⟩
   ·have d3:0<la:=by omega
    have d4:(0:Int)<la:=by omega
    rw[if_pos (Or.inl d3)] at hE;subst hE;go_wp2_with fail
    go_ret
    exact⟨rfl,HB9.out⟩
def ry (p:Prg) (fn:Int):Int × Int:=if (dU p fn).1=0 then (0,0) else (fn,(dU p fn).2)
def jX (p:Prg) (fn:Int) (w:World) (e:Ending) (w':World):Prop :=
 e=.returned (.tuple #[.int .i64 (dU p fn).1,.agg #[.int .i64 (ry p fn).1,.int .i64 (ry p fn).2]])∧Below w.heap.size w w'
theorem lh {p:Prg} {fn E m:Int} {n:Nat} {w w':World} (h:dU p fn=(E,n)) (hE:E≠0) (hm:m=n) (hb:Below w.heap.size w w'):jX p fn w (.returned (.tuple #[.int .i64 E,.agg #[.int .i64 fn,.int .i64 m]])) w':=by
 unfold jX ry;rw[h];simp only;rw[if_neg hE,hm];exact⟨rfl,hb⟩
theorem xA {p:Prg} {fn:Int} {w w':World} (h:dU p fn=(0,0)) (hb:Below w.heap.size w w'):jX p fn w (.returned (.tuple #[.int .i64 0,.agg #[.int .i64 0,.int .i64 0]])) w':=by
 unfold jX ry;rw[h];simp only;rw[if_pos trivial];exact⟨rfl,hb⟩
theorem BQ (w:World) (D:Nat→Prop) (hD:∀ k,D k→k<w.heap.size) (p:Prg) (c0 c1 c2:Value) (hv:aD w D p c0 c1 c2) (hp:pM p) (hq:qP p) (fn:Int) :
  Calls Tryz.prog 159 #[.agg #[c0,c1,c2],.int .i64 fn] w (jX p fn w):=by
 have hPP:∀ wr,Below w.heap.size w wr→aD wr D p c0 c1 c2:=fun wr hb=>hv.fr (fb_ hb) (fun _ _ h=>h)
 obtain⟨⟨a0,m0,rfl,_⟩,⟨a1,m1,rfl,_⟩,a2,m2,rfl,hfn⟩:=hv;have hbx:=fun wr h=>nz w #[.slice a0 p.globals.length m0,.slice a1 p.shapes.length m1,.slice a2 p.funcs.length m2] #[.int .i64 0,.int .i64 0] 48 147 wr h
 have hz0:((w.alloc (.cells #[.slice a0 p.globals.length m0,.slice a1 p.shapes.length m1,.slice a2 p.funcs.length m2] 48)).alloc (.cells #[.int .i64 0,.int .i64 0] 147)).heap.size=w.heap.size+2:=by simp
 have hpl:=ai (w.alloc (.cells #[.slice a0 p.globals.length m0,.slice a1 p.shapes.length m1,.slice a2 p.funcs.length m2] 48)) (.cells #[.int .i64 0,.int .i64 0] 147);rw[show (w.alloc (.cells #[.slice a0 p.globals.length m0,.slice a1 p.shapes.length m1,.slice a2 p.funcs.length m2] 48)).heap.size=w.heap.size+1 from by simp] at hpl;obtain⟨W,hW⟩:∃ W,W=(w.alloc (.cells #[.slice a0 p.globals.length m0,.slice a1 p.shapes.length m1,.slice a2 p.funcs.length m2] 48)).alloc (.cells #[.int .i64 0,.int .i64 0] 147):=⟨_,rfl⟩;rw[← hW] at hbx hz0 hpl;have hs:∀ wr,Below W.heap.size W wr→wr.cell? ⟨w.heap.size,0,none⟩=some (.slice a0 p.globals.length m0)∧wr.cell? ⟨w.heap.size,1,none⟩=some (.slice a1 p.shapes.length m1)∧wr.cell? ⟨w.heap.size,2,none⟩=some (.slice a2 p.funcs.length m2)∧wr.heap[w.heap.size+1]?=some (.cells #[.int .i64 0,.int .i64 0] 147):=fun wr h=>by
  have hpl2:=(fb_ h).heap hpl (fun h=>h);rw[hz0] at h;have hb:=hbx wr h;exact⟨hb.1 0 _ rfl,hb.1 1 _ rfl,hb.1 2 _ rfl,hpl2⟩
 have hbw:∀ wr,Below W.heap.size W wr→Below w.heap.size w wr:=fun wr h=>by rw[hz0] at h;exact(hbx wr h).2.2.1
 have hw0:=Below.refl W.heap.size W;have hb0:=hbw W hw0;have hfn:=hfn.fr (Fr.of_below (hbw W hw0) (fun _=>False)) (fun _ _ h=>h);obtain⟨k0,k1,k2,k3⟩:=hs W hw0;have wi:=dG W fn p.funcs.length;have HW:=k_ hW;clear hW hbx
 cases hin:au fn p.funcs.length
 ·rw[hin] at wi
  have hr:=ag (ag k3 0 (.int .i64 fn)) 1 (.int .i64 0);have hf:Fr (fun q=>q=w.heap.size+1) W _:=((Fr.refl (fun q=>q=w.heap.size+1) W).setCell (p:=⟨w.heap.size+1,0,none⟩) (fun _=>rfl) (.int .i64 fn)).setCell (p:=⟨w.heap.size+1,1,none⟩) (fun _=>rfl) (.int .i64 0);have hb:=hb0.trans (hf.below hb0.size (fun k hk=>by omega));obtain⟨_,_,f0,f1⟩:=aN k3;have hP:=lh (Dy hin) (by decide) rfl hb;clear k3 hfn hs hbw hPP hpl hin hD hz0;have WI:=k_ wi;clear wi
  go_enter Tryz.func159,Tryz.ntmps159
  go_upto_region 1 with fail
  rw[← HW.out];go_wp2_with fail;refine WI.out.mono ?_;rintro e w' ⟨rfl,rfl⟩;have HR:=k_ hr;clear hr;have HP:=k_ hP;clear hP;clear hf hb
  go_wp2_with (with_reducible refine bodyPost_ret ?_ rfl HP.out;obtain⟨k0,k1,_⟩:=aN HR.out;simp[results,Tryz.results159,go_sem,k0,k1])
  all_goals (try trivial)
 rw[hin] at wi;obtain⟨j,rfl,hj⟩:=fO hin;have hfS:=xB j hj;obtain⟨bb,o,rfl,_,y0,y1,y2,y3,y4,g0,g1,g2,g3,g4,hfv⟩:=hfn j hj;have hB:=hp.2.2 p.funcs[j] (List.getElem_mem hj);have hR:=hq.2.2.2.2 p.funcs[j] (List.getElem_mem hj);have hfv0:=hfv;have hco:(codeOf p j)=p.funcs[j].code:=by unfold codeOf;rw[if_pos hin];simp[hj]
 have hln:=nV hq (j:Int);generalize p.funcs[j]=f at *;obtain⟨rfl,rfl,⟨e0,e1,rfl,_⟩,⟨e2,e3,rfl,_⟩,e4,e5,rfl,_⟩:=hfv;have hx1:=fun wr h=>kL W #[.slice e0 f.args.length e1,.int .i64 f.result,.int .i64 f.slots,.slice e2 f.objects.length e3,.slice e4 f.code.length e5] 66 wr h
 have hx2:(W.alloc (.cells #[.slice e0 f.args.length e1,.int .i64 f.result,.int .i64 f.slots,.slice e2 f.objects.length e3,.slice e4 f.code.length e5] 66)).heap.size=W.heap.size+1:=by simp
 obtain⟨X,hX⟩:∃ X,X=W.alloc (.cells #[.slice e0 f.args.length e1,.int .i64 f.result,.int .i64 f.slots,.slice e2 f.objects.length e3,.slice e4 f.code.length e5] 66):=⟨_,rfl⟩;rw[← hX] at hx1 hx2;have ht:∀ wr,Below X.heap.size X wr→wr.cell? ⟨W.heap.size,0,none⟩=some (.slice e0 f.args.length e1)∧wr.cell? ⟨W.heap.size,1,none⟩=some (.int .i64 f.result)∧wr.cell? ⟨W.heap.size,2,none⟩=some (.int .i64 f.slots)∧wr.cell? ⟨W.heap.size,3,none⟩=some (.slice e2 f.objects.length e3)∧wr.cell? ⟨W.heap.size,4,none⟩=some (.slice e4 f.code.length e5):=fun wr h=>by
  rw[hx2] at h;have hb:=hx1 wr h;exact⟨hb.1 0 _ rfl,hb.1 1 _ rfl,hb.1 2 _ rfl,hb.1 3 _ rfl,hb.1 4 _ rfl⟩
 have htw:∀ wr,Below X.heap.size X wr→Below W.heap.size W wr:=fun wr h=>by rw[hx2] at h;exact(hx1 wr h).2.1
 have hX0:=Below.refl X.heap.size X;have fr:=AR X D (fun k hk=>Nat.lt_of_lt_of_le (hD k hk) (hbw X (htw X hX0)).size) p f _ _ _ _ _ _ (hPP X (hbw X (htw X hX0))) (hfv0.fr (Fr.of_below (htw X hX0) (fun _=>False)) (fun _ _ h=>h)) hB hq.2.1 hR.1 hR.2.1 hR.2.2;have ins:=fun wr (h:Below X.heap.size X wr) (k:Nat) (hk:k≤3000)=>nX wr D p _ _ _ j k (fun q hq=>Nat.lt_of_lt_of_le (hD q hq) (hbw wr (htw wr h)).size) (hPP wr (hbw wr (htw wr h))) (by unfold aJ;have:=hq.2.2.1;omega) (by unfold aJ;omega) hln (lN hq) (tT hp) hq.1.1
 have hj1:(j:Int)<p.funcs.length:=by omega
 have hcl:f.code.length≤3000:=hR.2.2;have HX:=k_ hX;clear hX hx1 hfv0 hin hB hR hco hln hPP hp hq hD hpl hz0;have front:=@nY p j f;have code:=@uu p j f;rw[← hfS] at front code;clear hfS;generalize iT p f=fe at *;have FRONT:=k_ front;clear front;have CODE:=k_ code;clear code;have WI:=k_ wi;clear wi;have HS:=k_ hs;clear hs;have HBW:=k_ hbw;clear hbw;have HW0:=k_ hw0;clear hw0;have HB0:=k_ hb0;clear hb0;have HFN:=k_ hfn;clear hfn;have HT:=k_ ht;clear ht;have HTW:=k_ htw;clear htw;have HX0:=k_ hX0;clear hX0;have FR:=k_ fr;clear fr;have INS:=k_ ins;clear ins
 go_enter Tryz.func159,Tryz.ntmps159
 go_upto_region 1 with fail
 rw[← HW.out];go_wp2_with fail;refine WI.out.mono ?_;rintro e w' ⟨rfl,rfl⟩
 go_upto_region 4 with fail
 rw[← HX.out];clear k0 k1 k2 k3 g0 g1 g2 g3 g4;obtain⟨k0,k1,k2,k3⟩:=HS.out X (HTW.out X HX0.out);obtain⟨t0,t1,t2,t3,t4⟩:=HT.out X HX0.out;go_wp2_with fail;refine FR.out.mono ?_;rintro e w1 ⟨rfl,hb1⟩;have hbz:=HBW.out w1 (HTW.out w1 hb1);clear k0 k1 k2 k3 t0 t1 t2 t3 t4;obtain⟨k0,k1,k2,k3⟩:=HS.out w1 (HTW.out w1 hb1);obtain⟨t0,t1,t2,t3,t4⟩:=HT.out w1 hb1
 by_cases hfe:fe=0
 case neg =>
  have hfe1:(fe != 0)=true:=by simpa using hfe
  have hr:=ag (ag k3 0 (.int .i64 (j:Int))) 1 (.int .i64 0);have hf:Fr (fun q=>q=w.heap.size+1) w1 _:=((Fr.refl (fun q=>q=w.heap.size+1) w1).setCell (p:=⟨w.heap.size+1,0,none⟩) (fun _=>rfl) (.int .i64 (j:Int))).setCell (p:=⟨w.heap.size+1,1,none⟩) (fun _=>rfl) (.int .i64 0);have hb:=hbz.trans (hf.below hbz.size (fun k hk=>by omega));obtain⟨_,_,f0,f1⟩:=aN k3;have hP:=lh (FRONT.out hfe) hfe rfl hb;clear k3 hbz hfe hb1;have HR:=k_ hr;clear hr;have HP:=k_ hP;clear hP;clear hf hb
  go_wp2_with (with_reducible refine bodyPost_ret ?_ rfl HP.out;obtain⟨k0,k1,_⟩:=aN HR.out;simp[results,Tryz.results159,go_sem,k0,k1])
  all_goals (try trivial)
 subst hfe;have code2:=CODE.out rfl;clear CODE;have CODE:=k_ code2;clear code2;have HB1:=k_ hb1;clear k3 hbz hb1;go_wp2_with fail
 go_loopw [34] (fun i wr=>∃ k:Nat,k≤f.code.length∧i=.int .i64 k∧Below X.heap.size X wr∧∀ q,q<k→gI p j q=0) (fun i _=>f.code.length - (intOf i).toNat)
 case atStart=>exact⟨0,Nat.zero_le _,rfl,HB1.out,fun q hq=>absurd hq (by omega)⟩
 case round =>
  clear k0 k1 k2 t0 t1 t2 t3 t4;obtain⟨k,hk,rfl,hR,hall⟩:=hrel;have hbz:=HBW.out wr (HTW.out wr hR);obtain⟨k0,k1,k2,k3⟩:=HS.out wr (HTW.out wr hR)
  by_cases hlt:k<f.code.length
  ·have ins:=INS.out wr hR k (by omega)
   have hhit:=mf (f:=fun pc:Nat=>gI p j pc) (n:=f.code.length) (k:=k) hlt hall;have hsu:gI p j k=0→∀ q,q<k+1→gI p j q=0:=fun h q hq=>by
    by_cases he:q=k
    ·subst he;exact h
    ·exact hall q (by omega)
   try dsimp only at hhit
   rw[← CODE.out] at hhit;generalize gI p j k=ie at *;clear k3 hbz hall;have INS:=k_ ins;clear ins;have HHIT:=k_ hhit;clear hhit;have HSU:=k_ hsu;clear hsu;have HR:=k_ hR;clear hR;go_wp2_with fail;refine INS.out.mono ?_;rintro e w9 ⟨rfl,hb9⟩;have hR9:=HR.out.trans (hb9.mono HR.out.size);have hbz:=HBW.out w9 (HTW.out w9 hR9);clear k0 k1 k2;obtain⟨k0,k1,k2,k3⟩:=HS.out w9 (HTW.out w9 hR9)
   by_cases hie:ie=0
   case neg =>
    have hie1:(ie != 0)=true:=by simpa using hie
    have hr:=ag (ag k3 0 (.int .i64 (j:Int))) 1 (.int .i64 (k:Int));have hf:Fr (fun q=>q=w.heap.size+1) w9 _:=((Fr.refl (fun q=>q=w.heap.size+1) w9).setCell (p:=⟨w.heap.size+1,0,none⟩) (fun _=>rfl) (.int .i64 (j:Int))).setCell (p:=⟨w.heap.size+1,1,none⟩) (fun _=>rfl) (.int .i64 (k:Int));have hb:=hbz.trans (hf.below hbz.size (fun k hk=>by omega));obtain⟨_,_,f0,f1⟩:=aN k3;have hP:=lh (HHIT.out hie) hie rfl hb;clear k3 hbz hie hb9 hR9 HR;have HR:=k_ hr;clear hr;have HP:=k_ hP;clear hP;clear hf hb
    go_wp2_with (with_reducible refine bodyPost_ret ?_ rfl HP.out;obtain⟨k0,k1,_⟩:=aN HR.out;simp[results,Tryz.results159,go_sem,k0,k1])
    all_goals (try trivial)
   subst hie;have hsv:=HSU.out rfl;clear k3 hbz hb9 HSU;have HSV:=k_ hsv;clear hsv;have HR9:=k_ hR9;clear hR9;go_wp2_with fail
   go_roundw
   case rel=>exact⟨k+1,by omega,by go_num,HR9.out,HSV.out⟩
   case measure=>simp[intOf];omega
  ·have hk':k=f.code.length:=by omega
   subst hk';have hzz:=jd (f:=fun pc:Nat=>gI p j pc) hall;rw[← CODE.out] at hzz;have hr:=ag (ag k3 0 (.int .i64 0)) 1 (.int .i64 0);have hf:Fr (fun q=>q=w.heap.size+1) wr _:=((Fr.refl (fun q=>q=w.heap.size+1) wr).setCell (p:=⟨w.heap.size+1,0,none⟩) (fun _=>rfl) (.int .i64 0)).setCell (p:=⟨w.heap.size+1,1,none⟩) (fun _=>rfl) (.int .i64 0);have hb:=hbz.trans (hf.below hbz.size (fun k hk=>by omega));obtain⟨_,_,f0,f1⟩:=aN k3;have hP:=xA hzz hb;clear k3 hbz hall hR hzz;have HR:=k_ hr;clear hr;have HP:=k_ hP;clear hP;clear hf hb
   go_wp2_with (with_reducible refine bodyPost_ret ?_ rfl HP.out;obtain⟨k0,k1,_⟩:=aN HR.out;simp[results,Tryz.results159,go_sem,k0,k1])
   all_goals (try trivial)
end Go.Proofs.YtlofbhoicbemnaaGreatDoor
