/- Walk: is a string just what Pack packs (besomlaw26.unpacks)? Walks: the book's lists of entries: marks, copies; are they still what they .. -/
import Derived.Test.YtlofbhoicbemnaaGreatDoorGAo
import Derived.Test.YtlofbhoicbemnaaGreatDoorGBq
set_option linter.unusedVariables false
set_option linter.unusedSimpArgs false
set_option maxRecDepth 100000
set_option maxHeartbeats 3200000
namespace Go.Proofs.YtlofbhoicbemnaaGreatDoor.Tk
open Go.ChangeShapes Go.WideShapes Go.ChangeAt Go.RowKit Go.Maps
theorem qY (s:ByteArray) (h4:s.size=4) (w:World):Calls Tryz.prog 55 #[.string s] w fun e w'=>e=.returned (.int .i64 (dK s))∧∃ n,w'=w.drewN n:=by
 have h:=uL s h4 w;have e:dK s=iN (s[0].toNat) (s[1].toNat) (s[2].toNat) (s[3].toNat):=by
  unfold dK;rw[if_neg (by omega),fV _ _ _,fV _ _ _,fV _ _ _,fV _ _ _]
 rw[e];exact h
theorem Bw (w A:World) {u0 u1 u2 u3 u4:Value} (hb:Below w.heap.size w A) (hr:A.heap[w.heap.size]?=some (.cells #[u0,u1,u2,u3,u4] 50)) (x0 x1 x2 x3 x4:Value):∃ y,Value.pointer (some ⟨w.heap.size,0,none⟩)=.pointer (some ⟨y,0,none⟩)∧(((((A.setCell ⟨w.heap.size,0,none⟩ x0).setCell ⟨w.heap.size,1,none⟩ x1).setCell ⟨w.heap.size,2,none⟩ x2).setCell ⟨w.heap.size,3,none⟩ x3).setCell ⟨w.heap.size,4,none⟩ x4).heap[y]?=some (.cells #[x0,x1,x2,x3,x4] 50)∧Below w.heap.size w (((((A.setCell ⟨w.heap.size,0,none⟩ x0).setCell ⟨w.heap.size,1,none⟩ x1).setCell ⟨w.heap.size,2,none⟩ x2).setCell ⟨w.heap.size,3,none⟩ x3).setCell ⟨w.heap.size,4,none⟩ x4) :=
 ⟨_,rfl,ag (ag (ag (ag (ag hr 0 x0) 1 x1) 2 x2) 3 x3) 4 x4,((((hb.setCell (Nat.le_refl _) _).setCell (Nat.le_refl _) _).setCell (Nat.le_refl _) _).setCell (Nat.le_refl _) _).setCell (Nat.le_refl _) _⟩
theorem GJ (w:World) (n m:Nat) (x0 x1 x2 x3 x4:Value):∃ y,Value.pointer (some ⟨w.heap.size,0,none⟩)=.pointer (some ⟨y,0,none⟩)∧((((((((w.drewN n).alloc (.cells #[.int .i64 0,.int .i64 0,.int .i64 0,.int .i64 0,.int .i64 0] 50)).drewN m).setCell ⟨w.heap.size,0,none⟩ x0).setCell ⟨w.heap.size,1,none⟩ x1).setCell ⟨w.heap.size,2,none⟩ x2).setCell ⟨w.heap.size,3,none⟩ x3).setCell ⟨w.heap.size,4,none⟩ x4).heap[y]?=some (.cells #[x0,x1,x2,x3,x4] 50)∧Below w.heap.size w ((((((((w.drewN n).alloc (.cells #[.int .i64 0,.int .i64 0,.int .i64 0,.int .i64 0,.int .i64 0] 50)).drewN m).setCell ⟨w.heap.size,0,none⟩ x0).setCell ⟨w.heap.size,1,none⟩ x1).setCell ⟨w.heap.size,2,none⟩ x2).setCell ⟨w.heap.size,3,none⟩ x3).setCell ⟨w.heap.size,4,none⟩ x4) :=
 Bw w _ (below_drewN ((below_drewN (Below.refl _ w) n).alloc (Nat.le_refl _) _) m) (ai (w.drewN n) _) x0 x1 x2 x3 x4
theorem GI (w:World) (m:Nat) (x0 x1 x2 x3 x4:Value):∃ y,Value.pointer (some ⟨w.heap.size,0,none⟩)=.pointer (some ⟨y,0,none⟩)∧(((((((w.alloc (.cells #[.int .i64 0,.int .i64 0,.int .i64 0,.int .i64 0,.int .i64 0] 50)).drewN m).setCell ⟨w.heap.size,0,none⟩ x0).setCell ⟨w.heap.size,1,none⟩ x1).setCell ⟨w.heap.size,2,none⟩ x2).setCell ⟨w.heap.size,3,none⟩ x3).setCell ⟨w.heap.size,4,none⟩ x4).heap[y]?=some (.cells #[x0,x1,x2,x3,x4] 50)∧Below w.heap.size w (((((((w.alloc (.cells #[.int .i64 0,.int .i64 0,.int .i64 0,.int .i64 0,.int .i64 0] 50)).drewN m).setCell ⟨w.heap.size,0,none⟩ x0).setCell ⟨w.heap.size,1,none⟩ x1).setCell ⟨w.heap.size,2,none⟩ x2).setCell ⟨w.heap.size,3,none⟩ x3).setCell ⟨w.heap.size,4,none⟩ x4) :=
 Bw w _ (below_drewN ((Below.refl _ w).alloc (Nat.le_refl _) _) m) (ai w _) x0 x1 x2 x3 x4
theorem IL (w:World) (n:Nat) (o:Obj):∃ y,Value.pointer (some ⟨w.heap.size,0,none⟩)=.pointer (some ⟨y,0,none⟩)∧((w.drewN n).alloc o).heap[y]?=some o∧Below w.heap.size w ((w.drewN n).alloc o) :=
 ⟨_,rfl,ai (w.drewN n) _,(below_drewN (Below.refl _ w) n).alloc (Nat.le_refl _) _⟩
theorem qH (w:World) (b:ByteArray) (hb:b.size≤100000) :
  Calls Tryz.prog 21 #[.string b] w fun e w'=>e=.returned (.bool (fOk b))∧Below w.heap.size w w':=by
 by_cases h24:b.size<24
 ·have hx:fOk b=false:=by
   unfold fOk;rw[decide_eq_false (fun h:oJ b=>by have:=h.1;omega)]
   rfl
  rw[hx];have h24':(b.size:Int)<24:=by omega
  go_enter Tryz.func21,Tryz.ntmps21
  go_wp2_with fail
  go_ret
  exact⟨rfl,Below.refl _ _⟩
 have h24':¬ (b.size:Int)<24:=by omega
 have h4:(b.extract 0 4).size=4:=by rw[ByteArray.size_extract];omega
 have H4:=k_ h4;obtain⟨nv,hnv⟩:∃ nv,nv=fN b:=⟨_,rfl⟩;have HNV:=k_ (show dK (b.extract 0 4)=nv from hnv.symm)
 by_cases hn0:nv<0
 ·have HX:=k_ (show fOk b=false from by
   unfold fOk;rw[decide_eq_false (fun h:oJ b=>by have:=h.2.1;omega)]
   rfl)
  clear hnv h4
  go_enter Tryz.func21,Tryz.ntmps21
  go_wp2_with fail;refine(qY _ H4.out _).mono ?_;rintro e _ ⟨rfl,nd,rfl⟩;rw[HNV.out];go_wp2_with fail
  go_ret
  exact⟨by rw[HX.out];rfl,below_drewN (Below.refl _ _) nd⟩
 by_cases hn1:(b.size:Int) - 24<nv
 ·have HX:=k_ (show fOk b=false from by
   unfold fOk;rw[decide_eq_false (fun h:oJ b=>by have:=h.2.2;omega)]
   rfl)
  clear hnv h4
  go_enter Tryz.func21,Tryz.ntmps21
  go_wp2_with fail;refine(qY _ H4.out _).mono ?_;rintro e _ ⟨rfl,nd,rfl⟩;rw[HNV.out];go_wp2_with fail
  go_ret
  exact⟨by rw[HX.out];rfl,below_drewN (Below.refl _ _) nd⟩
 obtain⟨n,rfl⟩:∃ n:Nat,nv=n:=⟨nv.toNat,by omega⟩;have hfit:oJ b:=⟨by omega,by omega,by omega⟩;have hI:fI b=b.extract 4 (4+n):=by unfold fI;rw[← hnv];rfl
 have hK:fK b=b.extract (4+n) b.size:=by unfold fK;rw[← hnv];rfl
 have hks:=Bg b hfit;have hok:fOk b=(bK (fI b) && (decide (fC b).ok && decide ((bZ (fS b)).2=0))):=by
  unfold fOk;rw[decide_eq_true hfit];simp[Bool.and_assoc]
 rw[hok];have hisz:(fI b).size≤100000:=by rw[hI,ByteArray.size_extract];omega
 have hfS:fS b=(fK b).extract 20 (fK b).size:=rfl;have hC:fC b=⟨dK ((fK b).extract 0 4),dK ((fK b).extract 4 8),dK ((fK b).extract 8 12),dK ((fK b).extract 12 16),dK ((fK b).extract 16 20)⟩:=rfl;obtain⟨I,hIe⟩:∃ I,I=fI b:=⟨_,rfl⟩;obtain⟨K,hKe⟩:∃ K,K=fK b:=⟨_,rfl⟩;obtain⟨S,hSe⟩:∃ S,S=fS b:=⟨_,rfl⟩;obtain⟨C,hCe⟩:∃ C,C=fC b:=⟨_,rfl⟩;rw[← hIe] at hisz hI ⊢;rw[← hKe] at hK hks hfS hC;rw[← hSe] at hfS ⊢;rw[← hCe] at hC ⊢;have HI:=k_ hI;have HK:=k_ hK;have HSE:=k_ hfS;have HC:=k_ hC;have hn2:¬ (b.size:Int) - 24<(n:Int):=hn1;have hkz:20≤K.size:=hks.1;have HKZ:=k_ hks.2;have hbz:b.size≤100000:=hb;have HSZ:=k_ (show S.size≤100000 from by rw[hfS,ByteArray.size_extract];omega);have HISZ:=k_ hisz;have WK:=k_ (fun W i (hi:i+4≤20)=>qY (K.extract i (i+4)) (by rw[ByteArray.size_extract];omega) W);obtain⟨x0,hx0⟩:∃ x,x=dK (K.extract 0 4):=⟨_,rfl⟩;obtain⟨x1,hx1⟩:∃ x,x=dK (K.extract 4 8):=⟨_,rfl⟩;obtain⟨x2,hx2⟩:∃ x,x=dK (K.extract 8 12):=⟨_,rfl⟩;obtain⟨x3,hx3⟩:∃ x,x=dK (K.extract 12 16):=⟨_,rfl⟩;obtain⟨x4,hx4⟩:∃ x,x=dK (K.extract 16 20):=⟨_,rfl⟩;rw[← hx0,← hx1,← hx2,← hx3,← hx4] at hC;have HCC:=k_ hC;clear hIe hKe hSe hCe hok hfit hI hK hks hfS hC hisz HC h4 hnv hn1 hb;have HX0:=k_ hx0;clear hx0;have HX1:=k_ hx1;clear hx1;have HX2:=k_ hx2;clear hx2;have HX3:=k_ hx3;clear hx3;have HX4:=k_ hx4;clear hx4;obtain⟨rb,hrb⟩:∃ rb,rb=bK I:=⟨_,rfl⟩;obtain⟨q,hq⟩:∃ q,q=decide C.ok:=⟨_,rfl⟩;obtain⟨z,hz⟩:∃ z,z=decide ((bZ S).2=0):=⟨_,rfl⟩;rw[← hrb,← hq,← hz];have HRB:=k_ hrb;have HQ:=k_ hq;have HZ:=k_ hz;clear hrb hq hz
 go_enter Tryz.func21,Tryz.ntmps21
 go_wp2_with fail;refine(qY _ H4.out _).mono ?_;rintro e w5 ⟨rfl,nd,hw5⟩;have HB5:=k_ (show Below w.heap.size w w5 from by rw[hw5];exact below_drewN (Below.refl _ _) nd);clear hw5;rw[HNV.out];go_wp2_with fail;rw[← HI.out];refine(zn I _ HISZ.out).mono ?_;rintro e w6 ⟨c0,c1,c2,rfl,hv,hb6⟩;have HB6:=k_ (HB5.out.trans (hb6.mono HB5.out.size));obtain⟨⟨a0,m0,e0,_⟩,⟨a1,m1,e1,_⟩,a2,m2,e2,_⟩:=hv;obtain⟨n0,hn0⟩:∃ n,n=(gT I).globals.length:=⟨_,rfl⟩;obtain⟨n1,hn1⟩:∃ n,n=(gT I).shapes.length:=⟨_,rfl⟩;obtain⟨n2,hn2⟩:∃ n,n=(gT I).funcs.length:=⟨_,rfl⟩;rw[← hn0] at e0;rw[← hn1] at e1;rw[← hn2] at e2;subst e0 e1 e2;clear hn0 hn1 hn2 hb6;rw[← HRB.out]
 go_upto_region 8 with fail
 rw[← HK.out];have HB7:=k_ (HB6.out.alloc HB6.out.size (.cells #[.slice a0 n0 m0,.slice a1 n1 m1,.slice a2 n2 m2] 48));have HSZ7:=k_ (show w6.heap.size+1=(w6.alloc (.cells #[.slice a0 n0 m0,.slice a1 n1 m1,.slice a2 n2 m2] 48)).heap.size from by simp);have k4:(4:Int)≤K.size:=by omega
 have k8:(8:Int)≤K.size:=by omega
 have k12:(12:Int)≤K.size:=by omega
 have k20:(20:Int)≤K.size:=by omega
 have k16:(16:Int)≤K.size:=by omega
 go_cut [7] (fun v wx=>∃ y,v=.pointer (some ⟨y,0,none⟩)∧wx.heap[y]?=some (.cells #[.int .i64 (dK (K.extract 0 4)),.int .i64 (dK (K.extract 4 8)),.int .i64 (dK (K.extract 8 12)),.int .i64 (dK (K.extract 12 16)),.int .i64 (dK (K.extract 16 20))] 50)∧Below (w6.alloc (.cells #[.slice a0 n0 m0,.slice a1 n1 m1,.slice a2 n2 m2] 48)).heap.size (w6.alloc (.cells #[.slice a0 n0 m0,.slice a1 n1 m1,.slice a2 n2 m2] 48)) wx)
 case first =>
  go_region_law (go_simp;go_at_call 55;refine(WK.out _ _ (by decide)).mono ?_;rintro e _ ⟨rfl,nq,rfl⟩)
  all_goals
   go_wp2_with fail
   go_meet
   case rel =>
    rw[HSZ7.out,← HX0.out,← HX1.out,← HX2.out,← HX3.out,← HX4.out];generalize w6.alloc (.cells #[.slice a0 n0 m0,.slice a1 n1 m1,.slice a2 n2 m2] 48)=w7
    with_reducible first | exact IL w7 _ _ | exact GJ w7 _ _ _ _ _ _ _ | exact GI w7 _ _ _ _ _ _
 case rest =>
  obtain⟨y,rfl,hy,hb7⟩:=hcut;have HB8:=k_ (HB7.out.trans (hb7.mono HB7.out.size));clear hb7 k4 k8 k12 k16;rw[← HX0.out,← HX1.out,← HX2.out,← HX3.out,← HX4.out] at hy;have HY:=k_ hy;clear hy;go_wp2_with fail;rw[← HSE.out];refine(vR S _ HSZ.out).mono ?_;rintro e w9 ⟨v,rfl,hown,hb9⟩;have hy9:=(fb_ hb9).heap HY.out (fun h=>h);have HB9:=k_ (HB8.out.trans (hb9.mono HB8.out.size));obtain⟨⟨d0,d1,d2,d3,d4⟩,_⟩:=aB hy9;obtain⟨ec,hec⟩:∃ ec,ec=(bZ S).2:=⟨_,rfl⟩;rw[← hec];have HEC:=k_ (show decide (ec=0)=z from by rw[hec,HZ.out]);clear hy9 hb9 hec;obtain⟨a9,n9,c9,rfl⟩:=hown.slice;clear hown
  cases rb
  ·go_wp2_with fail
   go_ret
   exact⟨rfl,HB9.out⟩
  ·go_wp2_with fail
   refine(jZ w9 ⟨x0,x1,x2,x3,x4⟩).mono ?_;rw[← HCC.out];rintro e w10 ⟨rfl,hb10⟩;have HB10:=k_ (HB9.out.trans (hb10.mono HB9.out.size));clear hb10 d0 d1 d2 d3 d4;rw[← HQ.out]
   cases q
   ·go_wp2_with fail
    go_ret
    exact⟨rfl,HB10.out⟩
   ·go_wp2_with fail
    go_ret
    exact⟨by rw[← HEC.out];simp;rfl,HB10.out⟩
end Go.Proofs.YtlofbhoicbemnaaGreatDoor.Tk
namespace Go.Proofs.YtlofbhoicbemnaaGreatDoor
open Go.ChangeShapes Go.WideShapes Go.ChangeAt Go.RowKit
theorem DR {w:World} {B:Nat} {v:Value} {l:List Ent} (h:Own qp w B v l):∃ a c,v=.slice a l.length c∧dz w (fun k=>v.ownBlock=some k) a l:=by
 obtain⟨a,c,e,hc⟩:=aP h;refine⟨a,c,e,fun j hj=>?_⟩;obtain⟨b,h1,h2,h3⟩:=hc j hj;have h4:=h3 0 (.int .i64 l[j].who) rfl;have h5:=h3 1 (.int .i64 l[j].n) rfl;have hsz:(qp).size=2:=rfl;rw[hsz] at h4 h5;exact⟨b,0,h1,by rw[e,h1];rfl,by rw[Nat.zero_add];exact h4,by rw[Nat.zero_add];exact h5⟩
theorem dz.dom {w:World} {D D':Nat→Prop} {a:Option Addr} {l:List Ent} (h:dz w D a l) (hd:∀ k,D k→D' k):dz w D' a l:=fun j hj=>by
 obtain⟨b,o,h1,h2,h3⟩:=h j hj;exact⟨b,o,h1,hd b h2,h3⟩
theorem oH (w:World) (D D':Nat→Prop) (a a':Option Addr) (l:List Ent) (c c':Nat) (hl:dz w D a l) (hm:dz w D' a' l) (hn:l.length≤1000000) :
  Calls Tryz.prog 12 #[.slice a l.length c,.slice a' l.length c'] w fun e w'=>e=.returned (.bool true)∧∃ n,w'=w.drewN n:=by
 have h1:((l.length:Int) != (l.length:Int))=false:=by rw[bne_eq_false_iff_eq]
 have HL:=k_ hl;clear hl;have HM:=k_ hm;clear hm
 go_enter Tryz.func12,Tryz.ntmps12
 go_wp2_with fail;clear h1
 go_loopw [5] (fun i wr=>∃ k:Nat,k≤l.length∧i=.int .i64 k∧∃ n,wr=w.drewN n) (fun i _=>l.length - (intOf i).toNat)
 case atStart=>exact⟨0,Nat.zero_le _,rfl,0,rfl⟩
 case round =>
  obtain⟨k,hk,rfl,n,hwr⟩:=hrel
  by_cases hlt:k<l.length
  ·obtain⟨b,o,rfl,_,hx⟩:=HL.out k hlt
   obtain⟨b',o',rfl,_,hy⟩:=HM.out k hlt;obtain⟨p0,p1⟩:xE wr b (o+k * 2) l[k]:=by rw[hwr];exact hx
   obtain⟨r0,r1⟩:xE wr b' (o'+k * 2) l[k]:=by rw[hwr];exact hy
   clear hx hy;generalize l[k]=x at *;have HWR:=k_ hwr;clear hwr;go_wp2_with fail
   go_quiet (fail)
   go_wp2_with fail
   go_roundw
   case rel=>exact⟨k+1,by omega,by go_num,by rw[HWR.out];exact⟨_,by first | rfl | (simp;rfl)⟩⟩
   case measure=>simp[intOf];omega
  ·have HWR:=k_ hwr;clear hwr
   go_wp2_with fail
   go_ret
   exact⟨rfl,by rw[HWR.out];exact⟨_,rfl⟩⟩
end Go.Proofs.YtlofbhoicbemnaaGreatDoor
namespace Go.Proofs.YtlofbhoicbemnaaGreatDoor.Tk
open Go.ChangeShapes Go.WideShapes Go.ChangeAt Go.RowKit Go.Maps
theorem Jz (t:Array Value) (W:World) (B:Nat) {y0 y1 y2 y3 y4:Value} (h0:t.getD 0 undef=.pointer (some ⟨B,0,none⟩))
  (hb:W.heap[B]?=some (.cells #[y0,y1,y2,y3,y4] 50)) :
  (results Tryz.f22 t).run Tryz.prog W=.ok (.agg #[y0,y1,y2,y3,y4]) W:=by
 obtain⟨⟨g0,g1,g2,g3,g4⟩,_⟩:=aB hb;rw[Array.getD_eq_getD_getElem?] at h0
 simp[results,Tryz.results22,go_sem,g0,g1,g2,g3,g4,h0]
theorem vk (w:World):Calls Tryz.prog 22 #[] w fun e w'=>e=.returned qw.val∧Below w.heap.size w w':=by
 go_enter Tryz.func22,Tryz.ntmps22
 go_wp2_with fail;refine bodyPost_ret (Jz _ _ w.heap.size rfl (ai w (.cells #[.int .i64 8,.int .i64 16,.int .i64 512,.int .i64 40,.int .i64 8] 50))) rfl ⟨rfl,?_⟩;exact(Below.refl _ _).alloc (Nat.le_refl _) _
end Go.Proofs.YtlofbhoicbemnaaGreatDoor.Tk
