/- A machine as it lies in memory; what is asked of it. Walks: may a configuration be? Walks: may a configuration be (besomlaw24.Right)? .. -/
import Derived.Test.YtlofbhoicbemnaaGreatDoorGAl
set_option linter.unusedVariables false
set_option linter.unusedSimpArgs false
set_option maxRecDepth 100000
set_option maxHeartbeats 1600000
namespace Go.Proofs.YtlofbhoicbemnaaGreatDoor.Tk
open Go.ChangeShapes Go.WideShapes Go.ChangeAt Go.RowKit Go.Maps
structure WoD where (c0 c1 c2:Value) (n3 n4 n5 n6 n7:Int) (mb hb pb:Nat) (br ph cy si:Int) (tk hd gl ot:Value) (sr st cd:Int)
def WoD.cells (X:WoD):Array Value:=#[X.c0,X.c1,X.c2,.int .i64 X.n3,.int .i64 X.n4,.int .i64 X.n5,.int .i64 X.n6,.int .i64 X.n7,.pointer (some ⟨X.mb,0,none⟩),.pointer (some ⟨X.hb,0,none⟩),.pointer (some ⟨X.pb,0,none⟩),.int .u64 X.br,.int .i64 X.ph,.int .i64 X.cy,.int .i64 X.si,X.tk,X.hd,X.gl,X.ot,.int .i64 X.sr,.int .i64 X.st,.int .i64 X.cd]
def dw (w:World) (wb:Nat) (X:WoD):Prop:=w.heap[wb]?=some (.cells X.cells 175)
theorem dw.fr {F:Nat→Prop} {w w':World} {wb:Nat} {X:WoD} (h:dw w wb X) (hf:Fr F w w') (hn:¬ F wb):dw w' wb X:=hf.heap h hn
theorem dw.below {w w':World} {wb:Nat} {X:WoD} (h:dw w wb X) (hb:Below w.heap.size w w'):dw w' wb X:=h.fr (fb_ hb) (fun h=>h)
theorem dw.lt {w:World} {wb:Nat} {X:WoD} (h:dw w wb X):wb<w.heap.size:=by
 rcases Nat.lt_or_ge wb w.heap.size with h1 | h1
 ·exact h1
 ·unfold dw at h;rw[Array.getElem?_eq_none h1] at h;cases h
theorem dw.cell {w:World} {wb:Nat} {X:WoD} (h:dw w wb X) (j:Nat):w.cell? ⟨wb,j,none⟩=X.cells[j]?∧w.frozen? ⟨wb,j,none⟩=false:=aa h j
theorem oC (w:World) (wb:Nat) (X:WoD) (h:dw w wb X) (hs:0≤X.sr∧X.sr≤1000000) :
  Calls Tryz.prog 122 #[.pointer (some ⟨wb,0,none⟩)] w fun e w'=>e=.returned (.int .i64 X.sr)∧dw w' wb { X with sr:=X.sr+1 }∧Fr (fun k=>k=wb) w w':=by
 have f:=(h.cell 19).2;have c:w.cell? ⟨wb,19,none⟩=some (.int .i64 X.sr):=(h.cell 19).1;obtain⟨s,hs1⟩:∃ s,s=X.sr:=⟨_,rfl⟩;obtain⟨s1,hs2⟩:∃ s1,s1=s+1:=⟨_,rfl⟩;have i1:IntKind.i64.wrap (s+1)=s1:=by rw[hs2];exact IntWalk.i64_in _ (by omega)
 have i2:IntKind.i64.wrap (s1 - 1)=s:=by rw[show s1 - 1=s from by omega];exact IntWalk.i64_in _ (by omega)
 have hf:Fr (fun k=>k=wb) w (w.setCell ⟨wb,19,none⟩ (.int .i64 s1)):=(Fr.refl (fun k=>k=wb) w).setCell (p:=⟨wb,19,none⟩) (fun _=>rfl) _;have hr:dw (w.setCell ⟨wb,19,none⟩ (.int .i64 s1)) wb { X with sr:=s+1 }:=by rw[← hs2];exact ag h 19 (.int .i64 s1)
 rw[← hs1] at c ⊢;have HP:=k_ (And.intro hr hf);clear hr hf hs2 hs1 hs h
 go_enter Tryz.func122,Tryz.ntmps122
 go_wp2_with fail
 go_ret
 exact⟨rfl,HP.out⟩
theorem tO (w:World) (wb:Nat) (X:WoD) (h:dw w wb X) :
  Calls Tryz.prog 101 #[.pointer (some ⟨wb,0,none⟩)] w fun e w'=>e=.returned (.bool false)∧w=w':=by
 have c:w.cell? ⟨wb,9,none⟩=some (.pointer (some ⟨X.hb,0,none⟩)):=(h.cell 9).1;clear h
 go_enter Tryz.func101,Tryz.ntmps101
 go_wp2_with fail
 go_ret
 exact⟨rfl,rfl⟩
theorem zK (w:World) (wb:Nat) (X:WoD) (h:dw w wb X) :
  Calls Tryz.prog 86 #[.pointer (some ⟨wb,0,none⟩)] w fun e w'=>e=.returned (.int .i64 X.st)∧w=w':=by
 have nn:=tO w wb X h;have c:w.cell? ⟨wb,20,none⟩=some (.int .i64 X.st):=(h.cell 20).1;clear h;have NN:=k_ nn;clear nn
 go_enter Tryz.func86,Tryz.ntmps86
 go_wp2_with fail;refine NN.out.mono ?_;rintro e w1 ⟨rfl,rfl⟩;go_wp2_with fail
 go_ret
 exact⟨rfl,rfl⟩
structure Cfg where (pages first limit trigger pile:Int)
def Cfg.val (c:Cfg):Value:=.agg #[.int .i64 c.pages,.int .i64 c.first,.int .i64 c.limit,.int .i64 c.trigger,.int .i64 c.pile]
def Cfg.row (c:Cfg):Nat→Int × Int × Int
 | 0=>(1,c.pages,64)
 | 1=>(1,c.first,c.limit)
 | 2=>(1,c.limit,4096)
 | 3=>(1,c.trigger,1000000)
 | _=>(1,c.pile,1000)
def Cfg.okAt (c:Cfg) (k:Nat):Prop:=(c.row k).1≤(c.row k).2.1∧(c.row k).2.1≤(c.row k).2.2
instance (c:Cfg) (k:Nat):Decidable (c.okAt k):=by unfold Cfg.okAt;infer_instance
def Cfg.ok (c:Cfg):Prop:=∀ k,k<5→c.okAt k
instance (c:Cfg):Decidable c.ok:=by unfold Cfg.ok;infer_instance
theorem kS (w:World) (c:Cfg) :
  Calls Tryz.prog 46 #[c.val] w fun e w'=>e=.returned (.int .i64 (if c.ok then 0 else 1))∧Below w.heap.size w w':=by
 obtain⟨r,hr⟩:∃ r:Int,r=if c.ok then 0 else 1:=⟨_,rfl⟩;rw[← hr];have hyes:(∀ k,k<5→c.okAt k)→r=0:=fun h=>by rw[hr];exact if_pos h
 have hnot:∀ k,k<5→¬ c.okAt k→r=1:=fun k hk h=>by rw[hr,if_neg (fun h2=>h (h2 k hk))]
 have HYES:=k_ hyes;clear hyes;have HNOT:=k_ hnot;clear hnot;clear hr;have hb0:=(Below.refl w.heap.size w).alloc (Nat.le_refl _) (.cells #[.int .i64 c.pages,.int .i64 c.first,.int .i64 c.limit,.int .i64 c.trigger,.int .i64 c.pile] 50);obtain⟨W,hW⟩:∃ W,W=(w.alloc (.cells #[.int .i64 c.pages,.int .i64 c.first,.int .i64 c.limit,.int .i64 c.trigger,.int .i64 c.pile] 50)).alloc (.cells #[.int .i64 1,.int .i64 c.pages,.int .i64 64,.int .i64 1,.int .i64 c.first,.int .i64 c.limit,.int .i64 1,.int .i64 c.limit,.int .i64 4096,.int .i64 1,.int .i64 c.trigger,.int .i64 1000000,.int .i64 1,.int .i64 c.pile,.int .i64 1000] 121):=⟨_,rfl⟩;obtain⟨y,hy⟩:∃ y,y=w.heap.size+1:=⟨_,rfl⟩;have hrw:=ai (w.alloc (.cells #[.int .i64 c.pages,.int .i64 c.first,.int .i64 c.limit,.int .i64 c.trigger,.int .i64 c.pile] 50)) (.cells #[.int .i64 1,.int .i64 c.pages,.int .i64 64,.int .i64 1,.int .i64 c.first,.int .i64 c.limit,.int .i64 1,.int .i64 c.limit,.int .i64 4096,.int .i64 1,.int .i64 c.trigger,.int .i64 1000000,.int .i64 1,.int .i64 c.pile,.int .i64 1000] 121);have hb1:=hb0.alloc hb0.size (.cells #[.int .i64 1,.int .i64 c.pages,.int .i64 64,.int .i64 1,.int .i64 c.first,.int .i64 c.limit,.int .i64 1,.int .i64 c.limit,.int .i64 4096,.int .i64 1,.int .i64 c.trigger,.int .i64 1000000,.int .i64 1,.int .i64 c.pile,.int .i64 1000] 121);rw[← hW] at hb1 hrw;rw[show (w.alloc (.cells #[.int .i64 c.pages,.int .i64 c.first,.int .i64 c.limit,.int .i64 c.trigger,.int .i64 c.pile] 50)).heap.size=y from by rw[hy];simp] at hrw;have hrow:∀ k,k<5→W.cell? ⟨y,k * 3,none⟩=some (.int .i64 (c.row k).1)∧W.cell? ⟨y,k * 3+1,none⟩=some (.int .i64 (c.row k).2.1)∧W.cell? ⟨y,k * 3+2,none⟩=some (.int .i64 (c.row k).2.2):=fun k hk=>by
  have h5:k=0∨k=1∨k=2∨k=3∨k=4:=by omega
  rcases h5 with rfl | rfl | rfl | rfl | rfl <;> exact⟨(aa hrw _).1,(aa hrw _).1,(aa hrw _).1⟩
 have HROW:=k_ hrow;have HW:=k_ hW;have HY:=k_ hy;have HB1:=k_ hb1;clear hrow hW hy hb1 hb0 hrw;unfold Cfg.val
 go_enter Tryz.func46,Tryz.ntmps46
 go_wp2_with fail;rw[← HW.out,← HY.out]
 go_loopw [24] (fun i wr=>∃ k:Nat,k≤5∧i=.int .i64 k∧Below W.heap.size W wr∧∀ j,j<k→c.okAt j) (fun i _=>5 - (intOf i).toNat)
 case atStart=>exact⟨0,by omega,rfl,Below.refl _ _,fun j hj=>by omega⟩
 case round =>
  obtain⟨k,hk,rfl,hB,hok⟩:=hrel
  by_cases hlt:k<5
  ·obtain⟨q0,q1,q2⟩:=HROW.out k hlt
   have q0:=ae hB q0;have q1:=ae hB q1;have q2:=ae hB q2;have hno:=HNOT.out k hlt;have hnx:c.okAt k→∀ j,j<k+1→c.okAt j:=fun h j hj=>by
    rcases Nat.lt_or_ge j k with h1 | h1
    ·exact hok j h1
    ·obtain rfl:j=k:=by omega
     exact h
   have hko:c.okAt k↔(c.row k).1≤(c.row k).2.1∧(c.row k).2.1≤(c.row k).2.2:=Iff.rfl;generalize (c.row k).1=ra at *;generalize (c.row k).2.1=rb at *;generalize (c.row k).2.2=rc at *;obtain⟨k1,hk1⟩:∃ k1,k1=k+1:=⟨_,rfl⟩;have iw:IntKind.i64.wrap ((k:Int)+1)=(k1:Int):=by rw[show ((k:Int)+1)=(k1:Int) from by omega];exact IntWalk.i64_in _ (by omega)
   have hBa:=hB.alloc hB.size (.cells #[.int .i64 ra,.int .i64 rb,.int .i64 rc] 121);have HBa:=k_ hBa;have HE:=k_ (HB1.out.trans (hBa.mono HB1.out.size));have hk15:k1≤5:=by omega
   have HK1:=k_ hk1;clear hB hok hBa hk1
   by_cases c1:rb<ra
   ·have h1:r=1:=hno (fun h=>by have:=hko.1 h;omega)
    clear hko hno hnx HROW;have H1:=k_ h1;clear h1;go_wp2_with fail
    go_ret
    exact⟨by have e:=H1.out;subst e;rfl,HE.out⟩
   ·by_cases c2:rc<rb
    ·have h1:r=1:=hno (fun h=>by have:=hko.1 h;omega)
     clear hko hno hnx HROW;have H1:=k_ h1;clear h1;go_wp2_with fail
     go_ret
     exact⟨by have e:=H1.out;subst e;rfl,HE.out⟩
    ·have HX:=k_ (hnx (hko.2 ⟨by omega,by omega⟩))
     clear hko hno hnx;go_wp2_with fail
     go_roundw
     case rel=>exact⟨k1,hk15,by go_num,HBa.out,by rw[HK1.out];exact HX.out⟩
     case measure=>have:=HK1.out;simp[intOf];omega
  ·obtain rfl:k=5:=by omega
   have H0:=k_ (HYES.out hok);have HE:=k_ (HB1.out.trans (hB.mono HB1.out.size));clear hok hB;go_wp2_with fail
   go_ret
   exact⟨by have e:=H0.out;subst e;rfl,HE.out⟩
theorem Cfg.ok_iff (c:Cfg):c.ok↔(1≤c.pages∧c.pages≤64)∧(1≤c.first∧c.first≤c.limit)∧(1≤c.limit∧c.limit≤4096)∧(1≤c.trigger∧c.trigger≤1000000)∧(1≤c.pile∧c.pile≤1000):=by
 refine⟨fun h=>⟨h 0 (by omega),h 1 (by omega),h 2 (by omega),h 3 (by omega),h 4 (by omega)⟩,fun⟨h0,h1,h2,h3,h4⟩ k hk=>?_⟩;have h5:k=0∨k=1∨k=2∨k=3∨k=4:=by omega
 rcases h5 with rfl | rfl | rfl | rfl | rfl
 ·exact h0
 ·exact h1
 ·exact h2
 ·exact h3
 ·exact h4
theorem jZ (w:World) (c:Cfg) :
  Calls Tryz.prog 17 #[c.val] w fun e w'=>e=.returned (.bool (decide c.ok))∧Below w.heap.size w w':=by
 obtain⟨r,hr⟩:∃ r,r=decide c.ok:=⟨_,rfl⟩;rw[← hr];have hno:¬ ((1≤c.pages∧c.pages≤64)∧(1≤c.first∧c.first≤c.limit)∧(1≤c.limit∧c.limit≤4096)∧(1≤c.trigger∧c.trigger≤1000000)∧(1≤c.pile∧c.pile≤1000))→r=false:=fun h=>by rw[hr];exact decide_eq_false (fun h2=>h ((Cfg.ok_iff c).1 h2))
 have hyes:((1≤c.pages∧c.pages≤64)∧(1≤c.first∧c.first≤c.limit)∧(1≤c.limit∧c.limit≤4096)∧(1≤c.trigger∧c.trigger≤1000000)∧(1≤c.pile∧c.pile≤1000))→r=true:=fun h=>by rw[hr];exact decide_eq_true ((Cfg.ok_iff c).2 h)
 have HB:=k_ ((Below.refl w.heap.size w).alloc (Nat.le_refl _) (.cells #[.int .i64 c.pages,.int .i64 c.first,.int .i64 c.limit,.int .i64 c.trigger,.int .i64 c.pile] 50));obtain⟨pages,first,limit,trigger,pile⟩:=c
 dsimp only at hno hyes HB
 have HNO:=k_ hno;have HYES:=k_ hyes;clear hr hno hyes;unfold Cfg.val
 dsimp only
 go_enter Tryz.func17,Tryz.ntmps17
 by_cases c1:1≤pages
 case neg =>
  have hr:=HNO.out (by simp[*] at *;try omega);subst hr;go_wp2_with fail
  go_ret
  exact⟨rfl,HB.out⟩
 by_cases c2:pages≤64
 case neg =>
  have hr:=HNO.out (by simp[*] at *;try omega);subst hr;go_wp2_with fail
  go_ret
  exact⟨rfl,HB.out⟩
 by_cases c3:1≤limit
 case neg =>
  have hr:=HNO.out (by simp[*] at *;try omega);subst hr;go_wp2_with fail
  go_ret
  exact⟨rfl,HB.out⟩
 by_cases c4:limit≤4096
 case neg =>
  have hr:=HNO.out (by simp[*] at *;try omega);subst hr;go_wp2_with fail
  go_ret
  exact⟨rfl,HB.out⟩
 by_cases c5:1≤first
 case neg =>
  have hr:=HNO.out (by simp[*] at *;try omega);subst hr;go_wp2_with fail
  go_ret
  exact⟨rfl,HB.out⟩
 by_cases c6:first≤limit
 case neg =>
  have hr:=HNO.out (by simp[*] at *;try omega);subst hr;go_wp2_with fail
  go_ret
  exact⟨rfl,HB.out⟩
 by_cases c7:1≤trigger
 case neg =>
  have hr:=HNO.out (by simp[*] at *;try omega);subst hr;go_wp2_with fail
  go_ret
  exact⟨rfl,HB.out⟩
 by_cases c8:trigger≤1000000
 case neg =>
  have hr:=HNO.out (by simp[*] at *;try omega);subst hr;go_wp2_with fail
  go_ret
  exact⟨rfl,HB.out⟩
 by_cases c9:1≤pile
 case neg =>
  have hr:=HNO.out (by simp[*] at *;try omega);subst hr;go_wp2_with fail
  go_ret
  exact⟨rfl,HB.out⟩
 by_cases c10:pile≤1000
 case neg =>
  have hr:=HNO.out (by simp[*] at *;try omega);subst hr;go_wp2_with fail
  go_ret
  exact⟨rfl,HB.out⟩
 have hr:=HYES.out ⟨⟨c1,c2⟩,⟨c5,c6⟩,⟨c3,c4⟩,⟨c7,c8⟩,c9,c10⟩;subst hr;go_wp2_with fail
 go_ret
 exact⟨rfl,HB.out⟩
theorem tu (a b c d e:Int) (w:World):(Op.equalIn 10000 50 (.agg #[.int .i64 a,.int .i64 b,.int .i64 c,.int .i64 d,.int .i64 e]) (.agg #[.int .i64 a,.int .i64 b,.int .i64 c,.int .i64 d,.int .i64 e])).run Tryz.prog w=.ok true w:=by
 go_simp
end Go.Proofs.YtlofbhoicbemnaaGreatDoor.Tk
namespace Go.Proofs.YtlofbhoicbemnaaGreatDoor
open Go.ChangeShapes Go.WideShapes Go.ChangeAt Go.RowKit
variable {H:Type} {enc:TypeId × Value→H}
theorem wP:Tryz.prog.cellsOf 50=5:=by kernel_rfl
theorem xY {w:World} {base b:Nat} {v:Value} {sp:Nat→Bool} {d:DataW H} {p:List MemPlace} (hv:Value.okWide Tryz.prog w .any base 50 v)
  (h:DataW.Trod enc Tryz.prog w b sp true 50 v d p):∃ c:Tk.Cfg,v=c.val:=by
 obtain⟨cs,rfl,hsz⟩:=okWide_struct Tryz.underlying50 hv;obtain⟨fuel,hf⟩:=h;obtain⟨xs,m,_,_,hl,hlen,hff⟩:=DataW.trod_struct Tryz.underlying50 hf;rw[show (Value.agg cs).cells=cs from rfl] at hl hff;rw[wP] at hl;obtain⟨L⟩:=cs
 dsimp only at hl hff
 match L,hl,xs,hlen with
 | [c0,c1,c2,c3,c4],_,[y0,y1,y2,y3,y4],_ =>
   have f0:DataW.trod enc Tryz.prog w b sp true m 3 (([c0,c1,c2,c3,c4].drop 0).take (Tryz.prog.cellsOf 3))=some y0:=hff 0 _ rfl;have f1:DataW.trod enc Tryz.prog w b sp true m 3 (([c0,c1,c2,c3,c4].drop 1).take (Tryz.prog.cellsOf 3))=some y1:=hff 1 _ rfl;have f2:DataW.trod enc Tryz.prog w b sp true m 3 (([c0,c1,c2,c3,c4].drop 2).take (Tryz.prog.cellsOf 3))=some y2:=hff 2 _ rfl;have f3:DataW.trod enc Tryz.prog w b sp true m 3 (([c0,c1,c2,c3,c4].drop 3).take (Tryz.prog.cellsOf 3))=some y3:=hff 3 _ rfl;have f4:DataW.trod enc Tryz.prog w b sp true m 3 (([c0,c1,c2,c3,c4].drop 4).take (Tryz.prog.cellsOf 3))=some y4:=hff 4 _ rfl;rw[gJ.1] at f0 f1 f2 f3 f4;obtain⟨z0,rfl,_⟩:=dD f0;obtain⟨z1,rfl,_⟩:=dD f1;obtain⟨z2,rfl,_⟩:=dD f2;obtain⟨z3,rfl,_⟩:=dD f3;obtain⟨z4,rfl,_⟩:=dD f4;exact⟨⟨z0,z1,z2,z3,z4⟩,rfl⟩
end Go.Proofs.YtlofbhoicbemnaaGreatDoor
namespace Go.Proofs.YtlofbhoicbemnaaGreatDoor
open Go.ChangeShapes Go.WideShapes Go.ChangeAt Go.RowKit Go.Maps
def Fp (l:List (List Int)) (k:Nat):Prop:=∀ j,j<k→jO l.length (l[j]?.getD [])=0
theorem zT (l:List (List Int)) (h16:¬ 16<l.length) (i:Nat) (hi:i<l.length) (hp:Fp l i) (hne:jO l.length l[i]≠0):bU l=jO l.length l[i]:=by
 unfold bU;rw[if_neg h16];have e:jO l.length (l[i]?.getD [])=jO l.length l[i]:=by simp[hi]
 rw[mf (k:=i) hi hp (by rw[e];exact hne),e]
theorem xk (l:List (List Int)) (h16:¬ 16<l.length) (hp:Fp l l.length):bU l=0:=by
 unfold bU;rw[if_neg h16,jd hp]
theorem C8 (l:List (List Int)) (k:Nat) (hk:k<l.length) (hp:Fp l k) (h:jO l.length l[k]=0):Fp l (k+1):=fun j hj=>by
 by_cases he:j=k
 ·subst he
  simpa[hk] using h
 ·exact hp j (by omega)
theorem vF {n:Nat} {x:List Int} (h:x.length<1∨16<x.length):jO n x=1:=if_pos h
theorem Ff {n:Nat} {x:List Int} (h:¬ (x.length<1∨16<x.length)) (h2:x.all (cK · n)=false):jO n x=3:=by unfold jO;rw[if_neg h,if_neg (by rw[h2];simp)]
theorem DV {n:Nat} {x:List Int} (h:¬ (x.length<1∨16<x.length)) (h2:x.all (cK · n)=true):jO n x=0:=by unfold jO;rw[if_neg h,if_pos h2]
theorem Dh {P:Int→Bool} {l:List Int} {k:Nat} (hk:k<l.length) (h:(l.take k).all P=true):(l.take (k+1)).all P=P l[k]:=by
 rw[aK l k hk,List.all_append,h]
 simp
theorem Ha {P:Int→Bool} {l:List Int} {k:Nat} (hk:k<l.length) (h:P l[k]=false):l.all P=false:=by
 rw[List.all_eq_false];exact⟨l[k],List.getElem_mem hk,by simp[h]⟩
theorem mF (w:World) (D:Nat→Prop) (hD:∀ k,D k→k<w.heap.size) (a:Option Addr) (l:List (List Int)) (c:Nat) (hl:xW w D a l) (hbd:∀ s ∈ l,∀ x ∈ s,aJ x) (hn:l.length≤3000) (hne:∀ s ∈ l,s.length≤3000) :
  Calls Tryz.prog 119 #[.slice a l.length c] w fun e w'=>e=.returned (.int .i64 (bU l))∧Below w.heap.size w w':=by
 by_cases h16:16<l.length
 ·rw[show bU l=1 from if_pos h16]
  have h17:(16:Int)<l.length:=by omega
  go_enter Tryz.func119,Tryz.ntmps119
  go_wp2_with fail
  go_ret
  exact⟨rfl,Below.refl _ _⟩
 have h17:¬ (16:Int)<l.length:=by omega
 obtain⟨E,hE⟩:∃ E,E=bU l:=⟨_,rfl⟩;rw[← hE];have HIT:=fun i hi hp hne=>k_ (zT l h16 i hi hp hne)
 have OKK:=k_ (xk l h16);have kn:=qo w l.length false (by omega);have hls:∀ wr,Below w.heap.size w wr→xW wr D a l:=fun wr h=>hl.fr (fb_ h) (fun _ _ h=>h)
 have ht:Tryz.prog.underlying 258=some (.map Cq.k 3):=Tryz.underlying258;have HE:=k_ hE;clear h16 hE hl;have HLS:=k_ hls;clear hls;have KN:=k_ kn;clear kn;have HT:=k_ ht;clear ht;have HNE:=k_ hne;clear hne;have HBD:=k_ hbd;clear hbd;have HD:=k_ hD;clear hD
 go_enter Tryz.func119,Tryz.ntmps119
 go_wp2_with fail;refine KN.out.mono ?_;rintro e w1 ⟨b,m,rfl,hm,hbb,hB⟩;have hm:∀ wr,Below w1.heap.size w1 wr→mJ wr b m (dZ l.length false):=fun wr h=>hm.below h
 have hB1:∀ wr,Below w1.heap.size w1 wr→Below w.heap.size w wr:=fun wr h=>hB.trans (h.mono hB.size)
 have HM:=k_ hm;clear hm;have HB:=k_ hB;clear hB;have HB1:=k_ hB1;clear hB1;go_wp2_with fail
 go_loopw [16] (fun i wr=>∃ k:Nat,k≤l.length∧i=.int .i64 k∧Below w1.heap.size w1 wr∧Fp l k) (fun i _=>l.length - (intOf i).toNat)
 case atStart=>exact⟨0,Nat.zero_le _,rfl,Below.refl _ _,fun j hj=>absurd hj (by omega)⟩
 case round =>
  obtain⟨k,hk,rfl,hR,hall⟩:=hrel;generalize wr=wo at *
  by_cases hlt:k<l.length
  ·obtain⟨b0,o,rfl,_,a',c',hcell,hints⟩:=HLS.out wo (HB1.out wo hR) k hlt
   have hints:∀ wz,Below wo.heap.size wo wz→aQ wz D a' l[k]:=fun wz h=>hints.fr (fb_ h) (fun _ _ h=>h)
   have hx:=HNE.out l[k] (List.getElem_mem hlt);have hbx:=HBD.out l[k] (List.getElem_mem hlt);have hit:=fun hne=>(HIT k hlt hall hne).out
   have suc:=C8 l k hlt hall;generalize l[k]=x at *;have hx0:(x.length:Int)≤3000:=by omega
   have hR2:∀ wz,Below (wo.heap.size+1) (wo.alloc (.cells #[.slice a' x.length c'] 82)) wz→Below w1.heap.size w1 wz:=fun wz h=>(hR.alloc hR.size _).trans (h.mono (by have:=hR.size;omega))
   have hR2':∀ wz,Below (wo.heap.size+1) (wo.alloc (.cells #[.slice a' x.length c'] 82)) wz→Below wo.heap.size wo wz:=fun wz h=>((Below.refl _ _).alloc (Nat.le_refl _) _).trans (h.mono (by omega))
   have hf0:=Below.refl (wo.heap.size+1) (wo.alloc (.cells #[.slice a' x.length c'] 82))
   by_cases c1:(x.length:Int)<1
   ·have e:=HE.out
    have e1:jO l.length x=1:=vF (by omega);rw[hit (by rw[e1];decide),e1] at e;subst e;have hbf:=HB1.out _ (hR2 _ hf0);clear hit suc hall hints e1 hR hR2 hR2' hf0 hbx;have HBF:=k_ hbf;clear hbf;go_wp2_with fail
    go_ret
    exact⟨rfl,HBF.out⟩
   by_cases c2:(16:Int)<x.length
   ·have e:=HE.out
    have e1:jO l.length x=1:=vF (by omega);rw[hit (by rw[e1];decide),e1] at e;subst e;have hbf:=HB1.out _ (hR2 _ hf0);clear hit suc hall hints e1 hR hR2 hR2' hf0 hbx;have HBF:=k_ hbf;clear hbf;go_wp2_with fail
    go_ret
    exact⟨rfl,HBF.out⟩
   have hno:=fun h=>Ff (n:=l.length) (x:=x) (by omega) h
   have hyes:=fun h=>DV (n:=l.length) (x:=x) (by omega) h
   have hbw2:=HB1.out _ (hR2 _ hf0);have hrr:=hR2 _ hf0;have hm2:=HM.out _ hrr;have hints:=hints _ (hR2' _ hf0);clear hR2 hR2' hf0;have HIT:=k_ hit;clear hit;have SUC:=k_ suc;clear suc;have HNO:=k_ hno;clear hno;have HYES:=k_ hyes;clear hyes;have HINTS:=k_ hints;clear hints;have HR:=k_ hR;clear hR;have HBW2:=k_ hbw2;clear hbw2;have HRR:=k_ hrr;clear hrr;have HM2:=k_ hm2;clear hm2;have HBX:=k_ hbx;clear hbx;have HALL:=k_ hall;clear hall;go_wp2_with fail
   go_loopw [33] (fun i wz=>∃ q:Nat,q≤x.length∧i=.int .i64 q∧wz=wo.alloc (.cells #[.slice a' x.length c'] 82)∧(x.take q).all (cK · l.length)=true) (fun i _=>x.length - (intOf i).toNat)
   case atStart=>exact⟨0,Nat.zero_le _,rfl,by first | rfl | trivial,rfl⟩
   case round =>
    obtain⟨q,hq,rfl,hwz,hall⟩:=hrel;have HWZ:=k_ hwz;clear hwz
    by_cases hlq:q<x.length
    ·obtain⟨b',o',rfl,_,hy⟩:=HINTS.out q hlq
     have hy:wr.cell? ⟨b',o'+q,none⟩=some (.int .i64 x[q]):=by rw[HWZ.out];exact hy
     have hsn:=Dh hlq hall;have hn2:=Ha (P:=(cK · l.length)) hlq
     try dsimp only at hsn hn2
     have hyb:=HBX.out x[q] (List.getElem_mem hlq);generalize x[q]=y at *;have hm3:mJ wr b m (dZ l.length false):=by rw[HWZ.out];exact HM2.out
     cases hf:cK y l.length
     ·have e1:=HNO.out (hn2 hf)
      have e:=HE.out;rw[HIT.out (by rw[e1];decide),e1] at e;subst e;have hkf:dZ l.length false y=none:=by
       have:=lU y l.length;rw[hf] at this
       cases hh:dZ l.length false y with
       | none=>rfl
       | some v=>rw[hh] at this;cases this
      have hbw3:Below w.heap.size w wr:=by rw[HWZ.out];exact HBW2.out
      clear hsn hn2 hall hf e1;have HKF:=k_ hkf;clear hkf;have HM3:=k_ hm3;clear hm3;have HYB:=k_ hyb;clear hyb;have HBW3:=k_ hbw3;clear hbw3
      go_wp2_with (refine iF rfl (.tmp 37) (.tmp 38) 258 3 rfl HM3.out HT.out (dQ _) y HYB.out rfl rfl HKF.out ?_)
      go_ret
      exact⟨rfl,HBW3.out⟩
     ·rw[hf] at hsn
      obtain⟨v,hkf⟩:∃ v,dZ l.length false y=some v:=by
       have:=lU y l.length;rw[hf] at this
       cases hh:dZ l.length false y with
       | none=>rw[hh] at this;cases this
       | some v=>exact⟨v,rfl⟩
      have hv:=qz hkf;subst hv;clear hn2 hall hf;have HKF:=k_ hkf;clear hkf;have HM3:=k_ hm3;clear hm3;have HYB:=k_ hyb;clear hyb;have HSN:=k_ hsn;clear hsn
      go_wp2_with (refine pU rfl (.tmp 37) (.tmp 38) 258 3 rfl HM3.out HT.out (dQ _) y HYB.out rfl rfl 1 HKF.out ?_)
      go_roundw
      case rel=>exact⟨q+1,by omega,by go_num,HWZ.out,HSN.out⟩
      case measure=>simp[intOf];omega
    ·have hq':q=x.length:=by omega
     subst hq';rw[List.take_length] at hall;have hsu:=SUC.out (HYES.out hall);have hrz:Below w1.heap.size w1 wr:=by rw[HWZ.out];exact HRR.out
     clear hall;have HSU:=k_ hsu;clear hsu;have HRZ:=k_ hrz;clear hrz;go_wp2_with fail
     go_roundw
     case rel=>exact⟨k+1,by omega,by go_num,HRZ.out,HSU.out⟩
     case measure=>simp[intOf];omega
  ·have hk':k=l.length:=by omega
   subst hk';have e:=HE.out;rw[OKK.out hall] at e;subst e;have hbw2:=HB1.out _ hR;clear hall hR;have HBW2:=k_ hbw2;clear hbw2;go_wp2_with fail
   go_ret
   exact⟨rfl,HBW2.out⟩
end Go.Proofs.YtlofbhoicbemnaaGreatDoor
namespace Go.Proofs.YtlofbhoicbemnaaGreatDoor
open Go.ChangeShapes Go.WideShapes Go.ChangeAt Go.RowKit
def bQ (c0 c1 c2 d0 d3 d4:Value) (r s:Int) (i:Ins) (fn pc:Int):Array Value:=#[c0,c1,c2,d0,.int .i64 r,.int .i64 s,d3,d4,.int .i64 i.op,.int .i64 i.a,.int .i64 i.b,.int .i64 i.c,.int .i64 fn,.int .i64 pc]
def lH:Fun:=⟨[],0,0,[],[]⟩
def bD (p:Prg) (i:Ins):Fun:=(bF p i).getD lH
theorem Gd (w:World) (D:Nat→Prop):dP w D lH (.slice none 0 0) (.int .i64 0) (.int .i64 0) (.slice none 0 0) (.slice none 0 0) :=
 ⟨rfl,rfl,⟨none,0,rfl,fun j hj=>by cases hj⟩,⟨none,0,rfl,fun j hj=>by cases hj⟩,none,0,rfl,fun j hj=>by cases hj⟩
def fq (p:Prg) (i:Ins) (D:Nat→Prop) (w:World) (e:Ending) (w':World):Prop :=
 ∃ d0 d3 d4,e=.returned (.tuple #[.agg #[d0,.int .i64 (bD p i).result,.int .i64 (bD p i).slots,d3,d4],.bool (bF p i).isSome])∧dP w' D (bD p i) d0 (.int .i64 (bD p i).result) (.int .i64 (bD p i).slots) d3 d4∧Below w.heap.size w w'
theorem zQ (p:Prg) (i:Ins) (h:¬ (i.op=21∨i.op=23∨i.op=24)):bF p i=none:=by unfold bF;rw[if_neg (fun h2=>h h2.1)]
theorem l9 (p:Prg) (i:Ins) (h:au i.b p.funcs.length=false):bF p i=none:=by unfold bF;rw[if_neg (fun h2=>by rw[h] at h2;cases h2.2)]
theorem nO (p:Prg) (i:Ins) (k:Nat) (hk:k<p.funcs.length) (hb:i.b=k) (h:i.op=21∨i.op=23∨i.op=24):bF p i=some p.funcs[k]:=by
 unfold bF;rw[if_pos ⟨h,by rw[hb];simp[au];omega⟩,hb]
 simp[hk]
theorem jM {p:Prg} {i:Ins} {D:Nat→Prop} {w w':World} (hn:bF p i=none) (hb:Below w.heap.size w w'):fq p i D w (.returned (.tuple #[.agg #[.slice none 0 0,.int .i64 0,.int .i64 0,.slice none 0 0,.slice none 0 0],.bool false])) w':=by
 unfold fq bD;rw[hn];exact⟨_,_,_,rfl,Gd _ _,hb⟩
theorem lK {p:Prg} {i:Ins} {g:Fun} {D:Nat→Prop} {w w':World} {d0 d3 d4:Value} (hn:bF p i=some g) (hv:dP w' D g d0 (.int .i64 g.result) (.int .i64 g.slots) d3 d4) (hb:Below w.heap.size w w'):fq p i D w (.returned (.tuple #[.agg #[d0,.int .i64 g.result,.int .i64 g.slots,d3,d4],.bool true])) w':=by
 unfold fq bD;rw[hn];exact⟨_,_,_,rfl,hv,hb⟩
theorem fO {b:Int} {n:Nat} (h:au b n=true):∃ k:Nat,b=k∧k<n:=by
 simp[au] at h
 exact⟨b.toNat,by omega,by omega⟩
theorem nL (w:World) (D:Nat→Prop) (hD:∀ k,D k→k<w.heap.size) (p:Prg) (c0 c1 c2 d0 d3 d4:Value) (r s:Int) (i:Ins) (fn pc:Int) (hv:aD w D p c0 c1 c2) :
  Calls Tryz.prog 348 #[.agg (bQ c0 c1 c2 d0 d3 d4 r s i fn pc)] w (fq p i D w):=by
 unfold bQ;obtain⟨⟨a0,m0,rfl,_⟩,⟨a1,m1,rfl,_⟩,a2,m2,rfl,hfs⟩:=hv;have hb:=((Below.refl w.heap.size w).alloc (Nat.le_refl _) (.cells #[.slice a0 p.globals.length m0,.slice a1 p.shapes.length m1,.slice a2 p.funcs.length m2,d0,.int .i64 r,.int .i64 s,d3,d4,.int .i64 i.op,.int .i64 i.a,.int .i64 i.b,.int .i64 i.c,.int .i64 fn,.int .i64 pc] 360)).alloc (by simp) (.cells #[.slice none 0 0,.int .i64 0,.int .i64 0,.slice none 0 0,.slice none 0 0] 66);have hbx:=nz w #[.slice a0 p.globals.length m0,.slice a1 p.shapes.length m1,.slice a2 p.funcs.length m2,d0,.int .i64 r,.int .i64 s,d3,d4,.int .i64 i.op,.int .i64 i.a,.int .i64 i.b,.int .i64 i.c,.int .i64 fn,.int .i64 pc] #[.slice none 0 0,.int .i64 0,.int .i64 0,.slice none 0 0,.slice none 0 0] 360 66 _ (Below.refl _ _);have hl2:=ai (w.alloc (.cells #[.slice a0 p.globals.length m0,.slice a1 p.shapes.length m1,.slice a2 p.funcs.length m2,d0,.int .i64 r,.int .i64 s,d3,d4,.int .i64 i.op,.int .i64 i.a,.int .i64 i.b,.int .i64 i.c,.int .i64 fn,.int .i64 pc] 360)) (.cells #[.slice none 0 0,.int .i64 0,.int .i64 0,.slice none 0 0,.slice none 0 0] 66);rw[show (w.alloc (.cells #[.slice a0 p.globals.length m0,.slice a1 p.shapes.length m1,.slice a2 p.funcs.length m2,d0,.int .i64 r,.int .i64 s,d3,d4,.int .i64 i.op,.int .i64 i.a,.int .i64 i.b,.int .i64 i.c,.int .i64 fn,.int .i64 pc] 360)).heap.size=w.heap.size+1 from by simp] at hl2;obtain⟨W,hW⟩:∃ W,W=(w.alloc (.cells #[.slice a0 p.globals.length m0,.slice a1 p.shapes.length m1,.slice a2 p.funcs.length m2,d0,.int .i64 r,.int .i64 s,d3,d4,.int .i64 i.op,.int .i64 i.a,.int .i64 i.b,.int .i64 i.c,.int .i64 fn,.int .i64 pc] 360)).alloc (.cells #[.slice none 0 0,.int .i64 0,.int .i64 0,.slice none 0 0,.slice none 0 0] 66):=⟨_,rfl⟩;rw[← hW] at hb hl2 hbx;have q2:=hbx.1 2 _ rfl;have q8:=hbx.1 8 _ rfl;have q10:=hbx.1 10 _ rfl;have hfs:=hfs.fr (fb_ hb) (fun _ _ h=>h);have hd:∀ k,D k→¬ onB (w.heap.size+1) k:=fun k hk h=>by have:=hD k hk;unfold onB at h;omega
 obtain⟨_,f0,f1,f2,f3,f4⟩:=aB hl2;clear hbx hD;have HW:=k_ hW;clear hW;have HB:=k_ hb;clear hb;have HL2:=k_ hl2;clear hl2;have HFS:=k_ hfs;clear hfs;have HD:=k_ hd;clear hd;obtain⟨op,a,b,c⟩:=i
 dsimp only at q8 q10 ⊢
 by_cases h21:op=21
 ·subst h21
  by_cases hw:au b p.funcs.length=true
  case neg =>
   have hw':au b p.funcs.length=false:=by simpa using hw
   have wi:=dG W b p.funcs.length;rw[hw'] at wi;have hn:=l9 p ⟨21,a,b,c⟩ hw';have hr:=ag (ag (ag (ag (ag HL2.out 0 (.slice none 0 0)) 1 (.int .i64 0)) 2 (.int .i64 0)) 3 (.slice none 0 0)) 4 (.slice none 0 0);have hf:Fr (onB (w.heap.size+1)) W _:=(((((Fr.refl (onB (w.heap.size+1)) W).setCell (p:=⟨w.heap.size+1,0,none⟩) (fun _=>rfl) (.slice none 0 0)).setCell (p:=⟨w.heap.size+1,1,none⟩) (fun _=>rfl) (.int .i64 0)).setCell (p:=⟨w.heap.size+1,2,none⟩) (fun _=>rfl) (.int .i64 0)).setCell (p:=⟨w.heap.size+1,3,none⟩) (fun _=>rfl) (.slice none 0 0)).setCell (p:=⟨w.heap.size+1,4,none⟩) (fun _=>rfl) (.slice none 0 0);have hb:=HB.out.trans (hf.below HB.out.size (fun k hk=>by unfold onB at hk;omega));have hP:=jM (D:=D) hn hb;clear hf hb hn;have HR:=k_ hr;clear hr;have HP:=k_ hP;clear hP;clear hw hw';have WI:=k_ wi;clear wi
   go_enter Tryz.func348,Tryz.ntmps348
   go_upto_region 1 with fail
   rw[← HW.out];go_wp2_with fail;refine WI.out.mono ?_;rintro e w' ⟨rfl,rfl⟩
   go_wp2_with (with_reducible refine bodyPost_ret ?_ rfl HP.out;obtain⟨⟨k0,k1,k2,k3,k4⟩,_⟩:=aB HR.out;simp[results,Tryz.results348,go_sem,k0,k1,k2,k3,k4])
  have wi:=dG W b p.funcs.length;rw[hw] at wi;obtain⟨k,hk,hkl⟩:=fO hw;subst hk;have hn:=nO p ⟨21,a,(k:Int),c⟩ k hkl rfl (by simp);have hfs:=HFS.out k hkl;generalize p.funcs[k]=g at *;obtain⟨bb,o,rfl,_,e0,e1,e2,e3,e4,h0,h1,h2,h3,h4,hfv⟩:=hfs;have hfw:=hfv;obtain⟨rfl,rfl,⟨g0,g1,rfl,_⟩,⟨g2,g3,rfl,_⟩,g4,g5,rfl,_⟩:=hfv;have hr:=ag (ag (ag (ag (ag HL2.out 0 (.slice g0 g.args.length g1)) 1 (.int .i64 g.result)) 2 (.int .i64 g.slots)) 3 (.slice g2 g.objects.length g3)) 4 (.slice g4 g.code.length g5);have hf:Fr (onB (w.heap.size+1)) W _:=(((((Fr.refl (onB (w.heap.size+1)) W).setCell (p:=⟨w.heap.size+1,0,none⟩) (fun _=>rfl) (.slice g0 g.args.length g1)).setCell (p:=⟨w.heap.size+1,1,none⟩) (fun _=>rfl) (.int .i64 g.result)).setCell (p:=⟨w.heap.size+1,2,none⟩) (fun _=>rfl) (.int .i64 g.slots)).setCell (p:=⟨w.heap.size+1,3,none⟩) (fun _=>rfl) (.slice g2 g.objects.length g3)).setCell (p:=⟨w.heap.size+1,4,none⟩) (fun _=>rfl) (.slice g4 g.code.length g5);have hb:=HB.out.trans (hf.below HB.out.size (fun k hk=>by unfold onB at hk;omega));have hP:=lK hn (hfw.fr hf HD.out) hb;clear hf hb hn hfw hw;have HR:=k_ hr;clear hr;have HP:=k_ hP;clear hP;have WI:=k_ wi;clear wi;have hk1:(k:Int)<p.funcs.length:=by omega
  go_enter Tryz.func348,Tryz.ntmps348
  go_upto_region 1 with fail
  rw[← HW.out];go_wp2_with fail;refine WI.out.mono ?_;rintro e w' ⟨rfl,rfl⟩
  go_wp2_with (with_reducible refine bodyPost_ret ?_ rfl HP.out;obtain⟨⟨k0,k1,k2,k3,k4⟩,_⟩:=aB HR.out;simp[results,Tryz.results348,go_sem,k0,k1,k2,k3,k4])
 by_cases h23:op=23
 ·subst h23
  by_cases hw:au b p.funcs.length=true
  case neg =>
   have hw':au b p.funcs.length=false:=by simpa using hw
   have wi:=dG W b p.funcs.length;rw[hw'] at wi;have hn:=l9 p ⟨23,a,b,c⟩ hw';have hr:=ag (ag (ag (ag (ag HL2.out 0 (.slice none 0 0)) 1 (.int .i64 0)) 2 (.int .i64 0)) 3 (.slice none 0 0)) 4 (.slice none 0 0);have hf:Fr (onB (w.heap.size+1)) W _:=(((((Fr.refl (onB (w.heap.size+1)) W).setCell (p:=⟨w.heap.size+1,0,none⟩) (fun _=>rfl) (.slice none 0 0)).setCell (p:=⟨w.heap.size+1,1,none⟩) (fun _=>rfl) (.int .i64 0)).setCell (p:=⟨w.heap.size+1,2,none⟩) (fun _=>rfl) (.int .i64 0)).setCell (p:=⟨w.heap.size+1,3,none⟩) (fun _=>rfl) (.slice none 0 0)).setCell (p:=⟨w.heap.size+1,4,none⟩) (fun _=>rfl) (.slice none 0 0);have hb:=HB.out.trans (hf.below HB.out.size (fun k hk=>by unfold onB at hk;omega));have hP:=jM (D:=D) hn hb;clear hf hb hn;have HR:=k_ hr;clear hr;have HP:=k_ hP;clear hP;clear hw hw';have WI:=k_ wi;clear wi
   go_enter Tryz.func348,Tryz.ntmps348
   go_upto_region 1 with fail
   rw[← HW.out];go_wp2_with fail;refine WI.out.mono ?_;rintro e w' ⟨rfl,rfl⟩
   go_wp2_with (with_reducible refine bodyPost_ret ?_ rfl HP.out;obtain⟨⟨k0,k1,k2,k3,k4⟩,_⟩:=aB HR.out;simp[results,Tryz.results348,go_sem,k0,k1,k2,k3,k4])
  have wi:=dG W b p.funcs.length;rw[hw] at wi;obtain⟨k,hk,hkl⟩:=fO hw;subst hk;have hn:=nO p ⟨23,a,(k:Int),c⟩ k hkl rfl (by simp);have hfs:=HFS.out k hkl;generalize p.funcs[k]=g at *;obtain⟨bb,o,rfl,_,e0,e1,e2,e3,e4,h0,h1,h2,h3,h4,hfv⟩:=hfs;have hfw:=hfv;obtain⟨rfl,rfl,⟨g0,g1,rfl,_⟩,⟨g2,g3,rfl,_⟩,g4,g5,rfl,_⟩:=hfv;have hr:=ag (ag (ag (ag (ag HL2.out 0 (.slice g0 g.args.length g1)) 1 (.int .i64 g.result)) 2 (.int .i64 g.slots)) 3 (.slice g2 g.objects.length g3)) 4 (.slice g4 g.code.length g5);have hf:Fr (onB (w.heap.size+1)) W _:=(((((Fr.refl (onB (w.heap.size+1)) W).setCell (p:=⟨w.heap.size+1,0,none⟩) (fun _=>rfl) (.slice g0 g.args.length g1)).setCell (p:=⟨w.heap.size+1,1,none⟩) (fun _=>rfl) (.int .i64 g.result)).setCell (p:=⟨w.heap.size+1,2,none⟩) (fun _=>rfl) (.int .i64 g.slots)).setCell (p:=⟨w.heap.size+1,3,none⟩) (fun _=>rfl) (.slice g2 g.objects.length g3)).setCell (p:=⟨w.heap.size+1,4,none⟩) (fun _=>rfl) (.slice g4 g.code.length g5);have hb:=HB.out.trans (hf.below HB.out.size (fun k hk=>by unfold onB at hk;omega));have hP:=lK hn (hfw.fr hf HD.out) hb;clear hf hb hn hfw hw;have HR:=k_ hr;clear hr;have HP:=k_ hP;clear hP;have WI:=k_ wi;clear wi;have hk1:(k:Int)<p.funcs.length:=by omega
  go_enter Tryz.func348,Tryz.ntmps348
  go_upto_region 1 with fail
  rw[← HW.out];go_wp2_with fail;refine WI.out.mono ?_;rintro e w' ⟨rfl,rfl⟩
  go_wp2_with (with_reducible refine bodyPost_ret ?_ rfl HP.out;obtain⟨⟨k0,k1,k2,k3,k4⟩,_⟩:=aB HR.out;simp[results,Tryz.results348,go_sem,k0,k1,k2,k3,k4])
 by_cases h24:op=24
 ·subst h24
  by_cases hw:au b p.funcs.length=true
  case neg =>
   have hw':au b p.funcs.length=false:=by simpa using hw
   have wi:=dG W b p.funcs.length;rw[hw'] at wi;have hn:=l9 p ⟨24,a,b,c⟩ hw';have hr:=ag (ag (ag (ag (ag HL2.out 0 (.slice none 0 0)) 1 (.int .i64 0)) 2 (.int .i64 0)) 3 (.slice none 0 0)) 4 (.slice none 0 0);have hf:Fr (onB (w.heap.size+1)) W _:=(((((Fr.refl (onB (w.heap.size+1)) W).setCell (p:=⟨w.heap.size+1,0,none⟩) (fun _=>rfl) (.slice none 0 0)).setCell (p:=⟨w.heap.size+1,1,none⟩) (fun _=>rfl) (.int .i64 0)).setCell (p:=⟨w.heap.size+1,2,none⟩) (fun _=>rfl) (.int .i64 0)).setCell (p:=⟨w.heap.size+1,3,none⟩) (fun _=>rfl) (.slice none 0 0)).setCell (p:=⟨w.heap.size+1,4,none⟩) (fun _=>rfl) (.slice none 0 0);have hb:=HB.out.trans (hf.below HB.out.size (fun k hk=>by unfold onB at hk;omega));have hP:=jM (D:=D) hn hb;clear hf hb hn;have HR:=k_ hr;clear hr;have HP:=k_ hP;clear hP;clear hw hw';have WI:=k_ wi;clear wi
   go_enter Tryz.func348,Tryz.ntmps348
   go_upto_region 1 with fail
   rw[← HW.out];go_wp2_with fail;refine WI.out.mono ?_;rintro e w' ⟨rfl,rfl⟩
   go_wp2_with (with_reducible refine bodyPost_ret ?_ rfl HP.out;obtain⟨⟨k0,k1,k2,k3,k4⟩,_⟩:=aB HR.out;simp[results,Tryz.results348,go_sem,k0,k1,k2,k3,k4])
  have wi:=dG W b p.funcs.length;rw[hw] at wi;obtain⟨k,hk,hkl⟩:=fO hw;subst hk;have hn:=nO p ⟨24,a,(k:Int),c⟩ k hkl rfl (by simp);have hfs:=HFS.out k hkl;generalize p.funcs[k]=g at *;obtain⟨bb,o,rfl,_,e0,e1,e2,e3,e4,h0,h1,h2,h3,h4,hfv⟩:=hfs;have hfw:=hfv;obtain⟨rfl,rfl,⟨g0,g1,rfl,_⟩,⟨g2,g3,rfl,_⟩,g4,g5,rfl,_⟩:=hfv;have hr:=ag (ag (ag (ag (ag HL2.out 0 (.slice g0 g.args.length g1)) 1 (.int .i64 g.result)) 2 (.int .i64 g.slots)) 3 (.slice g2 g.objects.length g3)) 4 (.slice g4 g.code.length g5);have hf:Fr (onB (w.heap.size+1)) W _:=(((((Fr.refl (onB (w.heap.size+1)) W).setCell (p:=⟨w.heap.size+1,0,none⟩) (fun _=>rfl) (.slice g0 g.args.length g1)).setCell (p:=⟨w.heap.size+1,1,none⟩) (fun _=>rfl) (.int .i64 g.result)).setCell (p:=⟨w.heap.size+1,2,none⟩) (fun _=>rfl) (.int .i64 g.slots)).setCell (p:=⟨w.heap.size+1,3,none⟩) (fun _=>rfl) (.slice g2 g.objects.length g3)).setCell (p:=⟨w.heap.size+1,4,none⟩) (fun _=>rfl) (.slice g4 g.code.length g5);have hb:=HB.out.trans (hf.below HB.out.size (fun k hk=>by unfold onB at hk;omega));have hP:=lK hn (hfw.fr hf HD.out) hb;clear hf hb hn hfw hw;have HR:=k_ hr;clear hr;have HP:=k_ hP;clear hP;have WI:=k_ wi;clear wi;have hk1:(k:Int)<p.funcs.length:=by omega
  go_enter Tryz.func348,Tryz.ntmps348
  go_upto_region 1 with fail
  rw[← HW.out];go_wp2_with fail;refine WI.out.mono ?_;rintro e w' ⟨rfl,rfl⟩
  go_wp2_with (with_reducible refine bodyPost_ret ?_ rfl HP.out;obtain⟨⟨k0,k1,k2,k3,k4⟩,_⟩:=aB HR.out;simp[results,Tryz.results348,go_sem,k0,k1,k2,k3,k4])
 have hno:¬ (op=21∨op=23∨op=24):=by omega
 have e1:(op == 21)=false:=by simpa using h21
 have e2:(op == 23)=false:=by simpa using h23
 have e3:(op == 24)=false:=by simpa using h24
 have hn:=zQ p ⟨op,a,b,c⟩ hno;have hr:=ag (ag (ag (ag (ag HL2.out 0 (.slice none 0 0)) 1 (.int .i64 0)) 2 (.int .i64 0)) 3 (.slice none 0 0)) 4 (.slice none 0 0);have hf:Fr (onB (w.heap.size+1)) W _:=(((((Fr.refl (onB (w.heap.size+1)) W).setCell (p:=⟨w.heap.size+1,0,none⟩) (fun _=>rfl) (.slice none 0 0)).setCell (p:=⟨w.heap.size+1,1,none⟩) (fun _=>rfl) (.int .i64 0)).setCell (p:=⟨w.heap.size+1,2,none⟩) (fun _=>rfl) (.int .i64 0)).setCell (p:=⟨w.heap.size+1,3,none⟩) (fun _=>rfl) (.slice none 0 0)).setCell (p:=⟨w.heap.size+1,4,none⟩) (fun _=>rfl) (.slice none 0 0);have hb:=HB.out.trans (hf.below HB.out.size (fun k hk=>by unfold onB at hk;omega));have hP:=jM (D:=D) hn hb;clear hf hb hn;have HR:=k_ hr;clear hr;have HP:=k_ hP;clear hP;clear hno h21 h23 h24
 go_enter Tryz.func348,Tryz.ntmps348
 go_upto_region 1 with fail
 rw[← HW.out]
 go_wp2_with (with_reducible refine bodyPost_ret ?_ rfl HP.out;obtain⟨⟨k0,k1,k2,k3,k4⟩,_⟩:=aB HR.out;simp[results,Tryz.results348,go_sem,k0,k1,k2,k3,k4])
def Zi (i:Ins):Prop:=(∃ v,i=⟨1,0,v,0⟩)∨i=⟨29,0,0,0⟩∨i=⟨27,0,0,0⟩
def IsZ (p:Prg):Prop:=∀ f ∈ p.funcs,∀ i ∈ f.code,Zi i
theorem Zi.op {op a b c:Int} (h:Zi ⟨op,a,b,c⟩):op=1∨op=29∨op=27:=by
 rcases h with⟨v,h⟩ | h | h <;> injection h with h1 <;> simp[h1]
theorem G7 (w:World) (x:Ins) (args:Int) (hz:Zi x):Calls Tryz.prog 349 #[x.val,.int .i64 args] w (ji x args w):=by
 rcases hz with⟨v,rfl⟩ | rfl | rfl
 ·exact rC w 1 0 v 0 args (by decide)
 ·exact Ia w 29 0 0 0 args (by decide)
 ·exact rC w 27 0 0 0 args (by decide)
end Go.Proofs.YtlofbhoicbemnaaGreatDoor
