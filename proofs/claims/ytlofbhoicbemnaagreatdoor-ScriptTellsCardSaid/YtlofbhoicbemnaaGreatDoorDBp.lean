/- Walks: may a configuration be? Walk: a file's bytes (besom.Pack). -/
import Derived.Test.YtlofbhoicbemnaaGreatDoorDAm
set_option linter.unusedVariables false
set_option linter.unusedSimpArgs false
set_option maxRecDepth 100000
set_option maxHeartbeats 1600000
namespace Go.Proofs.YtlofbhoicbemnaaGreatDoor.Tk
open Go.ChangeShapes Go.WideShapes Go.ChangeAt Go.RowKit Go.Maps
structure Cfg where (pages first limit trigger pile:Int)
def Cfg.val (c:Cfg):Value:=.agg #[.int .i64 c.pages,.int .i64 c.first,.int .i64 c.limit,.int .i64 c.trigger,.int .i64 c.pile]
def Cfg.row (c:Cfg):Nat→Int × Int × Int
 | 0=>(1,c.pages,64)
 | 1=>(1,c.first,c.limit)
 | 2=>(1,c.limit,4096)
 | 3=>(1,c.trigger,1000000)
 | _=>(1,c.pile,1000)
def Cfg.okAt (c:Cfg) (k:Nat):Prop:=(c.row k).1≤(c.row k).2.1∧(c.row k).2.1≤(c.row k).2.2
instance (c:Cfg) (k:Nat):Decidable (c.okAt k):=by unfold Cfg.okAt;infer_instance
def Cfg.ok (c:Cfg):Prop:=∀ k,k<5→c.okAt k
instance (c:Cfg):Decidable c.ok:=by unfold Cfg.ok;infer_instance
theorem cfgCheck_any (w:World) (c:Cfg) :
  Calls Tryz.prog 46 #[c.val] w fun e w'=>e=.returned (.int .i64 (if c.ok then 0 else 1))∧Below w.heap.size w w':=by
 obtain⟨r,hr⟩:∃ r:Int,r=if c.ok then 0 else 1:=⟨_,rfl⟩;rw[← hr];have hyes:(∀ k,k<5→c.okAt k)→r=0:=fun h=>by rw[hr];exact if_pos h
 have hnot:∀ k,k<5→¬ c.okAt k→r=1:=fun k hk h=>by rw[hr,if_neg (fun h2=>h (h2 k hk))]
 have HYES:=k_ hyes;clear hyes;have HNOT:=k_ hnot;clear hnot;clear hr;have hb0:=(Below.refl w.heap.size w).alloc (Nat.le_refl _) (.cells #[.int .i64 c.pages,.int .i64 c.first,.int .i64 c.limit,.int .i64 c.trigger,.int .i64 c.pile] 50);obtain⟨W,hW⟩:∃ W,W=(w.alloc (.cells #[.int .i64 c.pages,.int .i64 c.first,.int .i64 c.limit,.int .i64 c.trigger,.int .i64 c.pile] 50)).alloc (.cells #[.int .i64 1,.int .i64 c.pages,.int .i64 64,.int .i64 1,.int .i64 c.first,.int .i64 c.limit,.int .i64 1,.int .i64 c.limit,.int .i64 4096,.int .i64 1,.int .i64 c.trigger,.int .i64 1000000,.int .i64 1,.int .i64 c.pile,.int .i64 1000] 121):=⟨_,rfl⟩;obtain⟨y,hy⟩:∃ y,y=w.heap.size+1:=⟨_,rfl⟩;have hrw:=heap_new (w.alloc (.cells #[.int .i64 c.pages,.int .i64 c.first,.int .i64 c.limit,.int .i64 c.trigger,.int .i64 c.pile] 50)) (.cells #[.int .i64 1,.int .i64 c.pages,.int .i64 64,.int .i64 1,.int .i64 c.first,.int .i64 c.limit,.int .i64 1,.int .i64 c.limit,.int .i64 4096,.int .i64 1,.int .i64 c.trigger,.int .i64 1000000,.int .i64 1,.int .i64 c.pile,.int .i64 1000] 121);have hb1:=hb0.alloc hb0.size (.cells #[.int .i64 1,.int .i64 c.pages,.int .i64 64,.int .i64 1,.int .i64 c.first,.int .i64 c.limit,.int .i64 1,.int .i64 c.limit,.int .i64 4096,.int .i64 1,.int .i64 c.trigger,.int .i64 1000000,.int .i64 1,.int .i64 c.pile,.int .i64 1000] 121);rw[← hW] at hb1 hrw;rw[show (w.alloc (.cells #[.int .i64 c.pages,.int .i64 c.first,.int .i64 c.limit,.int .i64 c.trigger,.int .i64 c.pile] 50)).heap.size=y from by rw[hy];simp] at hrw;have hrow:∀ k,k<5→W.cell? ⟨y,k * 3,none⟩=some (.int .i64 (c.row k).1)∧W.cell? ⟨y,k * 3+1,none⟩=some (.int .i64 (c.row k).2.1)∧W.cell? ⟨y,k * 3+2,none⟩=some (.int .i64 (c.row k).2.2):=fun k hk=>by
  have h5:k=0∨k=1∨k=2∨k=3∨k=4:=by omega
  rcases h5 with rfl | rfl | rfl | rfl | rfl <;> exact⟨(row_cell hrw _).1,(row_cell hrw _).1,(row_cell hrw _).1⟩
 have HROW:=k_ hrow;have HW:=k_ hW;have HY:=k_ hy;have HB1:=k_ hb1;clear hrow hW hy hb1 hb0 hrw;unfold Cfg.val
 go_enter Tryz.func46,Tryz.ntmps46
 go_wp2_with fail;rw[← HW.out,← HY.out]
 go_loopw [24] (fun i wr=>∃ k:Nat,k≤5∧i=.int .i64 k∧Below W.heap.size W wr∧∀ j,j<k→c.okAt j) (fun i _=>5 - (intOf i).toNat)
 case atStart=>exact⟨0,by omega,rfl,Below.refl _ _,fun j hj=>by omega⟩
 case round =>
  obtain⟨k,hk,rfl,hB,hok⟩:=hrel
  by_cases hlt:k<5
  ·obtain⟨q0,q1,q2⟩:=HROW.out k hlt
   have q0:=below_cell hB q0;have q1:=below_cell hB q1;have q2:=below_cell hB q2;have hno:=HNOT.out k hlt;have hnx:c.okAt k→∀ j,j<k+1→c.okAt j:=fun h j hj=>by
    rcases Nat.lt_or_ge j k with h1 | h1
    ·exact hok j h1
    ·obtain rfl:j=k:=by omega
     exact h
   have hko:c.okAt k↔(c.row k).1≤(c.row k).2.1∧(c.row k).2.1≤(c.row k).2.2:=Iff.rfl;generalize (c.row k).1=ra at *;generalize (c.row k).2.1=rb at *;generalize (c.row k).2.2=rc at *;obtain⟨k1,hk1⟩:∃ k1,k1=k+1:=⟨_,rfl⟩;have iw:IntKind.i64.wrap ((k:Int)+1)=(k1:Int):=by rw[show ((k:Int)+1)=(k1:Int) from by omega];exact IntWalk.i64_in _ (by omega)
   have hBa:=hB.alloc hB.size (.cells #[.int .i64 ra,.int .i64 rb,.int .i64 rc] 121);have HBa:=k_ hBa;have HE:=k_ (HB1.out.trans (hBa.mono HB1.out.size));have hk15:k1≤5:=by omega
   have HK1:=k_ hk1;clear hB hok hBa hk1
   by_cases c1:rb<ra
   ·have h1:r=1:=hno (fun h=>by have:=hko.1 h;omega)
    clear hko hno hnx HROW;have H1:=k_ h1;clear h1;go_wp2_with fail
    go_ret
    exact⟨by have e:=H1.out;subst e;rfl,HE.out⟩
   ·by_cases c2:rc<rb
    ·have h1:r=1:=hno (fun h=>by have:=hko.1 h;omega)
     clear hko hno hnx HROW;have H1:=k_ h1;clear h1;go_wp2_with fail
     go_ret
     exact⟨by have e:=H1.out;subst e;rfl,HE.out⟩
    ·have HX:=k_ (hnx (hko.2 ⟨by omega,by omega⟩))
     clear hko hno hnx;go_wp2_with fail
     go_roundw
     case rel=>exact⟨k1,hk15,by go_num,HBa.out,by rw[HK1.out];exact HX.out⟩
     case measure=>have:=HK1.out;simp[intOf];omega
  ·obtain rfl:k=5:=by omega
   have H0:=k_ (HYES.out hok);have HE:=k_ (HB1.out.trans (hB.mono HB1.out.size));clear hok hB;go_wp2_with fail
   go_ret
   exact⟨by have e:=H0.out;subst e;rfl,HE.out⟩
def bytesL (v:Int):List Int:=[byteOf v 0,byteOf v 1,byteOf v 2,byteOf v 3]
def Cfg.list (c:Cfg):List Int:=[c.pages,c.first,c.limit,c.trigger,c.pile]
def packH (img:ByteArray) (c:Cfg):List Int:=bytesL img.size ++ strInts img ++ c.list.flatMap bytesL
def packS (pr:Prg) (c:Cfg) (l:List Ent):ByteArray × Int :=
 if ¬ c.ok then (⟨#[]⟩,1) else if (wProg pr).2 then (⟨#[]⟩,1) else if (scrS l).2≠0 then (⟨#[]⟩,(scrS l).2) else
 (bytesS (packH (bytesS (wProg pr).1) c) ++ (scrS l).1,0)
theorem own_four {w:World} {g:Nat} {v:Int} {B:Nat} (hrow:w.heap[g]?=some (.cells (laid4 v 4) 5)) (hB:B≤g):Own u8E w B (.slice (some ⟨g,0,none⟩) 4 4) (bytesL v):=by
 refine⟨rfl,.inr ⟨g,4,_,rfl,hB,hrow,Nat.le_refl 4,by unfold maxLen;omega,rfl,?_⟩⟩;rw[laid_4]
 rfl
theorem scrS_size (l:List Ent):(scrS l).1.size≤l.length:=by
 unfold scrS
 split
 ·split
  ·simp[bytesS,ByteArray.size,scrL]
  ·exact Nat.zero_le _
 ·exact Nat.zero_le _
structure PkBx (W:World) (B:Nat) (D E:Nat→Prop) (pr:Prg) (c:Cfg) (l:List Ent) (c0 c1 c2:Value) (a:Option Addr):Prop where
 p:∀ j u,[c0,c1,c2][j]?=some u→W.cell? ⟨B,j,none⟩=some u
 c:∀ j x,c.list[j]?=some x→W.cell? ⟨B+1,j,none⟩=some (.int .i64 x)
 v:PrgVal W D pr c0 c1 c2
 d:∀ k,D k→k<W.heap.size
 e:EntSl W E a l
 s:B+2≤W.heap.size
theorem PkBx.below {W W':World} {B:Nat} {D E:Nat→Prop} {pr:Prg} {c:Cfg} {l:List Ent} {c0 c1 c2:Value} {a:Option Addr} (h:PkBx W B D E pr c l c0 c1 c2 a) (hb:Below W.heap.size W W'):PkBx W' B D E pr c l c0 c1 c2 a :=
 ⟨fun j u hj=>below_cell hb (h.p j u hj),fun j x hj=>below_cell hb (h.c j x hj),h.v.fr (Fr.of_below hb (fun _=>False)) (fun _ _ h=>h),fun k hk=>Nat.lt_of_lt_of_le (h.d k hk) hb.size,h.e.below' hb,Nat.le_trans h.s hb.size⟩
theorem pack_any (w:World) (D E:Nat→Prop) (pr:Prg) (c:Cfg) (l:List Ent) (c0 c1 c2:Value) (a:Option Addr) (cp:Nat) (hv:PrgVal w D pr c0 c1 c2) (hD:∀ k,D k→k<w.heap.size) (hbulk:bulk pr≤3000) (hsz:(wProg pr).1.length≤1000000)
  (hl:l.length≤100000) (he:EntSl w E a l) :
  Calls Tryz.prog 15 #[.agg #[c0,c1,c2],c.val,.slice a l.length cp] w fun e w'=>e=.returned (.tuple #[.string (packS pr c l).1,.int .i64 (packS pr c l).2])∧Below w.heap.size w w':=by
 have hbx:PkBx ((w.alloc (.cells #[c0,c1,c2] 48)).alloc (.cells #[.int .i64 c.pages,.int .i64 c.first,.int .i64 c.limit,.int .i64 c.trigger,.int .i64 c.pile] 50)) w.heap.size D E pr c l c0 c1 c2 a:=by
  have hb1:Below w.heap.size w ((w.alloc (.cells #[c0,c1,c2] 48)).alloc (.cells #[.int .i64 c.pages,.int .i64 c.first,.int .i64 c.limit,.int .i64 c.trigger,.int .i64 c.pile] 50)):=((Below.refl _ _).alloc (Nat.le_refl _) _).alloc (by simp) _;refine⟨fun j u hj=>?_,fun j x hj=>?_,hv.fr (Fr.of_below hb1 (fun _=>False)) (fun _ _ h=>h),fun k hk=>Nat.lt_of_lt_of_le (hD k hk) hb1.size,he.below' hb1,by simp⟩
  ·have h1:=(CellsAt.new w #[c0,c1,c2] 48 (0,0)) j u hj
   rw[Nat.zero_add] at h1;exact(cell_under _ _ (World.block_lt h1)).trans h1
  ·have h1:=(CellsAt.new' (w:=w.alloc (.cells #[c0,c1,c2] 48)) (g:=w.heap.size+1) #[.int .i64 c.pages,.int .i64 c.first,.int .i64 c.limit,.int .i64 c.trigger,.int .i64 c.pile] 50 (0,0) (by simp)) j (.int .i64 x) (by
    have:=congrArg (Option.map (Value.int .i64)) hj;rw[← List.getElem?_map] at this;exact this)
   rw[Nat.zero_add] at h1;exact h1
 have hb1:Below w.heap.size w ((w.alloc (.cells #[c0,c1,c2] 48)).alloc (.cells #[.int .i64 c.pages,.int .i64 c.first,.int .i64 c.limit,.int .i64 c.trigger,.int .i64 c.pile] 50)):=((Below.refl _ _).alloc (Nat.le_refl _) _).alloc (by simp) _;have hres:packS pr c l=packS pr c l:=rfl;obtain⟨R,hR⟩:∃ R,R=packS pr c l:=⟨_,rfl⟩;rw[← hR];have HR:=k_ hR;have HBX:=k_ hbx;have HB1:=k_ hb1;clear hres hR hbx hb1 hv hD he
 show Calls Tryz.prog 15 #[.agg #[c0,c1,c2],.agg #[.int .i64 c.pages,.int .i64 c.first,.int .i64 c.limit,.int .i64 c.trigger,.int .i64 c.pile],.slice a l.length cp] w _
 go_enter Tryz.func15,Tryz.ntmps15
 go_wp2_with fail;refine(cfgCheck_any _ c).mono ?_;rintro e w1 ⟨rfl,hb⟩;have HBX1:=k_ (HBX.out.below hb);have HB2:=k_ (HB1.out.trans (hb.mono HB1.out.size));clear hb HB1 HBX
 by_cases hc:¬ c.ok
 ·have HN:=k_ (show R=(⟨#[]⟩,1) from by rw[HR.out];unfold packS;rw[if_pos hc])
  rw[if_neg hc];go_wp2_with fail
  go_ret2
  exact⟨by rw[HN.out];rfl,HB2.out⟩
 have hc:c.ok:=Decidable.not_not.1 hc;rw[if_pos hc];have HC:=k_ hc;clear hc;have k0:=HBX1.out.p 0 _ rfl;have k1:=HBX1.out.p 1 _ rfl;have k2:=HBX1.out.p 2 _ rfl;go_wp2_with fail;refine(layP_any w1 D pr c0 c1 c2 HBX1.out.v HBX1.out.d hbulk).mono ?_;rintro e w2 ⟨rfl,hb⟩;have HBX2:=k_ (HBX1.out.below hb);have HB3:=k_ (HB2.out.trans (hb.mono HB2.out.size));clear hb HB2 HBX1 k0 k1 k2
 by_cases hp:(wProg pr).2=true
 ·have HN:=k_ (show R=(⟨#[]⟩,1) from by rw[HR.out];unfold packS;rw[if_neg (fun h=>h HC.out),if_pos hp])
  rw[show layPRes pr=.tuple #[.string ⟨#[]⟩,.int .i64 1] from by unfold layPRes;rw[if_pos hp]];go_wp2_with fail
  go_ret2
  exact⟨by rw[HN.out];rfl,HB3.out⟩
 have HP:=k_ hp;rw[show layPRes pr=.tuple #[.string (bytesS (wProg pr).1),.int .i64 0] from by unfold layPRes;rw[if_neg hp]];obtain⟨img,himg⟩:∃ img,img=bytesS (wProg pr).1:=⟨_,rfl⟩
 rw[← himg];have HIS:=k_ (show img.size≤1000000 from by rw[himg];simpa[bytesS,ByteArray.size] using hsz);have HIMG:=k_ himg;clear himg hp hsz hbulk;go_wp2_with fail;refine(script_any l E a cp w2 hl HBX2.out.e).mono ?_;rintro e w3 ⟨rfl,hb⟩;have HBX3:=k_ (HBX2.out.below hb);have HB4:=k_ (HB3.out.trans (hb.mono HB3.out.size));clear hb HB3 HBX2;obtain⟨S,hS⟩:∃ S,S=scrS l:=⟨_,rfl⟩;rw[← hS];have HS:=k_ hS;clear hS;obtain⟨s1,s2⟩:=S;have HSS:=k_ (show s1.size≤100000 from by
  have h1:=scrS_size l;rw[← HS.out] at h1;exact Nat.le_trans h1 hl)
 by_cases h2:s2≠0
 ·have HN:=k_ (show R=(⟨#[]⟩,s2) from by rw[HR.out];unfold packS;rw[if_neg (fun h=>h HC.out),if_neg HP.out,← HS.out,if_pos h2])
  have hd2:decide (s2=0)=false:=by simpa using h2
  go_wp2_with fail
  all_goals (go_ret2;exact⟨by rw[HN.out];rfl,HB4.out⟩)
 have h2:s2=0:=Decidable.not_not.1 h2;subst h2;have HN:=k_ (show R=(bytesS (packH img c) ++ s1,0) from by rw[HR.out];unfold packS;rw[if_neg (fun h=>h HC.out),if_neg HP.out,← HS.out,if_neg (fun h=>h rfl),HIMG.out]);clear HR HP HC HS HIMG;go_wp2_with fail;refine(bytes_any _ _).mono ?_;rintro e w4 ⟨rfl,hw4⟩;have hnew:=heap_new w3 (.cells (laid4 img.size 4) 5);have hb:Below w3.heap.size w3 w4:=by rw[hw4];exact(Below.refl _ _).alloc (Nat.le_refl _) _
 rw[← hw4] at hnew;have HO4:=k_ (own_four hnew (Nat.le_refl _));have HBX4:=k_ (HBX3.out.below hb);have HB5:=k_ (HB4.out.trans (hb.mono HB4.out.size));have hz0:w.heap.size+2≤w3.heap.size:=HBX3.out.s;have hz4:w3.heap.size≤w4.heap.size:=hb.size;obtain⟨z,hz⟩:∃ z,z=w3.heap.size:=⟨_,rfl⟩;rw[← hz] at HO4 hz4 hz0 ⊢;have HZ:=k_ hz0;clear hb hnew hw4 HB4 HBX3 hz hz0
 go_wp2_with (at_builtin;go_loud (refine append_str rfl (.tmp 38) (.tmp 39) rfl z (bytesL img.size) _ rfl HO4.out img rfl ?c1 ?c2 ?_))
 case c1=>have:=HIS.out;simp[bytesL];omega
 case c2=>exact hz4
 intro v5 w5 hown5 hg5 hf5;have hb5:Below z w4 w5:=below_grown (Below.refl z w4) HO4.out hg5 hz4 (Nat.le_refl _);have m0:=(hb5.cell (by have:=HZ.out;show w.heap.size+1<z;omega)).trans (HBX4.out.c 0 _ rfl);have m1:=(hb5.cell (by have:=HZ.out;show w.heap.size+1<z;omega)).trans (HBX4.out.c 1 _ rfl);have m2:=(hb5.cell (by have:=HZ.out;show w.heap.size+1<z;omega)).trans (HBX4.out.c 2 _ rfl);have m3:=(hb5.cell (by have:=HZ.out;show w.heap.size+1<z;omega)).trans (HBX4.out.c 3 _ rfl);have m4:=(hb5.cell (by have:=HZ.out;show w.heap.size+1<z;omega)).trans (HBX4.out.c 4 _ rfl);have HB6:=k_ (HB5.out.trans (hb5.mono (by have:=HZ.out;omega)));have HZ5:=k_ (Nat.le_trans hz4 hb5.size);have HO5:=k_ hown5;clear hb5 hown5 hg5 hf5 hz4 HB5 HBX4 HO4 w4;go_wp2_with fail;have hv5:v5.ownBlock≠some w5.heap.size:=fun e=>absurd (World.ownsRow.lt HO5.out _ e).2 (Nat.lt_irrefl _)
 obtain⟨w6,hw6⟩:∃ u,u=w5.alloc (.cells #[.int .i64 c.pages,.int .i64 c.first,.int .i64 c.limit,.int .i64 c.trigger,.int .i64 c.pile] 3):=⟨_,rfl⟩;have hc6:∀ j x,c.list[j]?=some x→w6.cell? ⟨w5.heap.size,j,none⟩=some (.int .i64 x):=fun j x hj=>by
  rw[hw6];have h1:=(CellsAt.new w5 #[.int .i64 c.pages,.int .i64 c.first,.int .i64 c.limit,.int .i64 c.trigger,.int .i64 c.pile] 3 (0,0)) j (.int .i64 x) (by
   have:=congrArg (Option.map (Value.int .i64)) hj;rw[← List.getElem?_map] at this;exact this)
  rw[Nat.zero_add] at h1;exact h1
 have hb6:Below w5.heap.size w5 w6:=by rw[hw6];exact(Below.refl _ _).alloc (Nat.le_refl _) _
 have HO6:=k_ (HO5.out.below hb6);have HB7:=k_ (HB6.out.trans (hb6.mono HB6.out.size));have hz6:z≤w6.heap.size:=Nat.le_trans HZ5.out hb6.size;rw[← hw6];obtain⟨nb,hnb⟩:∃ nb,nb=w5.heap.size:=⟨_,rfl⟩;rw[← hnb] at hc6 hv5 ⊢;have HC6:=k_ hc6;have HV5:=k_ hv5;have HZ6:=k_ hz6;clear hb6 hw6 HO5 HB6 HZ5 hnb hc6 hv5 hz6 m0 m1 m2 m3 m4
 go_loopw [12,53] (fun v i wr=>∃ k:Nat,k≤5∧i=.int .i64 k∧Own u8E wr z v (bytesL img.size ++ strInts img ++ (c.list.take k).flatMap bytesL)∧v.ownBlock≠some nb∧Below w.heap.size w wr∧z≤wr.heap.size∧∀ j x,c.list[j]?=some x→wr.cell? ⟨nb,j,none⟩=some (.int .i64 x)) (fun _ i _=>5 - (intOf i).toNat)
 case atStart=>exact⟨0,by omega,rfl,by simpa using HO6.out,HV5.out,HB7.out,HZ6.out,HC6.out⟩
 case round =>
  clear HO6 HV5 HB7 HZ6 HC6;obtain⟨k,hk,rfl,ho,hvn,hB,hzr,hcs⟩:=hrel
  by_cases hlt:k<5
  ·obtain⟨x,hx⟩:∃ x,c.list[k]?=some x:=⟨c.list[k]'(by simpa[Cfg.list] using hlt),List.getElem?_eq_getElem _⟩
   have hcell:=hcs k x hx;have HX:=k_ hx;have HO:=k_ ho;have HVN:=k_ hvn;have HB:=k_ hB;have HZR:=k_ hzr;have HCS:=k_ hcs;clear hx ho hvn hB hzr hcs;go_wp2_with fail;refine(bytes_any x _).mono ?_;rintro e w7 ⟨rfl,hw7⟩;have hb:Below wr.heap.size wr w7:=by rw[hw7];exact(Below.refl _ _).alloc (Nat.le_refl _) _
   have hsrc:CellsAt w7 wr.heap.size 0 ((bytesL x).flatMap u8E.enc):=by rw[hw7];exact CellsAt.new wr (laid4 x 4) 5 (0,0)
   have hcs7:∀ j y,c.list[j]?=some y→w7.cell? ⟨nb,j,none⟩=some (.int .i64 y):=fun j y hj=>below_cell hb (HCS.out j y hj)
   have HO7:=k_ (HO.out.below hb);have HB8:=k_ (HB.out.trans (hb.mono HB.out.size));have HZ7:=k_ (Nat.le_trans HZR.out hb.size);have HNB:=k_ (Nat.lt_of_lt_of_le (World.block_lt (HCS.out 0 _ rfl)) hb.size);have HCS7:=k_ hcs7;have HSRC:=k_ hsrc;have HLN:=k_ (show (bytesL img.size ++ strInts img ++ (c.list.take k).flatMap bytesL).length≤2000000 from by
    have h1:((c.list.take k).flatMap bytesL).length=4 * (c.list.take k).length:=by
     rw[List.length_flatMap];generalize c.list.take k=L
     induction L with
     | nil=>rfl
     | cons y L ih=>rw[List.map_cons,List.sum_cons,ih,List.length_cons];show 4+_=_;omega
    have:=HIS.out;rw[List.length_append,List.length_append,h1,strInts_len,List.length_take]
    show 4+_+_≤_
    omega)
   clear hb hsrc hcs7 hw7 hcell HO HB HZR HCS
   go_wp2_with (at_builtin;refine append_fresh u8E rfl (.tmp 57) (.tmp 59) rfl z (bytesL img.size ++ strInts img ++ (c.list.take k).flatMap bytesL) (bytesL x) _ rfl HO7.out wr.heap.size 0 4 rfl HSRC.out ?c1 ?c2 ?_)
   case c1=>have:=HLN.out;show _+4≤_;omega
   case c2=>exact HZ7.out
   intro v9 w9 hown9 hg9 hf9;have HO9:=k_ hown9;have HB9:=k_ (below_grown HB8.out HO7.out hg9 HB8.out.size (by have:=HZ.out;omega));have HVN9:=k_ (show v9.ownBlock≠some nb from fun e=>(hf9 nb e).elim HVN.out (fun h=>absurd HNB.out (Nat.not_lt.2 h)));have HCS9:=k_ (show ∀ j y,c.list[j]?=some y→w9.cell? ⟨nb,j,none⟩=some (.int .i64 y) from fun j y hj=>cell_grown hg9 (HCS7.out j y hj) HVN.out);have HZ9:=k_ (Nat.le_trans HZ7.out hg9.size);clear hown9 hg9 hf9 HO7 HB8 HCS7 HVN HSRC HLN;go_wp2_with fail
   go_roundw
   case rel =>
    refine⟨k+1,by omega,by go_num,?_,HVN9.out,HB9.out,HZ9.out,HCS9.out⟩;rw[List.take_add_one,HX.out,List.flatMap_append,← List.append_assoc]
    simpa using HO9.out
   case measure=>simp[intOf];omega
  ·have hk':k=5:=by omega
   subst hk';have HO:=k_ ho;have HB:=k_ hB;clear ho hvn hB hzr hcs;have hcv:=own_str HO.out;obtain⟨T,hT⟩:∃ T,T=bytesS (bytesL img.size ++ strInts img ++ (c.list.take 5).flatMap bytesL):=⟨_,rfl⟩
   rw[← hT] at hcv;have hpk:T=bytesS (packH img c):=hT
   have hts:T.size≤2000000:=by
    rw[hT];have h1:((c.list.take 5).flatMap bytesL).length=20:=rfl;have h2:∀ L:List Int,(bytesS L).size=L.length:=fun L=>by simp[bytesS,ByteArray.size]
    have:=HIS.out;rw[h2,List.length_append,List.length_append,h1,strInts_len]
    show 4+_+_≤_
    omega
   have hsum:¬ 9223372036854775807<T.size+s1.size:=by have:=HSS.out;omega
   have HPK:=k_ hpk;clear hT hpk hts;go_wp2_with fail
   go_ret2
   exact⟨by rw[HN.out,← HPK.out];rfl,HB.out⟩
end Go.Proofs.YtlofbhoicbemnaaGreatDoor.Tk
