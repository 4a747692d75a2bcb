/- Walk: a file's bytes (besom.Pack). The first file's bytes, plainly. Walk: besom.Play of the first file, given what the shelf's Itoa and .. -/
import Derived.Test.YtbkkhmafheimfaaGreatDoorVBs
set_option linter.unusedVariables false
set_option linter.unusedSimpArgs false
set_option maxRecDepth 100000
set_option maxHeartbeats 1600000
namespace Go.Proofs.YtbkkhmafheimfaaGreatDoor.Tk
open Go.ChangeShapes Go.WideShapes Go.ChangeAt Go.RowKit Go.Maps
def bytesL (v:Int):List Int:=[byteOf v 0,byteOf v 1,byteOf v 2,byteOf v 3]
def Cfg.list (c:Cfg):List Int:=[c.pages,c.first,c.limit,c.trigger,c.pile]
def packH (img:ByteArray) (c:Cfg):List Int:=bytesL img.size ++ strInts img ++ c.list.flatMap bytesL
def packS (pr:Prg) (c:Cfg) (l:List Ent):ByteArray × Int :=
 if ¬ c.ok then (⟨#[]⟩,1) else if (wProg pr).2 then (⟨#[]⟩,1) else if (scrS l).2≠0 then (⟨#[]⟩,(scrS l).2) else
 (bytesS (packH (bytesS (wProg pr).1) c) ++ (scrS l).1,0)
theorem own_four {w:World} {g:Nat} {v:Int} {B:Nat} (hrow:w.heap[g]?=some (.cells (laid4 v 4) 5)) (hB:B≤g):Own u8E w B (.slice (some ⟨g,0,none⟩) 4 4) (bytesL v):=by
 refine⟨rfl,.inr ⟨g,4,_,rfl,hB,hrow,Nat.le_refl 4,by unfold maxLen;omega,rfl,?_⟩⟩;rw[laid_4]
 rfl
theorem scrS_size (l:List Ent):(scrS l).1.size≤l.length:=by
 unfold scrS
 split
 ·split
  ·simp[bytesS,ByteArray.size,scrL]
  ·exact Nat.zero_le _
 ·exact Nat.zero_le _
structure PkBx (W:World) (B:Nat) (D E:Nat→Prop) (pr:Prg) (c:Cfg) (l:List Ent) (c0 c1 c2:Value) (a:Option Addr):Prop where
 p:∀ j u,[c0,c1,c2][j]?=some u→W.cell? ⟨B,j,none⟩=some u
 c:∀ j x,c.list[j]?=some x→W.cell? ⟨B+1,j,none⟩=some (.int .i64 x)
 v:PrgVal W D pr c0 c1 c2
 d:∀ k,D k→k<W.heap.size
 e:EntSl W E a l
 s:B+2≤W.heap.size
theorem PkBx.below {W W':World} {B:Nat} {D E:Nat→Prop} {pr:Prg} {c:Cfg} {l:List Ent} {c0 c1 c2:Value} {a:Option Addr} (h:PkBx W B D E pr c l c0 c1 c2 a) (hb:Below W.heap.size W W'):PkBx W' B D E pr c l c0 c1 c2 a :=
 ⟨fun j u hj=>below_cell hb (h.p j u hj),fun j x hj=>below_cell hb (h.c j x hj),h.v.fr (Fr.of_below hb (fun _=>False)) (fun _ _ h=>h),fun k hk=>Nat.lt_of_lt_of_le (h.d k hk) hb.size,h.e.below' hb,Nat.le_trans h.s hb.size⟩
theorem pack_any (w:World) (D E:Nat→Prop) (pr:Prg) (c:Cfg) (l:List Ent) (c0 c1 c2:Value) (a:Option Addr) (cp:Nat) (hv:PrgVal w D pr c0 c1 c2) (hD:∀ k,D k→k<w.heap.size) (hbulk:bulk pr≤3000) (hsz:(wProg pr).1.length≤1000000)
  (hl:l.length≤100000) (he:EntSl w E a l) :
  Calls Tryz.prog 9 #[.agg #[c0,c1,c2],c.val,.slice a l.length cp] w fun e w'=>e=.returned (.tuple #[.string (packS pr c l).1,.int .i64 (packS pr c l).2])∧Below w.heap.size w w':=by
 have hbx:PkBx ((w.alloc (.cells #[c0,c1,c2] 40)).alloc (.cells #[.int .i64 c.pages,.int .i64 c.first,.int .i64 c.limit,.int .i64 c.trigger,.int .i64 c.pile] 45)) w.heap.size D E pr c l c0 c1 c2 a:=by
  have hb1:Below w.heap.size w ((w.alloc (.cells #[c0,c1,c2] 40)).alloc (.cells #[.int .i64 c.pages,.int .i64 c.first,.int .i64 c.limit,.int .i64 c.trigger,.int .i64 c.pile] 45)):=((Below.refl _ _).alloc (Nat.le_refl _) _).alloc (by simp) _;refine⟨fun j u hj=>?_,fun j x hj=>?_,hv.fr (Fr.of_below hb1 (fun _=>False)) (fun _ _ h=>h),fun k hk=>Nat.lt_of_lt_of_le (hD k hk) hb1.size,he.below' hb1,by simp⟩
  ·have h1:=(CellsAt.new w #[c0,c1,c2] 40 (0,0)) j u hj
   rw[Nat.zero_add] at h1;exact(cell_under _ _ (World.block_lt h1)).trans h1
  ·have h1:=(CellsAt.new' (w:=w.alloc (.cells #[c0,c1,c2] 40)) (g:=w.heap.size+1) #[.int .i64 c.pages,.int .i64 c.first,.int .i64 c.limit,.int .i64 c.trigger,.int .i64 c.pile] 45 (0,0) (by simp)) j (.int .i64 x) (by
    have:=congrArg (Option.map (Value.int .i64)) hj;rw[← List.getElem?_map] at this;exact this)
   rw[Nat.zero_add] at h1;exact h1
 have hb1:Below w.heap.size w ((w.alloc (.cells #[c0,c1,c2] 40)).alloc (.cells #[.int .i64 c.pages,.int .i64 c.first,.int .i64 c.limit,.int .i64 c.trigger,.int .i64 c.pile] 45)):=((Below.refl _ _).alloc (Nat.le_refl _) _).alloc (by simp) _;have hres:packS pr c l=packS pr c l:=rfl;obtain⟨R,hR⟩:∃ R,R=packS pr c l:=⟨_,rfl⟩;rw[← hR];have HR:=k_ hR;have HBX:=k_ hbx;have HB1:=k_ hb1;clear hres hR hbx hb1 hv hD he
 show Calls Tryz.prog 9 #[.agg #[c0,c1,c2],.agg #[.int .i64 c.pages,.int .i64 c.first,.int .i64 c.limit,.int .i64 c.trigger,.int .i64 c.pile],.slice a l.length cp] w _
 go_enter Tryz.func9,Tryz.ntmps9
 go_wp2_with fail;refine(cfgCheck_any _ c).mono ?_;rintro e w1 ⟨rfl,hb⟩;have HBX1:=k_ (HBX.out.below hb);have HB2:=k_ (HB1.out.trans (hb.mono HB1.out.size));clear hb HB1 HBX
 by_cases hc:¬ c.ok
 ·have HN:=k_ (show R=(⟨#[]⟩,1) from by rw[HR.out];unfold packS;rw[if_pos hc])
  rw[if_neg hc];go_wp2_with fail
  go_ret2
  exact⟨by rw[HN.out];rfl,HB2.out⟩
 have hc:c.ok:=Decidable.not_not.1 hc;rw[if_pos hc];have HC:=k_ hc;clear hc;have k0:=HBX1.out.p 0 _ rfl;have k1:=HBX1.out.p 1 _ rfl;have k2:=HBX1.out.p 2 _ rfl;go_wp2_with fail;refine(layP_any w1 D pr c0 c1 c2 HBX1.out.v HBX1.out.d hbulk).mono ?_;rintro e w2 ⟨rfl,hb⟩;have HBX2:=k_ (HBX1.out.below hb);have HB3:=k_ (HB2.out.trans (hb.mono HB2.out.size));clear hb HB2 HBX1 k0 k1 k2
 by_cases hp:(wProg pr).2=true
 ·have HN:=k_ (show R=(⟨#[]⟩,1) from by rw[HR.out];unfold packS;rw[if_neg (fun h=>h HC.out),if_pos hp])
  rw[show layPRes pr=.tuple #[.string ⟨#[]⟩,.int .i64 1] from by unfold layPRes;rw[if_pos hp]];go_wp2_with fail
  go_ret2
  exact⟨by rw[HN.out];rfl,HB3.out⟩
 have HP:=k_ hp;rw[show layPRes pr=.tuple #[.string (bytesS (wProg pr).1),.int .i64 0] from by unfold layPRes;rw[if_neg hp]];obtain⟨img,himg⟩:∃ img,img=bytesS (wProg pr).1:=⟨_,rfl⟩
 rw[← himg];have HIS:=k_ (show img.size≤1000000 from by rw[himg];simpa[bytesS,ByteArray.size] using hsz);have HIMG:=k_ himg;clear himg hp hsz hbulk;go_wp2_with fail;refine(script_any l E a cp w2 hl HBX2.out.e).mono ?_;rintro e w3 ⟨rfl,hb⟩;have HBX3:=k_ (HBX2.out.below hb);have HB4:=k_ (HB3.out.trans (hb.mono HB3.out.size));clear hb HB3 HBX2;obtain⟨S,hS⟩:∃ S,S=scrS l:=⟨_,rfl⟩;rw[← hS];have HS:=k_ hS;clear hS;obtain⟨s1,s2⟩:=S;have HSS:=k_ (show s1.size≤100000 from by
  have h1:=scrS_size l;rw[← HS.out] at h1;exact Nat.le_trans h1 hl)
 by_cases h2:s2≠0
 ·have HN:=k_ (show R=(⟨#[]⟩,s2) from by rw[HR.out];unfold packS;rw[if_neg (fun h=>h HC.out),if_neg HP.out,← HS.out,if_pos h2])
  have hd2:decide (s2=0)=false:=by simpa using h2
  go_wp2_with fail
  all_goals (go_ret2;exact⟨by rw[HN.out];rfl,HB4.out⟩)
 have h2:s2=0:=Decidable.not_not.1 h2;subst h2;have HN:=k_ (show R=(bytesS (packH img c) ++ s1,0) from by rw[HR.out];unfold packS;rw[if_neg (fun h=>h HC.out),if_neg HP.out,← HS.out,if_neg (fun h=>h rfl),HIMG.out]);clear HR HP HC HS HIMG;go_wp2_with fail;refine(bytes_any _ _).mono ?_;rintro e w4 ⟨rfl,hw4⟩;have hnew:=heap_new w3 (.cells (laid4 img.size 4) 5);have hb:Below w3.heap.size w3 w4:=by rw[hw4];exact(Below.refl _ _).alloc (Nat.le_refl _) _
 rw[← hw4] at hnew;have HO4:=k_ (own_four hnew (Nat.le_refl _));have HBX4:=k_ (HBX3.out.below hb);have HB5:=k_ (HB4.out.trans (hb.mono HB4.out.size));have hz0:w.heap.size+2≤w3.heap.size:=HBX3.out.s;have hz4:w3.heap.size≤w4.heap.size:=hb.size;obtain⟨z,hz⟩:∃ z,z=w3.heap.size:=⟨_,rfl⟩;rw[← hz] at HO4 hz4 hz0 ⊢;have HZ:=k_ hz0;clear hb hnew hw4 HB4 HBX3 hz hz0
 go_wp2_with (at_builtin;go_loud (refine append_str rfl (.tmp 38) (.tmp 39) rfl z (bytesL img.size) _ rfl HO4.out img rfl ?c1 ?c2 ?_))
 case c1=>have:=HIS.out;simp[bytesL];omega
 case c2=>exact hz4
 intro v5 w5 hown5 hg5 hf5;have hb5:Below z w4 w5:=below_grown (Below.refl z w4) HO4.out hg5 hz4 (Nat.le_refl _);have m0:=(hb5.cell (by have:=HZ.out;show w.heap.size+1<z;omega)).trans (HBX4.out.c 0 _ rfl);have m1:=(hb5.cell (by have:=HZ.out;show w.heap.size+1<z;omega)).trans (HBX4.out.c 1 _ rfl);have m2:=(hb5.cell (by have:=HZ.out;show w.heap.size+1<z;omega)).trans (HBX4.out.c 2 _ rfl);have m3:=(hb5.cell (by have:=HZ.out;show w.heap.size+1<z;omega)).trans (HBX4.out.c 3 _ rfl);have m4:=(hb5.cell (by have:=HZ.out;show w.heap.size+1<z;omega)).trans (HBX4.out.c 4 _ rfl);have HB6:=k_ (HB5.out.trans (hb5.mono (by have:=HZ.out;omega)));have HZ5:=k_ (Nat.le_trans hz4 hb5.size);have HO5:=k_ hown5;clear hb5 hown5 hg5 hf5 hz4 HB5 HBX4 HO4 w4;go_wp2_with fail;have hv5:v5.ownBlock≠some w5.heap.size:=fun e=>absurd (World.ownsRow.lt HO5.out _ e).2 (Nat.lt_irrefl _)
 obtain⟨w6,hw6⟩:∃ u,u=w5.alloc (.cells #[.int .i64 c.pages,.int .i64 c.first,.int .i64 c.limit,.int .i64 c.trigger,.int .i64 c.pile] 3):=⟨_,rfl⟩;have hc6:∀ j x,c.list[j]?=some x→w6.cell? ⟨w5.heap.size,j,none⟩=some (.int .i64 x):=fun j x hj=>by
  rw[hw6];have h1:=(CellsAt.new w5 #[.int .i64 c.pages,.int .i64 c.first,.int .i64 c.limit,.int .i64 c.trigger,.int .i64 c.pile] 3 (0,0)) j (.int .i64 x) (by
   have:=congrArg (Option.map (Value.int .i64)) hj;rw[← List.getElem?_map] at this;exact this)
  rw[Nat.zero_add] at h1;exact h1
 have hb6:Below w5.heap.size w5 w6:=by rw[hw6];exact(Below.refl _ _).alloc (Nat.le_refl _) _
 have HO6:=k_ (HO5.out.below hb6);have HB7:=k_ (HB6.out.trans (hb6.mono HB6.out.size));have hz6:z≤w6.heap.size:=Nat.le_trans HZ5.out hb6.size;rw[← hw6];obtain⟨nb,hnb⟩:∃ nb,nb=w5.heap.size:=⟨_,rfl⟩;rw[← hnb] at hc6 hv5 ⊢;have HC6:=k_ hc6;have HV5:=k_ hv5;have HZ6:=k_ hz6;clear hb6 hw6 HO5 HB6 HZ5 hnb hc6 hv5 hz6 m0 m1 m2 m3 m4
 go_loopw [12,53] (fun v i wr=>∃ k:Nat,k≤5∧i=.int .i64 k∧Own u8E wr z v (bytesL img.size ++ strInts img ++ (c.list.take k).flatMap bytesL)∧v.ownBlock≠some nb∧Below w.heap.size w wr∧z≤wr.heap.size∧∀ j x,c.list[j]?=some x→wr.cell? ⟨nb,j,none⟩=some (.int .i64 x)) (fun _ i _=>5 - (intOf i).toNat)
 case atStart=>exact⟨0,by omega,rfl,by simpa using HO6.out,HV5.out,HB7.out,HZ6.out,HC6.out⟩
 case round =>
  clear HO6 HV5 HB7 HZ6 HC6;obtain⟨k,hk,rfl,ho,hvn,hB,hzr,hcs⟩:=hrel
  by_cases hlt:k<5
  ·obtain⟨x,hx⟩:∃ x,c.list[k]?=some x:=⟨c.list[k]'(by simpa[Cfg.list] using hlt),List.getElem?_eq_getElem _⟩
   have hcell:=hcs k x hx;have HX:=k_ hx;have HO:=k_ ho;have HVN:=k_ hvn;have HB:=k_ hB;have HZR:=k_ hzr;have HCS:=k_ hcs;clear hx ho hvn hB hzr hcs;go_wp2_with fail;refine(bytes_any x _).mono ?_;rintro e w7 ⟨rfl,hw7⟩;have hb:Below wr.heap.size wr w7:=by rw[hw7];exact(Below.refl _ _).alloc (Nat.le_refl _) _
   have hsrc:CellsAt w7 wr.heap.size 0 ((bytesL x).flatMap u8E.enc):=by rw[hw7];exact CellsAt.new wr (laid4 x 4) 5 (0,0)
   have hcs7:∀ j y,c.list[j]?=some y→w7.cell? ⟨nb,j,none⟩=some (.int .i64 y):=fun j y hj=>below_cell hb (HCS.out j y hj)
   have HO7:=k_ (HO.out.below hb);have HB8:=k_ (HB.out.trans (hb.mono HB.out.size));have HZ7:=k_ (Nat.le_trans HZR.out hb.size);have HNB:=k_ (Nat.lt_of_lt_of_le (World.block_lt (HCS.out 0 _ rfl)) hb.size);have HCS7:=k_ hcs7;have HSRC:=k_ hsrc;have HLN:=k_ (show (bytesL img.size ++ strInts img ++ (c.list.take k).flatMap bytesL).length≤2000000 from by
    have h1:((c.list.take k).flatMap bytesL).length=4 * (c.list.take k).length:=by
     rw[List.length_flatMap];generalize c.list.take k=L
     induction L with
     | nil=>rfl
     | cons y L ih=>rw[List.map_cons,List.sum_cons,ih,List.length_cons];show 4+_=_;omega
    have:=HIS.out;rw[List.length_append,List.length_append,h1,strInts_len,List.length_take]
    show 4+_+_≤_
    omega)
   clear hb hsrc hcs7 hw7 hcell HO HB HZR HCS
   go_wp2_with (at_builtin;refine append_fresh u8E rfl (.tmp 57) (.tmp 59) rfl z (bytesL img.size ++ strInts img ++ (c.list.take k).flatMap bytesL) (bytesL x) _ rfl HO7.out wr.heap.size 0 4 rfl HSRC.out ?c1 ?c2 ?_)
   case c1=>have:=HLN.out;show _+4≤_;omega
   case c2=>exact HZ7.out
   intro v9 w9 hown9 hg9 hf9;have HO9:=k_ hown9;have HB9:=k_ (below_grown HB8.out HO7.out hg9 HB8.out.size (by have:=HZ.out;omega));have HVN9:=k_ (show v9.ownBlock≠some nb from fun e=>(hf9 nb e).elim HVN.out (fun h=>absurd HNB.out (Nat.not_lt.2 h)));have HCS9:=k_ (show ∀ j y,c.list[j]?=some y→w9.cell? ⟨nb,j,none⟩=some (.int .i64 y) from fun j y hj=>cell_grown hg9 (HCS7.out j y hj) HVN.out);have HZ9:=k_ (Nat.le_trans HZ7.out hg9.size);clear hown9 hg9 hf9 HO7 HB8 HCS7 HVN HSRC HLN;go_wp2_with fail
   go_roundw
   case rel =>
    refine⟨k+1,by omega,by go_num,?_,HVN9.out,HB9.out,HZ9.out,HCS9.out⟩;rw[List.take_add_one,HX.out,List.flatMap_append,← List.append_assoc]
    simpa using HO9.out
   case measure=>simp[intOf];omega
  ·have hk':k=5:=by omega
   subst hk';have HO:=k_ ho;have HB:=k_ hB;clear ho hvn hB hzr hcs;have hcv:=own_str HO.out;obtain⟨T,hT⟩:∃ T,T=bytesS (bytesL img.size ++ strInts img ++ (c.list.take 5).flatMap bytesL):=⟨_,rfl⟩
   rw[← hT] at hcv;have hpk:T=bytesS (packH img c):=hT
   have hts:T.size≤2000000:=by
    rw[hT];have h1:((c.list.take 5).flatMap bytesL).length=20:=rfl;have h2:∀ L:List Int,(bytesS L).size=L.length:=fun L=>by simp[bytesS,ByteArray.size]
    have:=HIS.out;rw[h2,List.length_append,List.length_append,h1,strInts_len]
    show 4+_+_≤_
    omega
   have hsum:¬ 9223372036854775807<T.size+s1.size:=by have:=HSS.out;omega
   have HPK:=k_ hpk;clear hT hpk hts;go_wp2_with fail
   go_ret2
   exact⟨by rw[HN.out,← HPK.out];rfl,HB.out⟩
def l26:List Ent:=List.replicate 5 ⟨0,0⟩
def b26:ByteArray:=(packS (pZ (-7)) cfgP l26).1
theorem pack26:packS (pZ (-7)) cfgP l26=(b26,0):=by
 have h:(packS (pZ (-7)) cfgP l26).2=0:=by kernel_rfl
 exact Prod.ext rfl h
theorem size26:b26.size≤100000:=by decide +kernel
theorem unE26:unE b26=0:=by kernel_rfl
theorem cfg26:unCfg b26=cfgP:=by kernel_rfl
theorem ents26:entsL (unN b26 5).2.1=l26:=by kernel_rfl
theorem prg26:readP (unImg b26).1=pZ (-7):=by kernel_rfl
def sOne:ByteArray:=⟨#[49]⟩
def sSev:ByteArray:=⟨#[45,55]⟩
structure BuiC (IS:Nat→Nat→List UInt8→World→Prop):Prop where
 fresh:∀ w:World,IS w.heap.size w.heap.size [] (w.alloc (.cells #[.pointer none,.slice none 0 0] 59))
 keep:∀ B b l w w',IS B b l w→Below w.heap.size w w'→IS B b l w'
 write:∀ B b l s w,IS B b l w→l.length+s.size≤1000→B≤w.heap.size→Calls Tryz.prog 17 #[.pointer (some ⟨b,0,none⟩),.string s] w fun e w'=>e=.returned (.tuple #[.int .i64 s.size,.nilIface])∧IS B b (l ++ s.data.toList) w'∧Below B w w'
 str:∀ B b l w,IS B b l w→B≤w.heap.size→Calls Tryz.prog 18 #[.pointer (some ⟨b,0,none⟩)] w fun e w'=>e=.returned (.string ⟨l.toArray⟩)∧Below B w w'
theorem play26 (IS:Nat→Nat→List UInt8→World→Prop) (hI:BuiC IS) (w:World) (one:∀ w',Below w.heap.size w w'→Calls Tryz.prog 16 #[.int .i64 1] w' fun e w2=>e=.returned (.string sOne)∧Below w'.heap.size w' w2)
  (sev:∀ w',Below w.heap.size w w'→Calls Tryz.prog 16 #[.int .i64 (-7)] w' fun e w2=>e=.returned (.string sSev)∧Below w'.heap.size w' w2) :
  Calls Tryz.prog 11 #[.string b26] w fun e w'=>e=.returned (.string ⟨#[115,116,97,116,117,115,32,49,32,45,55]⟩)∧Below w.heap.size w w':=by
 have rn:=run_any b26 w (-7) (Or.inr rfl) size26 unE26 prg26 cfg26 (by rw[ents26];intro x hx;exact List.eq_of_mem_replicate hx) (by rw[ents26];decide) (by rw[ents26];decide);have HRN:=k_ rn;have HI:=k_ hI;have HONE:=k_ one;have HSEV:=k_ sev;clear rn hI one sev;generalize b26=b at *
 go_enter Tryz.func11,Tryz.ntmps11
 go_wp2_with fail;refine HRN.out.mono ?_;rintro e w1 ⟨vs,rfl,ho,hb⟩;obtain⟨a,c,heo,hco⟩:=own_elems ho;obtain⟨g,h1,_,h3⟩:=hco 0 (by show 0<1;decide);subst h1;have heo:vs=.slice (some ⟨g,0,none⟩) 1 c:=heo;subst heo;have hc0:w1.cell? ⟨g,0,none⟩=some (.int .i64 (-7)):=h3 0 _ rfl;have HC0:=k_ hc0;have HB1:=k_ hb;clear ho hb hco h3 hc0 HRN;go_wp2_with fail;obtain⟨w2,hw2⟩:∃ u,u=w1.alloc (.cells #[.pointer none,.slice none 0 0] 59):=⟨_,rfl⟩;have hf:=HI.out.fresh w1;have hb2:Below w1.heap.size w1 w2:=by rw[hw2];exact(Below.refl _ _).alloc (Nat.le_refl _) _
 rw[← hw2] at hf ⊢;have hbb:w.heap.size≤w1.heap.size:=HB1.out.size;have HB2:=k_ (HB1.out.trans (hb2.mono hbb));have HC2:=k_ (below_cell hb2 HC0.out);have hlt:=World.block_lt HC0.out;have hb12:=hb2.size;obtain⟨bb,hbbe⟩:∃ u,u=w1.heap.size:=⟨_,rfl⟩;rw[← hbbe] at hf hbb hlt hb12 ⊢;have HF:=k_ hf;have HBB:=k_ (And.intro hbb (And.intro (show g<bb from hlt) hb12));clear hw2 hf hb2 hbb hlt hb12 hbbe HC0 HB1;refine(HONE.out w2 HB2.out).mono ?_;rintro e w3 ⟨rfl,hb⟩;have HB3:=k_ (HB2.out.trans (hb.mono HB2.out.size));have HC3:=k_ (below_cell hb HC2.out);have HF3:=k_ (HI.out.keep _ _ _ _ _ HF.out hb);have HZ3:=k_ (Nat.le_trans HBB.out.2.2 hb.size);clear hb HB2 HC2 HF;go_wp2_with fail;refine(HI.out.write bb bb [] _ w3 HF3.out (by decide +kernel) HZ3.out).mono ?_;rintro e w4 ⟨rfl,hi,hb⟩;obtain⟨L1,hL1⟩:∃ L,L=([]:List UInt8) ++ ((⟨#[115,116,97,116,117,115,32]⟩:ByteArray) ++ sOne).data.toList:=⟨_,rfl⟩;rw[← hL1] at hi;have HL1:=k_ (show L1=[115,116,97,116,117,115,32,49] from by rw[hL1];decide +kernel);have HI4:=k_ hi;have HB4:=k_ (HB3.out.trans (hb.mono HBB.out.1));have HC4:=k_ ((hb.cell (show g<bb from HBB.out.2.1)).trans HC3.out);have HZ4:=k_ (Nat.le_trans HZ3.out hb.size);clear hb hi hL1 HB3 HC3 HF3 HZ3;generalize (({ data:=#[115,116,97,116,117,115,32] }:ByteArray) ++ sOne)=z1 at *;go_wp2_with fail
 go_loopw [26] (fun i wr=>(i=.int .i64 0∧IS bb bb L1 wr∧Below w.heap.size w wr∧wr.cell? ⟨g,0,none⟩=some (.int .i64 (-7))∧bb≤wr.heap.size)∨(i=.int .i64 1∧(∃ L,IS bb bb L wr∧L=[115,116,97,116,117,115,32,49,32,45,55])∧Below w.heap.size w wr∧bb≤wr.heap.size)) (fun i _=>1 - (intOf i).toNat)
 case atStart=>exact Or.inl ⟨rfl,HI4.out,HB4.out,HC4.out,HZ4.out⟩
 case round =>
  clear HI4 HB4 HC4 HZ4
  rcases hrel with⟨rfl,hi,hB,hc,hz⟩ | ⟨rfl,⟨L,hi,hL⟩,hB,hz⟩
  ·have HIr:=k_ hi
   have HBr:=k_ hB;have HCr:=k_ hc;have HZr:=k_ hz;clear hi hB hz;go_wp2_with fail;refine(HSEV.out wr HBr.out).mono ?_;rintro e w5 ⟨rfl,hb⟩;have HI5:=k_ (HI.out.keep _ _ _ _ _ HIr.out hb);have HB5:=k_ (HBr.out.trans (hb.mono HBr.out.size));have HZ5:=k_ (Nat.le_trans HZr.out hb.size);clear hb hc HIr HBr HCr HZr;go_wp2_with fail;refine(HI.out.write bb bb L1 _ w5 HI5.out (by rw[HL1.out];decide +kernel) HZ5.out).mono ?_;rintro e w6 ⟨rfl,hi,hb⟩;have HI6:=k_ hi;have HB6:=k_ (HB5.out.trans (hb.mono HBB.out.1));have HZ6:=k_ (Nat.le_trans HZ5.out hb.size);clear hi hb HI5 HB5 HZ5;go_wp2_with fail
   go_roundw
   case rel=>exact Or.inr ⟨rfl,⟨_,HI6.out,by rw[HL1.out];decide +kernel⟩,HB6.out,HZ6.out⟩
   case measure=>simp[intOf]
  ·have HIr:=k_ hi
   have HLr:=k_ hL;have HBr:=k_ hB;have HZr:=k_ hz;clear hi hL hB hz;go_wp2_with fail;refine(HI.out.str bb bb L wr HIr.out HZr.out).mono ?_;rintro e w7 ⟨rfl,hb⟩;have HB7:=k_ (HBr.out.trans (hb.mono HBB.out.1));clear hb;go_wp2_with fail
   go_ret
   exact⟨by rw[HLr.out];rfl,HB7.out⟩
theorem res_pl (t:Array Value) (W:World) (B:Nat) {y0 y1 y2 y3 y4:Value} (h0:t.getD 0 undef=.pointer (some ⟨B,0,none⟩))
  (hb:W.heap[B]?=some (.cells #[y0,y1,y2,y3,y4] 45)) :
  (results Tryz.f10 t).run Tryz.prog W=.ok (.agg #[y0,y1,y2,y3,y4]) W:=by
 obtain⟨⟨g0,g1,g2,g3,g4⟩,_⟩:=five_cells hb;rw[Array.getD_eq_getD_getElem?] at h0
 simp[results,Tryz.results10,go_sem,g0,g1,g2,g3,g4,h0]
theorem plain_cfg (w:World):Calls Tryz.prog 10 #[] w fun e w'=>e=.returned cfgP.val∧Below w.heap.size w w':=by
 go_enter Tryz.func10,Tryz.ntmps10
 go_wp2_with fail;refine bodyPost_ret (res_pl _ _ w.heap.size rfl (heap_new w (.cells #[.int .i64 8,.int .i64 16,.int .i64 512,.int .i64 40,.int .i64 8] 45))) rfl ⟨rfl,?_⟩;exact(Below.refl _ _).alloc (Nat.le_refl _) _
def e26:List Ent:=[⟨0,3⟩,⟨1,0⟩]
theorem scr26:scrS e26=(⟨#[3,32]⟩,0):=by kernel_rfl
theorem ent26:entsS ⟨#[3,32]⟩=(e26,0):=by kernel_rfl
def zB (w:World):World:=((w.alloc (.cells #[.int .i64 1,.int .i64 0,.int .i64 (-7),.int .i64 0,.int .i64 29,.int .i64 0,.int .i64 0,.int .i64 0,.int .i64 27,.int .i64 0,.int .i64 0,.int .i64 0] 32)).alloc (.cells #[.slice none 0 0,.int .i64 0,.int .i64 1,.slice none 0 0,.slice (some ⟨w.heap.size,0,none⟩) 3 3] 36)).alloc (.cells #[.slice none 0 0,.slice none 0 0,.slice (some ⟨w.heap.size+1,0,none⟩) 1 1] 40)
theorem zB_below (w:World):Below w.heap.size w (zB w):=(((Below.refl _ _).alloc (Nat.le_refl _) _).alloc (by simp) _).alloc (by simp;omega) _
theorem zB_size (w:World):(zB w).heap.size=w.heap.size+3:=by simp[zB]
theorem zB_cells (w:World):(∀ (j:Nat) u,(#[Value.int .i64 1,.int .i64 0,.int .i64 (-7),.int .i64 0,.int .i64 29,.int .i64 0,.int .i64 0,.int .i64 0,.int .i64 27,.int .i64 0,.int .i64 0,.int .i64 0])[j]?=some u→(zB w).cell? ⟨w.heap.size,j,none⟩=some u)∧(∀ (j:Nat) u,(#[Value.slice none 0 0,.int .i64 0,.int .i64 1,.slice none 0 0,.slice (some ⟨w.heap.size,0,none⟩) 3 3])[j]?=some u→(zB w).cell? ⟨w.heap.size+1,j,none⟩=some u):=by
 refine⟨fun j u h=>?_,fun j u h=>?_⟩
 ·unfold zB
  rw[cell_under _ _ (by simp;omega),cell_under _ _ (by simp),cell_new];exact h
 ·unfold zB
  rw[cell_under _ _ (by simp)];rw[show w.heap.size+1=(w.alloc (.cells #[.int .i64 1,.int .i64 0,.int .i64 (-7),.int .i64 0,.int .i64 29,.int .i64 0,.int .i64 0,.int .i64 0,.int .i64 27,.int .i64 0,.int .i64 0,.int .i64 0] 32)).heap.size from by simp,cell_new]
  simpa using h
theorem zB_prg (w:World):PrgVal (zB w) (fun k=>k<w.heap.size+2) (pZ (-7)) (.slice none 0 0) (.slice none 0 0) (.slice (some ⟨w.heap.size+1,0,none⟩) 1 1):=by
 obtain⟨h1,h2⟩:=zB_cells w;refine⟨⟨none,0,rfl,fun j hj=>by cases hj⟩,⟨none,0,rfl,fun j hj=>by cases hj⟩,_,1,rfl,fun j hj=>?_⟩;have hj0:j=0:=by have:j<1:=hj;omega
 subst hj0;refine⟨w.heap.size+1,0,rfl,by show w.heap.size+1<w.heap.size+2;omega,_,_,_,_,_,h2 0 _ rfl,h2 1 _ rfl,h2 2 _ rfl,h2 3 _ rfl,h2 4 _ rfl,rfl,rfl,⟨none,0,rfl,fun j hj=>by cases hj⟩,⟨none,0,rfl,fun j hj=>by cases hj⟩,_,3,rfl,fun i hi=>?_⟩;have hi0:i=0∨i=1∨i=2:=by have:i<3:=hi;omega
 rcases hi0 with rfl | rfl | rfl
 ·exact⟨w.heap.size,0,rfl,by show w.heap.size<w.heap.size+2;omega,h1 0 _ rfl,h1 1 _ rfl,h1 2 _ rfl,h1 3 _ rfl⟩
 ·exact⟨w.heap.size,0,rfl,by show w.heap.size<w.heap.size+2;omega,h1 4 _ rfl,h1 5 _ rfl,h1 6 _ rfl,h1 7 _ rfl⟩
 ·exact⟨w.heap.size,0,rfl,by show w.heap.size<w.heap.size+2;omega,h1 8 _ rfl,h1 9 _ rfl,h1 10 _ rfl,h1 11 _ rfl⟩
theorem alive26 (w:World) (PLAY:∀ w1:World,Below w.heap.size w w1→Calls Tryz.prog 11 #[.string b26] w1 fun e w'=>e=.returned (.string ⟨#[115,116,97,116,117,115,32,49,32,45,55]⟩)∧Below w1.heap.size w1 w') :
  Calls Tryz.prog 5 #[] w fun e w'=>e=.returned (.bool true)∧Below w.heap.size w w':=by
 have HPLAY:=k_ PLAY;clear PLAY;have hsc:CellsAt (w.alloc (.cells #[.int .i64 0,.int .i64 3,.int .i64 1,.int .i64 0] 42)) w.heap.size 0 _:=CellsAt.new w #[.int .i64 0,.int .i64 3,.int .i64 1,.int .i64 0] 42 (0,0);have hes:EntSl (w.alloc (.cells #[.int .i64 0,.int .i64 3,.int .i64 1,.int .i64 0] 42)) (fun _=>True) (some ⟨w.heap.size,0,none⟩) e26:=fun j hj=>by
  have hj2:j<2:=hj;have h2:j=0∨j=1:=by omega
  rcases h2 with rfl | rfl
  ·exact⟨_,_,rfl,trivial,hsc 0 _ rfl,hsc 1 _ rfl⟩
  ·exact⟨_,_,rfl,trivial,hsc 2 _ rfl,hsc 3 _ rfl⟩
 have sc:=script_any e26 _ _ 2 _ (by decide) hes;rw[scr26] at sc;have HSC:=k_ sc;have HB0:=k_ ((Below.refl w.heap.size w).alloc (Nat.le_refl _) (.cells #[.int .i64 0,.int .i64 3,.int .i64 1,.int .i64 0] 42));clear sc hsc hes
 go_enter Tryz.func5,Tryz.ntmps5
 go_wp2_with fail;refine HSC.out.mono ?_;rintro e w1 ⟨rfl,hb⟩;have HB1:=k_ (HB0.out.trans (hb.mono HB0.out.size));clear hb HB0 HSC;go_wp2_with fail;have en:=entries_any ⟨#[3,32]⟩ w1 (by decide);rw[ent26] at en;refine en.mono ?_;rintro e w2 ⟨v,rfl,ho,hb⟩;have HB2:=k_ (HB1.out.trans (hb.mono HB1.out.size));obtain⟨a,cp,hv,hent⟩:=own_ent ho;have hv:v=.slice a 2 cp:=hv;subst hv;have HENT:=k_ hent;clear hb ho HB1 hent en
 go_upto_region 4 with fail
 have hzp:=zB_prg w2;have hzb:=zB_below w2;have hz3:(zB w2).heap[w2.heap.size+2]?=some (.cells #[.slice none 0 0,.slice none 0 0,.slice (some ⟨w2.heap.size+1,0,none⟩) 1 1] 40):=by
  unfold zB;rw[show w2.heap.size+2=((w2.alloc (.cells #[.int .i64 1,.int .i64 0,.int .i64 (-7),.int .i64 0,.int .i64 29,.int .i64 0,.int .i64 0,.int .i64 0,.int .i64 27,.int .i64 0,.int .i64 0,.int .i64 0] 32)).alloc (.cells #[.slice none 0 0,.int .i64 0,.int .i64 1,.slice none 0 0,.slice (some ⟨w2.heap.size,0,none⟩) 3 3] 36)).heap.size from by simp];exact heap_new _ _
 rw[show ((w2.alloc (.cells #[.int .i64 1,.int .i64 0,.int .i64 (-7),.int .i64 0,.int .i64 29,.int .i64 0,.int .i64 0,.int .i64 0,.int .i64 27,.int .i64 0,.int .i64 0,.int .i64 0] 32)).alloc (.cells #[.slice none 0 0,.int .i64 0,.int .i64 1,.slice none 0 0,.slice (some ⟨w2.heap.size,0,none⟩) 3 3] 36)).alloc (.cells #[.slice none 0 0,.slice none 0 0,.slice (some ⟨w2.heap.size+1,0,none⟩) 1 1] 40)=zB w2 from rfl];obtain⟨Z,hZ⟩:∃ Z,Z=zB w2:=⟨_,rfl⟩;have hzs:Z.heap.size=w2.heap.size+3:=by rw[hZ,zB_size]
 rw[← hZ] at hzp hzb hz3 ⊢;clear hZ;have HZP:=k_ hzp;have HB3:=k_ (HB2.out.trans (hzb.mono HB2.out.size));have HENT3:=k_ (HENT.out.below' hzb);obtain⟨pb,hpb⟩:∃ pb,pb=w2.heap.size+2:=⟨_,rfl⟩;have HPB:=k_ hpb;have HZS:=k_ hzs;obtain⟨fb,hfb⟩:∃ fb,fb=w2.heap.size+1:=⟨_,rfl⟩;have HFB:=k_ hfb
 try rw[show w2.heap.size+1+1=pb from hpb.symm]
 rw[← hpb] at hz3
 try rw[← hpb]
 rw[← hfb] at hz3 HZP ⊢;obtain⟨z0,z1,z2⟩:=(three_cells hz3).1;clear hzp hzb hz3 hzs hpb hfb HENT HB2;refine wp_region_noPanic ?_;refine wp_region_held_drew (S:=fun w'=>w'.cell? ⟨pb,0,none⟩=some (.slice none 0 0)∧w'.cell? ⟨pb,1,none⟩=some (.slice none 0 0)∧w'.cell? ⟨pb,2,none⟩=some (.slice (some ⟨fb,0,none⟩) 1 1)) (by kernel_rfl) ⟨z0,z1,z2⟩ (fun _=>?_);have HSS:=k_ (show Z.drew.cell? ⟨pb,0,none⟩=some (.slice none 0 0)∧Z.drew.cell? ⟨pb,1,none⟩=some (.slice none 0 0)∧Z.drew.cell? ⟨pb,2,none⟩=some (.slice (some ⟨fb,0,none⟩) 1 1) from⟨z0,z1,z2⟩);have HZD:=k_ (show Below Z.heap.size Z Z.drew from(Below.refl _ _).drew);clear z0 z1 z2;generalize Z.drew=Y at *;refine wpAnyH_take (i:=0) (v:=?_) rfl (by kernel_rfl) (by kernel_rfl) (by kernel_rfl) (fun _ _ _ h=>h) (Or.inl ⟨by kernel_rfl,?tq0⟩) HSS.out ?_
 case tq0=>(intro wq hq;obtain⟨q0,q1,q2⟩:=hq;go_simp;first | done | with_reducible rfl)
 refine wpAnyH_take (i:=2) (v:=?_) rfl (by kernel_rfl) (by kernel_rfl) (by kernel_rfl) (fun _ _ _ h=>h) (Or.inl ⟨by kernel_rfl,?tq2⟩) HSS.out ?_
 case tq2=>(intro wq hq;obtain⟨q0,q1,q2⟩:=hq;go_simp;first | done | with_reducible rfl)
 refine wpAnyH_take (i:=3) (v:=?_) rfl (by kernel_rfl) (by kernel_rfl) (by kernel_rfl) (fun _ _ _ h=>h) (Or.inl ⟨by kernel_rfl,?tq3⟩) HSS.out ?_
 case tq3=>(intro wq hq;obtain⟨q0,q1,q2⟩:=hq;go_simp;first | done | with_reducible rfl)
 refine wpAnyH_take (i:=4) (v:=?_) rfl (by kernel_rfl) (by kernel_rfl) (by kernel_rfl) (fun _ _ _ h=>h) (Or.inl ⟨by kernel_rfl,?tq4⟩) HSS.out ?_
 case tq4=>(intro wq hq;obtain⟨q0,q1,q2⟩:=hq;go_simp;first | done | with_reducible rfl)
 refine wpAnyH_take (i:=5) (v:=?_) rfl (by kernel_rfl) (by kernel_rfl) (by kernel_rfl) (fun _ _ _ h=>h) (Or.inl ⟨by kernel_rfl,?tq5⟩) HSS.out ?_
 case tq5=>(intro wq hq;obtain⟨q0,q1,q2⟩:=hq;go_simp;first | done | with_reducible rfl)
 refine wpAnyH_take (i:=6) (v:=?_) rfl (by kernel_rfl) (by kernel_rfl) (by kernel_rfl) (fun _ _ _ h=>h) (Or.inl ⟨by kernel_rfl,?tq6⟩) HSS.out ?_
 case tq6=>(intro wq hq;obtain⟨q0,q1,q2⟩:=hq;go_simp;first | done | with_reducible rfl)
 refine wpAnyH_ready (rs:=[1,7]) (by kernel_rfl) (by simp) ?_;refine(AllReadyH.cons rfl (fun K hK=>?_) (AllReadyH.cons rfl (fun K hK=>?_) AllReadyH.nil))
 ·go_simp
  refine(plain_cfg Y).mono ?_;rintro e Y1 ⟨rfl,hbw⟩;have HZ1:=k_ (HZD.out.trans (hbw.mono HZD.out.size));have HS1:=k_ (And.intro (below_cell hbw HSS.out.1) (And.intro (below_cell hbw HSS.out.2.1) (below_cell hbw HSS.out.2.2)));have HBW:=k_ hbw;clear hbw;refine hK.out _ _ HS1.out (fun _=>?_);clear hK K;refine wpAnyH_ready (rs:=[7]) (by kernel_rfl) (by simp) ?_;refine(AllReadyH.cons rfl (fun K hK=>?_) AllReadyH.nil);go_simp;obtain⟨Y2,hn⟩:∃ u,u=World.alloc Y1 (.cells #[.int .i64 0,.int .i64 0,.int .i64 0,.int .i64 0,.int .i64 0,.int .i64 0,.int .i64 0,.int .i64 0,.int .i64 0,.int .i64 0] 42):=⟨_,rfl⟩;have hcl:∀ (j:Nat) u,(#[Value.int .i64 0,.int .i64 0,.int .i64 0,.int .i64 0,.int .i64 0,.int .i64 0,.int .i64 0,.int .i64 0,.int .i64 0,.int .i64 0]:Array Value)[j]?=some u→(Y2).cell? ⟨(Y1).heap.size,j,none⟩=some u:=fun j u hj=>by rw[hn,cell_new];exact hj
  have hbw:Below (Y1).heap.size Y1 Y2:=by rw[hn];exact(Below.refl _ _).alloc (Nat.le_refl _) _
  obtain⟨nb,hnb⟩:∃ u,u=(Y1).heap.size:=⟨_,rfl⟩;rw[← hnb] at hcl;rw[← hn,← hnb];have HCL:=k_ hcl;have HZ2:=k_ (HZ1.out.trans (hbw.mono HZ1.out.size));have HS2:=k_ (And.intro (below_cell hbw HS1.out.1) (And.intro (below_cell hbw HS1.out.2.1) (below_cell hbw HS1.out.2.2)));clear hn hcl hbw hnb;refine hK.out _ _ HS2.out (fun _=>?_);clear hK K;have hes:EntSl Y2 (fun _=>True) (some ⟨nb,0,none⟩) l26:=fun j hj=>by
   have hj5:j<5:=hj;have h5:j=0∨j=1∨j=2∨j=3∨j=4:=by omega
   rcases h5 with rfl | rfl | rfl | rfl | rfl
   ·exact⟨_,_,rfl,trivial,HCL.out 0 _ rfl,HCL.out 1 _ rfl⟩
   ·exact⟨_,_,rfl,trivial,HCL.out 2 _ rfl,HCL.out 3 _ rfl⟩
   ·exact⟨_,_,rfl,trivial,HCL.out 4 _ rfl,HCL.out 5 _ rfl⟩
   ·exact⟨_,_,rfl,trivial,HCL.out 6 _ rfl,HCL.out 7 _ rfl⟩
   ·exact⟨_,_,rfl,trivial,HCL.out 8 _ rfl,HCL.out 9 _ rfl⟩
  have pk:=pack_any Y2 _ _ (pZ (-7)) cfgP l26 _ _ _ _ 5 (HZP.out.fr (Fr.of_below HZ2.out (fun _=>False)) (fun _ _ h=>h)) (fun k hk=>by have:=HZS.out;have:=HZ2.out.size;have hk:k<w2.heap.size+2:=hk;omega) (by decide) (by decide +kernel) (by decide) hes;rw[pack26] at pk;have HPK:=k_ pk;clear pk hes;refine wpAnyH_ready (rs:=[8]) (by kernel_rfl) (by simp) ?_;refine(AllReadyH.cons rfl (fun K hK=>?_) AllReadyH.nil);go_simp;refine HPK.out.mono ?_;rintro e w9 ⟨rfl,hbw⟩;have hs9:=And.intro (below_cell hbw HS2.out.1) (And.intro (below_cell hbw HS2.out.2.1) (below_cell hbw HS2.out.2.2));have HB9:=k_ (HB3.out.trans ((HZ2.out.trans (hbw.mono HZ2.out.size)).mono HB3.out.size));have HE9:=k_ ((HENT3.out.below' HZ2.out).below' hbw);have HS9:=k_ hs9;clear hbw hs9;refine hK.out _ _ HS9.out (fun _=>?_);clear hK K HPK;refine wpAnyH_take (i:=9) (v:=?_) rfl (by kernel_rfl) (by kernel_rfl) (by kernel_rfl) (fun _ _ _ h=>h) (Or.inl ⟨by kernel_rfl,?tq9⟩) HS9.out ?_
  case tq9=>(intro wq hq;obtain⟨q0,q1,q2⟩:=hq;go_simp;first | done | with_reducible rfl)
  refine wpAnyH_take (i:=10) (v:=?_) rfl (by kernel_rfl) (by kernel_rfl) (by kernel_rfl) (fun _ _ _ h=>h) (Or.inl ⟨by kernel_rfl,?tq10⟩) HS9.out ?_
  case tq10=>(intro wq hq;obtain⟨q0,q1,q2⟩:=hq;go_simp;first | done | with_reducible rfl)
  refine wpAnyH_take (i:=11) (v:=?_) rfl (by kernel_rfl) (by kernel_rfl) (by kernel_rfl) (fun _ _ _ h=>h) (Or.inl ⟨by kernel_rfl,?tq11⟩) HS9.out ?_
  case tq11=>(intro wq hq;obtain⟨q0,q1,q2⟩:=hq;go_simp;first | done | with_reducible rfl)
  refine wpAnyH_take (i:=12) (v:=?_) rfl (by kernel_rfl) (by kernel_rfl) (by kernel_rfl) (fun _ _ _ h=>h) (Or.inl ⟨by kernel_rfl,?tq12⟩) HS9.out ?_
  case tq12=>(intro wq hq;obtain⟨q0,q1,q2⟩:=hq;go_simp;first | done | with_reducible rfl)
  refine wpAnyH_take (i:=13) (v:=?_) rfl (by kernel_rfl) (by kernel_rfl) (by kernel_rfl) (fun _ _ _ h=>h) (Or.inl ⟨by kernel_rfl,?tq13⟩) HS9.out ?_
  case tq13=>(intro wq hq;obtain⟨q0,q1,q2⟩:=hq;go_simp;first | done | with_reducible rfl)
  refine wpAnyH_done (by kernel_rfl) ?_ _;refine NoPanic.normal ?_;obtain⟨eb,eo,rfl,_,c0,_⟩:=HE9.out 1 (by decide);have c0:w9.cell? ⟨eb,eo+2,none⟩=some (.int .i64 1):=c0;clear HE9 HS9 HENT3;go_wp2_with fail;refine(HPLAY.out _ HB9.out).mono ?_;rintro e w10 ⟨rfl,hb⟩;have HBB:=k_ (HB9.out.trans (hb.mono HB9.out.size));clear hb c0;go_wp2_with fail
  go_ret
  exact⟨rfl,HBB.out⟩
 ·go_simp
  obtain⟨Y1,hn⟩:∃ u,u=World.alloc Y (.cells #[.int .i64 0,.int .i64 0,.int .i64 0,.int .i64 0,.int .i64 0,.int .i64 0,.int .i64 0,.int .i64 0,.int .i64 0,.int .i64 0] 42):=⟨_,rfl⟩;have hcl:∀ (j:Nat) u,(#[Value.int .i64 0,.int .i64 0,.int .i64 0,.int .i64 0,.int .i64 0,.int .i64 0,.int .i64 0,.int .i64 0,.int .i64 0,.int .i64 0]:Array Value)[j]?=some u→(Y1).cell? ⟨(Y).heap.size,j,none⟩=some u:=fun j u hj=>by rw[hn,cell_new];exact hj
  have hbw:Below (Y).heap.size Y Y1:=by rw[hn];exact(Below.refl _ _).alloc (Nat.le_refl _) _
  obtain⟨nb,hnb⟩:∃ u,u=(Y).heap.size:=⟨_,rfl⟩;rw[← hnb] at hcl;rw[← hn,← hnb];have HCL:=k_ hcl;have HZ1:=k_ (HZD.out.trans (hbw.mono HZD.out.size));have HS1:=k_ (And.intro (below_cell hbw HSS.out.1) (And.intro (below_cell hbw HSS.out.2.1) (below_cell hbw HSS.out.2.2)));clear hn hcl hbw hnb;refine hK.out _ _ HS1.out (fun _=>?_);clear hK K;refine wpAnyH_ready (rs:=[1]) (by kernel_rfl) (by simp) ?_;refine(AllReadyH.cons rfl (fun K hK=>?_) AllReadyH.nil);go_simp;refine(plain_cfg Y1).mono ?_;rintro e Y2 ⟨rfl,hbw⟩;have HZ2:=k_ (HZ1.out.trans (hbw.mono HZ1.out.size));have HS2:=k_ (And.intro (below_cell hbw HS1.out.1) (And.intro (below_cell hbw HS1.out.2.1) (below_cell hbw HS1.out.2.2)));have HBW:=k_ hbw;clear hbw;refine hK.out _ _ HS2.out (fun _=>?_);clear hK K;have HCL2:=k_ (show ∀ (j:Nat) u,(#[Value.int .i64 0,.int .i64 0,.int .i64 0,.int .i64 0,.int .i64 0,.int .i64 0,.int .i64 0,.int .i64 0,.int .i64 0,.int .i64 0]:Array Value)[j]?=some u→Y2.cell? ⟨nb,j,none⟩=some u from fun j u hj=>below_cell HBW.out (HCL.out j u hj));have hes:EntSl Y2 (fun _=>True) (some ⟨nb,0,none⟩) l26:=fun j hj=>by
   have hj5:j<5:=hj;have h5:j=0∨j=1∨j=2∨j=3∨j=4:=by omega
   rcases h5 with rfl | rfl | rfl | rfl | rfl
   ·exact⟨_,_,rfl,trivial,HCL2.out 0 _ rfl,HCL2.out 1 _ rfl⟩
   ·exact⟨_,_,rfl,trivial,HCL2.out 2 _ rfl,HCL2.out 3 _ rfl⟩
   ·exact⟨_,_,rfl,trivial,HCL2.out 4 _ rfl,HCL2.out 5 _ rfl⟩
   ·exact⟨_,_,rfl,trivial,HCL2.out 6 _ rfl,HCL2.out 7 _ rfl⟩
   ·exact⟨_,_,rfl,trivial,HCL2.out 8 _ rfl,HCL2.out 9 _ rfl⟩
  have pk:=pack_any Y2 _ _ (pZ (-7)) cfgP l26 _ _ _ _ 5 (HZP.out.fr (Fr.of_below HZ2.out (fun _=>False)) (fun _ _ h=>h)) (fun k hk=>by have:=HZS.out;have:=HZ2.out.size;have hk:k<w2.heap.size+2:=hk;omega) (by decide) (by decide +kernel) (by decide) hes;rw[pack26] at pk;have HPK:=k_ pk;clear pk hes;refine wpAnyH_ready (rs:=[8]) (by kernel_rfl) (by simp) ?_;refine(AllReadyH.cons rfl (fun K hK=>?_) AllReadyH.nil);go_simp;refine HPK.out.mono ?_;rintro e w9 ⟨rfl,hbw⟩;have hs9:=And.intro (below_cell hbw HS2.out.1) (And.intro (below_cell hbw HS2.out.2.1) (below_cell hbw HS2.out.2.2));have HB9:=k_ (HB3.out.trans ((HZ2.out.trans (hbw.mono HZ2.out.size)).mono HB3.out.size));have HE9:=k_ ((HENT3.out.below' HZ2.out).below' hbw);have HS9:=k_ hs9;clear hbw hs9;refine hK.out _ _ HS9.out (fun _=>?_);clear hK K HPK;refine wpAnyH_take (i:=9) (v:=?_) rfl (by kernel_rfl) (by kernel_rfl) (by kernel_rfl) (fun _ _ _ h=>h) (Or.inl ⟨by kernel_rfl,?tq9⟩) HS9.out ?_
  case tq9=>(intro wq hq;obtain⟨q0,q1,q2⟩:=hq;go_simp;first | done | with_reducible rfl)
  refine wpAnyH_take (i:=10) (v:=?_) rfl (by kernel_rfl) (by kernel_rfl) (by kernel_rfl) (fun _ _ _ h=>h) (Or.inl ⟨by kernel_rfl,?tq10⟩) HS9.out ?_
  case tq10=>(intro wq hq;obtain⟨q0,q1,q2⟩:=hq;go_simp;first | done | with_reducible rfl)
  refine wpAnyH_take (i:=11) (v:=?_) rfl (by kernel_rfl) (by kernel_rfl) (by kernel_rfl) (fun _ _ _ h=>h) (Or.inl ⟨by kernel_rfl,?tq11⟩) HS9.out ?_
  case tq11=>(intro wq hq;obtain⟨q0,q1,q2⟩:=hq;go_simp;first | done | with_reducible rfl)
  refine wpAnyH_take (i:=12) (v:=?_) rfl (by kernel_rfl) (by kernel_rfl) (by kernel_rfl) (fun _ _ _ h=>h) (Or.inl ⟨by kernel_rfl,?tq12⟩) HS9.out ?_
  case tq12=>(intro wq hq;obtain⟨q0,q1,q2⟩:=hq;go_simp;first | done | with_reducible rfl)
  refine wpAnyH_take (i:=13) (v:=?_) rfl (by kernel_rfl) (by kernel_rfl) (by kernel_rfl) (fun _ _ _ h=>h) (Or.inl ⟨by kernel_rfl,?tq13⟩) HS9.out ?_
  case tq13=>(intro wq hq;obtain⟨q0,q1,q2⟩:=hq;go_simp;first | done | with_reducible rfl)
  refine wpAnyH_done (by kernel_rfl) ?_ _;refine NoPanic.normal ?_;obtain⟨eb,eo,rfl,_,c0,_⟩:=HE9.out 1 (by decide);have c0:w9.cell? ⟨eb,eo+2,none⟩=some (.int .i64 1):=c0;clear HE9 HS9 HENT3;go_wp2_with fail;refine(HPLAY.out _ HB9.out).mono ?_;rintro e w10 ⟨rfl,hb⟩;have HBB:=k_ (HB9.out.trans (hb.mono HB9.out.size));clear hb c0;go_wp2_with fail
  go_ret
  exact⟨rfl,HBB.out⟩
end Go.Proofs.YtbkkhmafheimfaaGreatDoor.Tk
