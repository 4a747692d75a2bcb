/- Walks: one more list of entries is kept. The book that keeps lists of entries: a plainer telling. Walks: besombook.LentEntries, .. -/
import Derived.Test.YtlofbhoicbemnaaGreatDoorDAi
set_option linter.unusedVariables false
set_option linter.unusedSimpArgs false
set_option maxRecDepth 100000
set_option maxHeartbeats 6400000
namespace Go.Proofs.YtlofbhoicbemnaaGreatDoor
open Go.ChangeShapes Go.WideShapes Go.ChangeAt Go.RowKit
theorem flat_cellsE (l:List Ent) (k r:Nat) (hk:k<l.length) (hr:r<2):(l.flatMap Ent.cells)[k * 2+r]?=(Ent.cells l[k])[r]?:=by
 induction l generalizing k with
 | nil=>cases hk
 | cons y l ih =>
   cases k with
   | zero=>rw[List.flatMap_cons,Nat.zero_mul,Nat.zero_add,List.getElem?_append_left (by simp[Ent.cells];omega)];rfl
   | succ k =>
     have h:=ih k (by simpa using hk);rw[List.flatMap_cons,List.getElem?_append_right (by simp[Ent.cells];omega)];rw[show (k+1) * 2+r - (Ent.cells y).length=k * 2+r from by simp[Ent.cells];omega];exact h
theorem sl_cellsEntries {w:World} {D:Nat→Prop} {a:Option Addr} {l:List Ent} (h:EntSl w D a l) (hn:1≤l.length):∃ b o,a=some ⟨b,o,none⟩∧CellsAt w b o (l.flatMap entE.enc):=by
 obtain⟨b,o,rfl,_,_⟩:=h 0 (by omega);refine⟨b,o,rfl,fun j u hj=>?_⟩;have hlen:=entE.len l
 rcases Nat.lt_or_ge (j / 2) l.length with hlt | hge
 ·obtain⟨b',o',h1,_,h3⟩:=h (j / 2) hlt
  injection h1 with h1
  injection h1 with h1 h2 _
  subst h1 h2;have hf:=flat_cellsE l (j / 2) (j % 2) hlt (by omega);have ej:j / 2 * 2+j % 2=j:=by omega
  rw[ej] at hf;have hj:(l.flatMap Ent.cells)[j]?=some u:=hj;rw[hf] at hj;obtain⟨q0,q1⟩:=h3;have hr:j % 2<2:=by omega
  have eo:o+j=o+j / 2 * 2+j % 2:=by omega
  rw[eo];generalize j % 2=r at *
  match r,hr,hj with
  | 0,_,hj=>injection hj with hj;rw[← hj];exact q0
  | 1,_,hj=>injection hj with hj;rw[← hj];exact q1
 ·have:l.length * 2≤j:=by omega
  rw[List.getElem?_eq_none (by rw[hlen];exact this)] at hj;cases hj
theorem copyEntries_any (w:World) (a:Option Addr) (l:List Ent) (c:Nat) (D:Nat→Prop) (hsl:EntSl w D a l) (hn:l.length≤1000000) :
  Calls Tryz.prog 24 #[.slice a l.length c] w fun e w'=>∃ v,e=.returned v∧Own entE w' w.heap.size v l∧Below w.heap.size w w':=by
 by_cases h0:l.length=0
 ·have hl:l=[]:=List.length_eq_zero_iff.1 h0
  subst hl
  go_enter Tryz.func24,Tryz.ntmps24
  go_wp2_with (at_builtin;refine append_none_any entE rfl _ _ rfl rfl _ _ rfl ?_)
  go_wp2_with fail
  go_ret
  exact⟨_,rfl,Own.nil _ _ _,Below.refl _ _⟩
 ·obtain⟨b,o,rfl,hcells⟩:=sl_cellsEntries hsl (by omega)
  have HCELLS:=k_ hcells;clear hcells;have HSL:=k_ hsl;clear hsl
  go_enter Tryz.func24,Tryz.ntmps24
  go_wp2_with (at_builtin;refine append_own entE rfl (.const (.slice none 0 0)) (.tmp 3) rfl w.heap.size [] l _ rfl (Own.nil _ _ _) b o c rfl HCELLS.out ?c1 ?c2 ?_)
  case c1=>simp;omega
  case c2=>exact Nat.le_refl _
  intro v2 w2 hown2 hg2;have hB2:=k_ (below_grown (Below.refl w.heap.size w) (Own.nil entE w w.heap.size) hg2 (Nat.le_refl _) (Nat.le_refl _));have HO2:=k_ hown2;clear hown2 hg2;go_wp2_with fail
  go_ret
  exact⟨_,rfl,HO2.out,hB2.out⟩
def AddEntries (w:World) (p B:Nat) (X Y:Nat→Prop) (cs:Array Value) (hs:List Hd) (ls:List (List Ent)) (x:Hd) (l:List Ent) (e:Ending) (w':World):Prop :=
 ∃ v v' X' Y',e=.returned (.tuple #[])∧Bk w' p ((cs.setIfInBounds 6 v).setIfInBounds 7 v')∧Kept entE entsE w' B X' Y' v v' (hs ++ [x]) (ls ++ [l])∧(∀ k,X' k→X k∨x.val.ownBlock=some k∨w.heap.size≤k)∧(∀ k,Y' k→Y k∨w.heap.size≤k)∧Fr (fun k=>k=p∨X k∨Y k) w w'
theorem addEntries_any (w:World) (p B:Nat) (X Y:Nat→Prop) (cs:Array Value) (v v':Value) (hs:List Hd) (ls:List (List Ent)) (a:Option Addr) (l:List Ent) (c:Nat) (hb:Bk w p cs) (c0:cs[6]?=some v) (c1:cs[7]?=some v') (hK:Kept entE entsE w B X Y v v' hs ls)
  (hx:Own entE w B (.slice a l.length c) l) (hxX:∀ k,(Value.slice a l.length c).ownBlock=some k→¬ X k∧¬ Y k∧k≠p) (hp1:¬ X p) (hp2:¬ Y p) (hpB:B≤p) (hn:ls.length<250) (hl:l.length≤100000) :
  Calls Tryz.prog 11 #[.pointer (some ⟨p,0,none⟩),.slice a l.length c] w (AddEntries w p B X Y cs hs ls ⟨a,l.length,c⟩ l):=by
 obtain⟨hF,⟨hs',hF'⟩,hxy,hxw,hyw⟩:=hK;have hpl:=heap_lt hb;obtain⟨a0,n0,hv0⟩:=hF.slice;obtain⟨a1,n1,hv1⟩:=hF'.slice;subst hv0 hv1;have q0:=(hb.cell 6).trans c0;have q1:=(hb.cell 7).trans c1;have z0:=hb.frozen 6;have z1:=hb.frozen 7;have hlen:=hF.len;have HF:=k_ hF;clear hF;have HF':=k_ hF';clear hF';have HXY:=k_ hxy;clear hxy;have HXW:=k_ hxw;clear hxw;have HYW:=k_ hyw;clear hyw;have HB:=k_ hb;clear hb;have HX:=k_ hx;clear hx;have HXX:=k_ hxX;clear hxX;have HP1:=k_ hp1;clear hp1;have HP2:=k_ hp2;clear hp2;have C0:=k_ c0;clear c0;have C1:=k_ c1;clear c1;have HLEN:=k_ hlen;clear hlen
 go_enter Tryz.func11,Tryz.ntmps11
 go_wp2_with (at_builtin;refine append_fresh entsE rfl (.tmp 14) (.tmp 16) rfl B hs [⟨a,l.length,c⟩] _ rfl (HF.out.own.alloc _) w.heap.size 0 1 rfl (CellsAt.new _ _ _ _) ?d1 ?d2 ?_)
 case d1=>rw[HLEN.out];simp;omega
 case d2=>simp;omega
 intro v2 w2 ho2 hg2 hf2;obtain⟨a2,n2,c2,hv2⟩:=ho2.slice;have hx0:=HX.out;obtain⟨xa,xc,hxe,hsl⟩:=own_entD hx0
 injection hxe with e1 e2 e3
 subst e1 e3;have hne:∀ k,(Value.slice a0 ls.length n0).ownBlock=some k→X k:=fun k hk=>HF.out.row k hk
 have hb2:Bk w2 p cs:=by
  unfold Bk;rw[hg2.block p (by simp;omega) (fun e=>HP1.out (hne p e.symm)),Below.heap_alloc _ _ _ hpl];exact HB.out
 have fr2:Fr X w w2:=((Fr.refl _ _).alloc _).grown hg2 (fun k hk _=>hne k hk);have f2:=Fam.snoc (HF.out.fr ((Fr.refl (fun _=>False) w).alloc _) (fun _ _ h=>h)) (x:=⟨a,l.length,c⟩) (l:=l) (Own.alloc hx0 _) (fun k hk=>(HXX.out k hk).1) (fun k hk=>by have:=(HXW.out k hk).2;simp;omega) ho2 hg2 hf2;have f2':=HF'.out.fr fr2 (fun k hk h=>HXY.out k h hk);have hp3:¬ (X p∨(Hd.mk a l.length c).val.ownBlock=some p∨v2.ownBlock=some p):=by
  rintro (h | h | h)
  ·exact HP1.out h
  ·exact(HXX.out p h).2.2 rfl
  ·rcases hf2 p h with h | h
   ·exact HP1.out (hne p h)
   ·simp at h;omega
 have hX2w:∀ k,(X k∨(Hd.mk a l.length c).val.ownBlock=some k∨v2.ownBlock=some k)→B≤k∧k<w2.heap.size:=fun k hk=>by
  have hs:=fr2.size
  rcases hk with h | h | h
  ·have:=HXW.out k h;omega
  ·have:=hx0.lt h;omega
  ·have:=ho2.lt h;omega
 have hX2o:∀ k,(X k∨(Hd.mk a l.length c).val.ownBlock=some k∨v2.ownBlock=some k)→X k∨(Value.slice a l.length c).ownBlock=some k∨w.heap.size≤k:=fun k hk=>by
  rcases hk with h | h | h
  ·exact .inl h
  ·exact .inr (.inl h)
  ·rcases hf2 k h with h | h
   ·exact .inl (hne k h)
   ·exact .inr (.inr (by simp at h;omega))
 generalize hX2:(fun k=>X k∨(Hd.mk a l.length c).val.ownBlock=some k∨v2.ownBlock=some k)=X2 at f2;have hX2i:∀ k,X2 k↔(X k∨(Hd.mk a l.length c).val.ownBlock=some k∨v2.ownBlock=some k):=fun k=>by rw[← hX2]
 have hp3:¬ X2 p:=fun h=>hp3 ((hX2i p).1 h)
 have hX2w:∀ k,X2 k→B≤k∧k<w2.heap.size:=fun k h=>hX2w k ((hX2i k).1 h)
 have hX2o:∀ k,X2 k→X k∨(Value.slice a l.length c).ownBlock=some k∨w.heap.size≤k:=fun k h=>hX2o k ((hX2i k).1 h)
 clear hX2i hX2;have frs:=Fr.setAt w2 p 6 v2;have hb3:Bk (w2.setCell ⟨p,6,none⟩ v2) p (cs.setIfInBounds 6 v2):=row_set hb2 6 v2;have f3:=f2.fr frs (fun k hk h=>hp3 (by unfold onB at h;rw[← h];exact hk));have f3':=f2'.fr frs (fun k hk h=>HP2.out (by unfold onB at h;rw[← h];exact hk));have fr3:Fr (fun k=>k=p∨X k∨Y k) w (w2.setCell ⟨p,6,none⟩ v2):=(fr2.mono (fun k h=>.inr (.inl h))).trans frs (fun k _ h=>.inl h);have hsz3:(w2.setCell ⟨p,6,none⟩ v2).heap.size=w2.heap.size:=by simp[World.setCell]
 have hsl3:=hsl.fr (fr3) (fun k hk h=>by
  have:=HXX.out k hk
  rcases h with h | h | h
  ·exact this.2.2 h
  ·exact this.1 h
  ·exact this.2.1 h)
 have r0:=hb2.cell 6;have r1:=hb2.cell 7;have t0:=hb2.frozen 6;have t1:=hb2.frozen 7;rw[C0.out] at r0;rw[C1.out] at r1;clear q0 q1 z0 z1;clear hsl hb2 f2 f2' frs fr2 hne hg2 hf2;subst hv2;have k1:=hb3.cell 7;rw[Array.getElem?_setIfInBounds_ne (by decide),C1.out] at k1;have z1:=hb3.frozen 7;have hp3l:=heap_lt hb3;obtain⟨w3,hw3⟩:∃ w3,w3=w2.setCell ⟨p,6,none⟩ (.slice a2 n2 c2):=⟨_,rfl⟩;rw[← hw3] at hb3 f3 f3' fr3 hsz3 hsl3 k1 z1 hp3l;have cp:=copyEntries_any w3.drew a l c _ (show EntSl w3.drew _ a l from hsl3) (by omega);have f3o:=f3'.own;have hpy:∀ k,(Value.slice a1 ls.length n1).ownBlock=some k→Y k:=f3'.row;have hlen':=f3'.len;have HB3:=k_ hb3;clear hb3;have F3:=k_ f3;clear f3;have F3':=k_ f3';clear f3';have FR3:=k_ fr3;clear fr3;have HSZ3:=k_ hsz3;clear hsz3;have HW3:=k_ hw3;clear hw3;have HX2W:=k_ hX2w;clear hX2w;have HX2O:=k_ hX2o;clear hX2o;have CP:=k_ cp;clear cp;have F3O:=k_ f3o;clear f3o;have HPY:=k_ hpy;clear hpy;have HP3:=k_ hp3;clear hp3;have HLEN':=k_ hlen';clear hlen';clear hsl3 ho2 hx0;go_wp2_with fail;rw[← HW3.out]
 go_region_law (first | (go_simp;go_at_call 24;refine CP.out.mono ?_;rintro e w5 ⟨v5,rfl,ho5,hb5⟩;obtain⟨a5,c5,rfl,_⟩:=own_entD ho5;have hbW:=((Below.refl w3.heap.size w3).drew).trans hb5;have bk5:Bk w5 p _:=(Fr.of_below hbW (fun _=>False)).heap HB3.out (fun h=>h);have kk:=bk5.cell 7;rw[Array.getElem?_setIfInBounds_ne (by decide),C1.out] at kk;have zz:=bk5.frozen 7;have hp5:=heap_lt bk5;have nn5:=World.new_ne w5 _ kk;have hp5n:=Nat.ne_of_gt hp5) | (refine step_append_fresh entsE rfl (.tmp 24) (.tmp 27) rfl B hs' [⟨a5,l.length,c5⟩] _ rfl ((F3O.out.below hbW).alloc _) w5.heap.size 0 1 rfl (CellsAt.new _ _ _ _) (by rw[HLEN'.out];simp;omega) (by have:=hbW.size;simp;omega) ?_;intro v6 w6 ho6 hg6 hf6;obtain⟨a6,n6,c6,hv6⟩:=ho6.slice;subst hv6;have bk6:Bk w6 p _:=((hg6.block p (by simp;omega) (fun e=>HP2.out (HPY.out p e.symm))).trans (Below.heap_alloc _ _ _ hp5)).trans bk5;have kk:=bk6.cell 7;rw[Array.getElem?_setIfInBounds_ne (by decide),C1.out] at kk;have zz:=bk6.frozen 7))
 all_goals
  obtain⟨Y',e1,e2,e3⟩:=Kept.add (X:=X) (x5:=⟨a5,l.length,c5⟩) 7 F3.out F3'.out FR3.out HYW.out (fun k hk=>by rw[HSZ3.out];exact hX2w k hk) (fun k hk h=>by
   rcases hX2o k hk with h2 | h2 | h2
   ·exact HXY.out k h2 h
   ·exact(HXX.out k h2).2.1 h
   ·have:=(HYW.out k h).2;omega) HP2.out hp3 hpl hpB hbW ho5 ho6 hg6 hf6
  have bk7:Bk (w6.setCell ⟨p,7,none⟩ (.slice a6 n6 c6)) p _:=row_set bk6 7 (.slice a6 n6 c6);have E1:=k_ e1;have E2:=k_ e2;have E3:=k_ e3;have BK7:=k_ bk7;have HX2O':=k_ hX2o;clear e1 e2 e3 bk7 hX2o;clear hg6 hf6 ho6 ho5;go_wp2_with fail
  go_end0
  exact⟨_,_,_,Y',rfl,BK7.out,E1.out,HX2O'.out,E2.out,E3.out⟩
def BkE (w:World) (p m n:Nat):Prop :=
 ∃ v v' X Y hs ls,Bk w p (bkE v v')∧Kept entE entsE w p X Y v v' hs ls∧(∀ k,X k→p<k∧k<m)∧(∀ k,Y k→p<k∧k<m)∧ls.length=n∧(∀ l ∈ ls,l.length≤100000)∧p<m∧m≤w.heap.size
theorem BkE.new (w:World):BkE (w.alloc (.cells bk0 39)) w.heap.size (w.heap.size+1) 0 :=
 ⟨.slice none 0 0,.slice none 0 0,fun _=>False,fun _=>False,[],[],heap_new w _,⟨Fam.nil _ _ _ _ _,⟨_,Fam.nil _ _ _ _ _⟩,fun _ h=>h.elim,fun _ h=>h.elim,fun _ h=>h.elim⟩,fun _ h=>h.elim,fun _ h=>h.elim,rfl,(by simp),by omega,by simp⟩
theorem BkE.fr {F:Nat→Prop} {w w':World} {p m n:Nat} (h:BkE w p m n) (hf:Fr F w w') (hd:∀ k,p≤k→k<m→¬ F k):BkE w' p m n:=by
 obtain⟨v,v',X,Y,hs,ls,hb,hK,hX,hY,h1,h2,h3,h4⟩:=h;obtain⟨hF,⟨hs',hF'⟩,hxy,hxw,hyw⟩:=hK;have hz:=hf.size;refine⟨v,v',X,Y,hs,ls,hf.heap hb (hd p (Nat.le_refl _) h3),⟨hF.fr hf (fun k hk=>hd k (by have:=hX k hk;omega) (hX k hk).2),⟨hs',hF'.fr hf (fun k hk=>hd k (by have:=hY k hk;omega) (hY k hk).2)⟩,hxy,fun k hk=>by have:=hxw k hk;omega,fun k hk=>by have:=hyw k hk;omega⟩,hX,hY,h1,h2,h3,by omega⟩
theorem BkE.below {w w':World} {p m n:Nat} (h:BkE w p m n) (hb:Below w.heap.size w w'):BkE w' p m n:=h.fr (Fr.of_below hb (fun _=>False)) (fun _ _ _ h=>h)
theorem BkE.add {w:World} {p m n:Nat} (h:BkE w p m n) (hn:n<250) {a:Option Addr} {l:List Ent} {c:Nat} (hx:Own entE w m (.slice a l.length c) l) (hl:l.length≤100000) :
  Calls Tryz.prog 11 #[.pointer (some ⟨p,0,none⟩),.slice a l.length c] w fun e w'=>e=.returned (.tuple #[])∧BkE w' p w'.heap.size (n+1)∧Fr (fun k=>p≤k∧k<m) w w':=by
 obtain⟨v,v',X,Y,hs,ls,hb,hK,hX,hY,h1,h2,h3,h4⟩:=h;have hb2:∀ k,(Value.slice a l.length c).ownBlock=some k→m≤k∧k<w.heap.size:=fun k hk=>hx.lt hk
 refine(addEntries_any w p p X Y (bkE v v') v v' hs ls a l c hb rfl rfl hK (hx.base (fun k hk=>by have:=hb2 k hk;omega)) (fun k hk=>⟨fun h=>by have:=hX k h;have:=hb2 k hk;omega,fun h=>by have:=hY k h;have:=hb2 k hk;omega,by have:=hb2 k hk;omega⟩) (fun h=>by have:=hX p h;omega) (fun h=>by have:=hY p h;omega) (Nat.le_refl _) (by omega) hl).mono ?_;rintro e w' ⟨u,u',X',Y',he,bk,k,hx',hy',hf⟩;have hz:=hf.size;refine⟨he,⟨u,u',X',Y',_,_,bk,k,fun q hq=>?_,fun q hq=>?_,by simp[h1],?_,by omega,Nat.le_refl _⟩,hf.mono (fun q hq=>?_)⟩
 ·refine⟨?_,(k.xw q hq).2⟩
  rcases hx' q hq with h | h | h
  ·exact(hX q h).1
  ·have:=hb2 q h;omega
  ·omega
 ·refine⟨?_,(k.yw q hq).2⟩
  rcases hy' q hq with h | h
  ·exact(hY q h).1
  ·omega
 ·intro x hx
  rcases List.mem_append.1 hx with h | h
  ·exact h2 x h
  ·simp at h;subst h;exact hl
 ·rcases hq with h | h | h
  ·omega
  ·have:=hX q h;omega
  ·have:=hY q h;omega
theorem BkE.apart {w:World} {p m n:Nat} (h:BkE w p m n) (hn:n≤1000) :
  Calls Tryz.prog 13 #[.pointer (some ⟨p,0,none⟩)] w fun e w'=>e=.returned (.bool true)∧Fr (fun k=>p≤k∧k<m) w w':=by
 obtain⟨v,v',X,Y,hs,ls,hb,hK,hX,hY,h1,h2,h3,h4⟩:=h;obtain⟨hF,⟨hs',hF'⟩,hxy,hxw,hyw⟩:=hK;refine(apartE_any w p p X Y v v' _ _ ls hb hF hF' (fun h=>by have:=hX p h;omega) (fun k h=>by have:=hX k h;omega) (by omega) (by omega) h2).mono ?_;rintro e w' ⟨he,hf⟩;exact⟨he,hf.mono (fun q h=>by have:=hX q h;omega)⟩
def markN:Ent:=⟨-77,0⟩
theorem own_someE {w:World} {B:Nat} {v:Value} {l:List Ent} {x:Ent} (h:Own entE w B v (l ++ [x])):∃ g c,v=.slice (some ⟨g,0,none⟩) (l.length+1) c∧l.length+1≤c∧B≤g∧EntAt w g (l.length * 2) x∧EntSl w (fun k=>k=g) (some ⟨g,0,none⟩) l:=by
 obtain⟨a,c0,hv0,hs⟩:=own_entD h;have hs2:=hs;obtain⟨h1,h2⟩:=h
 rcases h2 with⟨rfl,h0⟩ | ⟨g,cap,cur,rfl,hg,hh,hr,hr2⟩
 ·simp at h0
 ·have e1:some (⟨g,0,none⟩:Addr)=a:=by injection hv0
  subst e1;refine⟨g,cap,by simp,?_,hg,?_,?_⟩
  ·simp at hr hr2;omega
  ·obtain⟨b,o,h3,h4,h5⟩:=hs l.length (by simp)
   injection h3 with h3
   injection h3 with h3 h6
   subst h3 h6
   simpa using h5
  ·intro j hj
   obtain⟨b,o,h3,h4,h5⟩:=hs j (by simp;omega)
   injection h3 with h3
   injection h3 with h3 h6
   subst h3 h6;rw[List.getElem_append_left hj] at h5;exact⟨_,_,rfl,rfl,h5⟩
theorem lentEntries_any (w:World) (a:Option Addr) (l:List Ent) (c:Nat) (D:Nat→Prop) (hsl:EntSl w D a l) (hn:l.length≤1000) :
  Calls Tryz.prog 6 #[.slice a l.length c] w fun e w'=>∃ g cap,e=.returned (.slice (some ⟨g,0,none⟩) l.length cap)∧l.length+1≤cap∧w.heap.size≤g∧EntAt w' g (l.length * 2) markN∧EntSl w' (fun k=>k=g) (some ⟨g,0,none⟩) l∧Below w.heap.size w w':=by
 have cp:=copyEntries_any w a l c _ hsl (by omega);have CP:=k_ cp;clear cp;clear hsl
 go_enter Tryz.func6,Tryz.ntmps6
 go_wp2_with fail;refine CP.out.mono ?_;rintro e w1 ⟨v,rfl,ho,hb⟩;have HO:=k_ ho;clear ho;have HB:=k_ hb;clear hb
 go_wp2_with (at_builtin;refine append_own entE rfl (.tmp 4) (.tmp 6) rfl w.heap.size l [markN] _ rfl (HO.out.alloc _) w1.heap.size 0 1 rfl (CellsAt.new _ _ _ _) ?c1 ?c2 ?_)
 case c1=>simp;omega
 case c2=>have:=HB.out.size;simp;omega
 intro v2 w2 hown2 hg2;have hB2:=below_grown (HB.out.alloc HB.out.size _) (HO.out.alloc _) hg2 (by have:=HB.out.size;simp;omega) (Nat.le_refl _);obtain⟨g,cap,rfl,hc,hg,hm,hs⟩:=own_someE hown2;have hc':(l.length:Int)≤cap:=by omega
 have HB2:=k_ hB2;clear hB2;have HM:=k_ hm;clear hm;have HS:=k_ hs;clear hs;clear hown2 hg2;go_wp2_with fail
 go_ret
 exact⟨g,cap,rfl,hc,hg,HM.out,HS.out,HB2.out⟩
theorem staysEntries_any (w:World) (D:Nat→Prop) (g cap:Nat) (a':Option Addr) (l:List Ent) (c':Nat) (hc:l.length+1≤cap) (hm:EntAt w g (l.length * 2) markN) (hs:EntSl w (fun k=>k=g) (some ⟨g,0,none⟩) l) (hl:EntSl w D a' l) (hn:l.length≤1000) :
  Calls Tryz.prog 8 #[.slice (some ⟨g,0,none⟩) l.length cap,.slice a' l.length c'] w fun e w'=>e=.returned (.bool true)∧∃ n,w'=w.drewN n:=by
 have sm:=sameEnts_any w _ D _ a' l cap c' hs hl (by omega);obtain⟨p0,p1⟩:=hm;have p0:w.cell? ⟨g,l.length * 2,none⟩=some (.int .i64 (-77)):=p0;have SM:=k_ sm;clear sm;have h1:(l.length:Int)+1≤cap:=by omega
 have h2:(0:Int)≤(l.length:Int)+1:=by omega
 have h3:IntKind.i64.wrap ((l.length:Int)+1)=(l.length:Int)+1:=IntWalk.i64_in _ (by omega);have h4:((l.length:Int)+1).toNat=l.length+1:=by omega
 have h5:(l.length:Int)<(l.length:Int)+1:=by omega
 clear hs hl p1
 go_enter Tryz.func8,Tryz.ntmps8
 go_wp2_with fail;refine SM.out.mono ?_;rintro e w1 ⟨rfl,n,rfl⟩;have p0:(w.drewN n).cell? ⟨g,l.length * 2,none⟩=some (.int .i64 (-77)):=p0;go_wp2_with fail
 go_ret
 exact⟨rfl,n,rfl⟩
end Go.Proofs.YtlofbhoicbemnaaGreatDoor
namespace Go.Proofs.YtlofbhoicbemnaaGreatDoor.Tk
open Go.ChangeShapes Go.WideShapes Go.ChangeAt Go.RowKit Go.Maps
theorem all_take (l:List Ent) (k:Nat) (hk:k<l.length):(l.take (k+1)).all entOk=((l.take k).all entOk && entOk l[k]):=by
 rw[take_snoc l k hk,List.all_append];simp
theorem all_stop (l:List Ent) (k:Nat) (h:(l.take k).all entOk=false):l.all entOk=false:=by
 rw[List.all_eq_false] at h ⊢;obtain⟨x,hx,h2⟩:=h;exact⟨x,List.mem_of_mem_take hx,h2⟩
theorem scrL_succ (l:List Ent) (k:Nat) (hk:k<l.length):scrL (l.take (k+1))=scrL (l.take k) ++ [entI l[k]]:=by
 rw[take_snoc l k hk,scrL_snoc]
theorem stells_any (w:World) (al:Calls Tryz.prog 5 #[] w fun e w'=>e=.returned (.bool true)∧Below w.heap.size w w') (a:Option Addr) (l:List Ent) (c:Nat) (hsl:EntSl w (fun k=>k<w.heap.size) a l) (b:ByteArray) :
  Calls Tryz.prog 3 #[.slice a l.length c,.string b] w fun e w'=>e=.returned (.bool true)∧Below w.heap.size w w':=by
 have AL:=k_ al;clear al;have HSL:=k_ hsl;clear hsl
 by_cases h500:500<l.length
 ·go_enter Tryz.func3,Tryz.ntmps3
  go_wp2_with fail;refine AL.out.mono ?_;rintro e w1 ⟨rfl,hb1⟩;go_wp2_with fail
  go_ret
  exact⟨rfl,hb1⟩
 by_cases h41:4100<b.size
 ·have h41':(4100:Int)<b.size:=by omega
  go_enter Tryz.func3,Tryz.ntmps3
  go_wp2_with fail;refine AL.out.mono ?_;rintro e w1 ⟨rfl,hb1⟩;go_wp2_with fail
  go_ret
  exact⟨rfl,hb1⟩
 have h41':¬ (4100:Int)<b.size:=by omega
 have h500':¬ (500:Int)<l.length:=by omega
 have HN:=k_ (show l.length≤500 from by omega);have HBZ:=k_ (show b.size≤4100 from by omega);obtain⟨ok,hok⟩:∃ ok,ok=l.all entOk:=⟨_,rfl⟩;obtain⟨S,hS⟩:∃ S,S=if ok then bytesS (scrL l) else ⟨#[]⟩:=⟨_,rfl⟩
 obtain⟨E,hE⟩:∃ E:Int,E=if ok then 0 else 1:=⟨_,rfl⟩;have hsc:scrS l=(S,E):=by
  rw[hS,hE]
  cases ok
  ·rw[scrS_bad l hok.symm];rfl
  ·rw[scrS_ok l hok.symm (by omega)];rfl
 have HSC:=k_ hsc;have HOK:=k_ hok;have HSS:=k_ hS;have HE:=k_ hE;clear hsc hok hS hE
 go_enter Tryz.func3,Tryz.ntmps3
 go_wp2_with fail;refine AL.out.mono ?_;rintro e w1 ⟨rfl,hb1⟩;have HB1:=k_ hb1;clear hb1;go_wp2_with fail;refine(lentEntries_any w1 a l c _ (HSL.out.below' HB1.out) (by have:=HN.out;omega)).mono ?_;rintro e w2 ⟨g,cap,rfl,hc,hg,hm,hs,hb2⟩;have HB2:=k_ (HB1.out.trans (hb2.mono HB1.out.size));have HM2:=k_ hm;have HS2:=k_ hs;have HC:=k_ hc;have HG:=k_ hg;clear hb2 hm hs hc hg;go_wp2_with fail;have sc:=script_any l _ (some ⟨g,0,none⟩) cap w2 (by have:=HN.out;omega) HS2.out;rw[HSC.out] at sc;refine sc.mono ?_;clear sc;rintro e w3 ⟨rfl,hb3⟩;have HC3:=k_ hb3;have HB3:=k_ (HB2.out.trans (hb3.mono HB2.out.size));clear hb3
 go_upto_block 0 with fail
 go_cut [8,9] (fun s o wx=>∃ L,s=.string (bytesS L)∧o=.bool ok∧(ok=true→L=scrL l)∧Below w3.heap.size w3 wx)
 case first =>
  go_wp2_with fail
  go_loopw [8,9,10] (fun s o i wr=>∃ (k:Nat) (L:List Int) (q:Bool),k≤l.length∧i=.int .i64 k∧s=.string (bytesS L)∧o=.bool q∧q=(l.take k).all entOk∧(q=true→L=scrL (l.take k))∧L.length≤k∧Below w3.heap.size w3 wr) (fun _ _ i _=>l.length - (intOf i).toNat)
  case atStart=>exact⟨0,[],true,Nat.zero_le _,rfl,rfl,rfl,rfl,fun _=>rfl,Nat.le_refl _,Below.refl _ _⟩
  case round =>
   obtain⟨k,L,q,hk,rfl,rfl,rfl,hq,hL,hLl,hB⟩:=hrel;have HB:=k_ hB;clear hB
   by_cases hlt:k<l.length
   ·cases q
    ·have HD:=k_ (all_stop l k hq.symm)
     clear hL hq;go_wp2_with fail
     go_meet
     case rel=>exact⟨L,rfl,by rw[HOK.out,HD.out],fun h=>by(rw[HOK.out,HD.out] at h;cases h),HB.out⟩
    ·replace hL:=hL rfl
     obtain⟨bb,oo,rfl,_,hx0,hx1⟩:=(HSL.out.below' (HB3.out.trans (HB.out.mono HB3.out.size))) k hlt;have HQ:=k_ hq;have HL:=k_ hL;have HTK:=k_ (all_take l k hlt);have HTS:=k_ (scrL_succ l k hlt);obtain⟨x,hxe⟩:∃ x,x=l[k]:=⟨_,rfl⟩;rw[← hxe] at hx0 hx1;have HXE:=k_ hxe;obtain⟨who,n⟩:=x;have hx0:wr.cell? ⟨bb,oo+k * 2,none⟩=some (.int .i64 who):=hx0;have hx1:wr.cell? ⟨bb,oo+k * 2+1,none⟩=some (.int .i64 n):=hx1;clear hq hL hxe
     by_cases c1:0≤who
     case neg =>
      have HNO:=k_ (show entOk ⟨who,n⟩=false from by unfold entOk;simp;omega);go_wp2_with fail
      go_roundw
      case rel=>exact⟨k+1,L,false,by omega,by go_num,rfl,rfl,by rw[HTK.out,← HQ.out,← HXE.out,HNO.out];rfl,fun h=>by(cases h),by omega,HB.out⟩
      case measure=>simp[intOf];omega
     by_cases c2:who≤5
     case neg =>
      have HNO:=k_ (show entOk ⟨who,n⟩=false from by unfold entOk;simp;omega);go_wp2_with fail
      go_roundw
      case rel=>exact⟨k+1,L,false,by omega,by go_num,rfl,rfl,by rw[HTK.out,← HQ.out,← HXE.out,HNO.out];rfl,fun h=>by(cases h),by omega,HB.out⟩
      case measure=>simp[intOf];omega
     by_cases c3:0≤n
     case neg =>
      have HNO:=k_ (show entOk ⟨who,n⟩=false from by unfold entOk;simp;omega);go_wp2_with fail
      go_roundw
      case rel=>exact⟨k+1,L,false,by omega,by go_num,rfl,rfl,by rw[HTK.out,← HQ.out,← HXE.out,HNO.out];rfl,fun h=>by(cases h),by omega,HB.out⟩
      case measure=>simp[intOf];omega
     by_cases c4:n≤31
     case neg =>
      have HNO:=k_ (show entOk ⟨who,n⟩=false from by unfold entOk;simp;omega);go_wp2_with fail
      go_roundw
      case rel=>exact⟨k+1,L,false,by omega,by go_num,rfl,rfl,by rw[HTK.out,← HQ.out,← HXE.out,HNO.out];rfl,fun h=>by(cases h),by omega,HB.out⟩
      case measure=>simp[intOf];omega
     have HYES:=k_ (show entOk ⟨who,n⟩=true from by unfold entOk;simp;omega);have hei:entI ⟨who,n⟩=32 * who+n:=rfl;have he0:0≤32 * who+n:=by omega
     have he1:32 * who+n≤191:=by omega
     obtain⟨x,hx⟩:∃ x,x=entI ⟨who,n⟩:=⟨_,rfl⟩;have hu:IntKind.u8.wrap (IntKind.i64.wrap (IntKind.i64.wrap (32 * who)+n))=x:=by rw[hx,hei];simp[IntKind.wrap,IntKind.signed,IntKind.bits];omega
     have HU:=k_ hu;have HX:=k_ hx;have HCAT:=k_ (show ∀ w,(Op.stringOp .add (bytesS L) (bytesS [x])).run Tryz.prog w=.ok (.string (bytesS L ++ bytesS [x])) w from fun w=>run_string_add_sum w _ _ (by rw[bytesS_size,bytesS_size];have:=HN.out;simp;omega));have HAPP:=k_ (show bytesS L ++ bytesS [x]=bytesS (L ++ [x]) from bS_app _ _);clear hu hx hei he0 he1
     go_upto_region 11 with fail
     refine wp_region_noPanic ?_;refine wp_region_held_drew (S:=fun w'=>Below w3.heap.size w3 w'∧w'.cell? ⟨bb,oo+k * 2,none⟩=some (.int .i64 who)∧w'.cell? ⟨bb,oo+k * 2+1,none⟩=some (.int .i64 n)) (by kernel_rfl) ⟨HB.out.drew,hx0,hx1⟩ (fun _=>?_);have HS1:=k_ (show Below w3.heap.size w3 wr.drew∧wr.drew.cell? ⟨bb,oo+k * 2,none⟩=some (.int .i64 who)∧wr.drew.cell? ⟨bb,oo+k * 2+1,none⟩=some (.int .i64 n) from⟨HB.out.drew,hx0,hx1⟩);clear hx0 hx1;generalize wr.drew=r1 at *;refine wpAnyH_take (i:=0) (v:=?_) rfl (by kernel_rfl) (by kernel_rfl) (by kernel_rfl) (fun _ _ _ h=>h) (Or.inl ⟨by kernel_rfl,?tq0⟩) HS1.out ?_
     case tq0=>(intro wq hq;obtain⟨_,q0,q1⟩:=hq;go_simp;first | done | with_reducible rfl)
     refine wpAnyH_take (i:=1) (v:=?_) rfl (by kernel_rfl) (by kernel_rfl) (by kernel_rfl) (fun _ _ _ h=>h) (Or.inl ⟨by kernel_rfl,?tq1⟩) HS1.out ?_
     case tq1=>(intro wq hq;obtain⟨_,q0,q1⟩:=hq;go_simp;first | done | with_reducible rfl)
     refine wpAnyH_take (i:=2) (v:=?_) rfl (by kernel_rfl) (by kernel_rfl) (by kernel_rfl) (fun _ _ _ h=>h) (Or.inl ⟨by kernel_rfl,?tq2⟩) HS1.out ?_
     case tq2=>(intro wq hq;obtain⟨_,q0,q1⟩:=hq;go_simp;first | done | with_reducible rfl)
     refine wpAnyH_take (i:=3) (v:=?_) rfl (by kernel_rfl) (by kernel_rfl) (by kernel_rfl) (fun _ _ _ h=>h) (Or.inl ⟨by kernel_rfl,?tq3⟩) HS1.out ?_
     case tq3=>(intro wq hq;obtain⟨_,q0,q1⟩:=hq;go_simp;first | done | with_reducible rfl)
     refine wpAnyH_take (i:=4) (v:=?_) rfl (by kernel_rfl) (by kernel_rfl) (by kernel_rfl) (fun _ _ _ h=>h) (Or.inl ⟨by kernel_rfl,?tq4⟩) HS1.out ?_
     case tq4=>(intro wq hq;obtain⟨_,q0,q1⟩:=hq;go_simp;first | done | with_reducible rfl)
     refine wpAnyH_take (i:=5) (v:=?_) rfl (by kernel_rfl) (by kernel_rfl) (by kernel_rfl) (fun _ _ _ h=>h) (Or.inl ⟨by kernel_rfl,?tq5⟩) HS1.out ?_
     case tq5=>(intro wq hq;obtain⟨_,q0,q1⟩:=hq;go_simp;first | done | with_reducible rfl)
     refine wpAnyH_take (i:=6) (v:=?_) rfl (by kernel_rfl) (by kernel_rfl) (by kernel_rfl) (fun _ _ _ h=>h) (Or.inl ⟨by kernel_rfl,?tq6⟩) HS1.out ?_
     case tq6=>(intro wq hq;obtain⟨_,q0,q1⟩:=hq;go_simp;first | done | with_reducible rfl)
     refine wpAnyH_take (i:=7) (v:=?_) rfl (by kernel_rfl) (by kernel_rfl) (by kernel_rfl) (fun _ _ _ h=>h) (Or.inl ⟨by kernel_rfl,?tq7⟩) HS1.out ?_
     case tq7=>(intro wq hq;obtain⟨_,q0,q1⟩:=hq;go_simp;first | done | with_reducible rfl)
     refine wpAnyH_take (i:=8) (v:=?_) rfl (by kernel_rfl) (by kernel_rfl) (by kernel_rfl) (fun _ _ _ h=>h) (Or.inl ⟨by kernel_rfl,?tq8⟩) HS1.out ?_
     case tq8=>(intro wq hq;obtain⟨_,q0,q1⟩:=hq;go_simp;first | done | with_reducible rfl)
     refine wpAnyH_take (i:=9) (v:=?_) rfl (by kernel_rfl) (by kernel_rfl) (by kernel_rfl) (fun _ _ _ h=>h) (Or.inl ⟨by kernel_rfl,?tq9⟩) HS1.out ?_
     case tq9=>(intro wq hq;obtain⟨_,q0,q1⟩:=hq;go_simp;first | done | with_reducible rfl)
     refine wpAnyH_take (i:=10) (v:=?_) rfl (by kernel_rfl) (by kernel_rfl) (by kernel_rfl) (fun _ _ _ h=>h) (Or.inl ⟨by kernel_rfl,?tq10⟩) HS1.out ?_
     case tq10=>(intro wq hq;obtain⟨_,q0,q1⟩:=hq;go_simp;first | done | with_reducible rfl)
     refine wpAnyH_take (i:=11) (v:=?_) rfl (by kernel_rfl) (by kernel_rfl) (by kernel_rfl) (fun _ _ _ h=>h) (Or.inl ⟨by kernel_rfl,?tq11⟩) HS1.out ?_
     case tq11=>(intro wq hq;obtain⟨_,q0,q1⟩:=hq;go_simp;first | done | with_reducible rfl)
     refine wpAnyH_take (i:=12) (v:=?_) rfl (by kernel_rfl) (by kernel_rfl) (by kernel_rfl) (fun _ _ _ h=>h) (Or.inl ⟨by kernel_rfl,?tq12⟩) HS1.out ?_
     case tq12=>(intro wq hq;obtain⟨_,q0,q1⟩:=hq;go_simp;first | done | with_reducible rfl)
     refine wpAnyH_take (i:=13) (v:=?_) rfl (by kernel_rfl) (by kernel_rfl) (by kernel_rfl) (fun _ _ _ h=>h) (Or.inl ⟨by kernel_rfl,?tq13⟩) HS1.out ?_
     case tq13=>(intro wq hq;obtain⟨_,q0,q1⟩:=hq;go_simp;first | done | with_reducible rfl)
     refine wpAnyH_ready (rs:=[14]) (by kernel_rfl) (by simp) ?_;refine(AllReadyH.cons rfl (fun K hK=>?_) AllReadyH.nil);go_simp;rw[HU.out];obtain⟨r2,hr2⟩:∃ u,u=r1.alloc (.cells #[.int .u8 x] 5):=⟨_,rfl⟩;have hcv:(convert 30 9 (.slice (some ⟨r1.heap.size,0,none⟩) 1 1)).run Tryz.prog r2=.ok (.string (bytesS [x])) r2:=by rw[hr2];exact run_byte1 r1 x
     have hba:Below r1.heap.size r1 r2:=by rw[hr2];exact(Below.refl _ _).alloc (Nat.le_refl _) _
     rw[← hr2];have HS2:=k_ (show Below w3.heap.size w3 r2∧r2.cell? ⟨bb,oo+k * 2,none⟩=some (.int .i64 who)∧r2.cell? ⟨bb,oo+k * 2+1,none⟩=some (.int .i64 n) from⟨HS1.out.1.trans (hba.mono HS1.out.1.size),below_cell hba HS1.out.2.1,below_cell hba HS1.out.2.2⟩);obtain⟨z,hz⟩:∃ z,z=r1.heap.size:=⟨_,rfl⟩;rw[← hz] at hcv ⊢;refine hK.out _ _ HS2.out (fun _=>?_);clear hK K hr2 hba hz HS1;refine wpAnyH_ready (rs:=[15]) (by kernel_rfl) (by simp) ?_;refine(AllReadyH.cons rfl (fun K hK=>?_) AllReadyH.nil);go_simp;refine hK.out _ _ HS2.out (fun _=>?_);clear hK K hcv;refine wpAnyH_ready (rs:=[16]) (by kernel_rfl) (by simp) ?_;refine(AllReadyH.cons rfl (fun K hK=>?_) AllReadyH.nil);have hcat:=HCAT.out;go_simp;refine hK.out _ _ HS2.out (fun _=>?_);clear hK K hcat;rw[HAPP.out];refine wpAnyH_ready (rs:=[17]) (by kernel_rfl) (by simp) ?_;refine(AllReadyH.cons rfl (fun K hK=>?_) AllReadyH.nil);go_simp;refine hK.out _ _ HS2.out (fun _=>?_);clear hK K;refine wpAnyH_done (by kernel_rfl) ?_ _;refine NoPanic.normal ?_;have HBE:=k_ HS2.out.1;go_wp2_with fail
     go_roundw
     case rel=>exact⟨k+1,L ++ [x],true,by omega,by go_num,rfl,rfl,by rw[HTK.out,← HQ.out,← HXE.out,HYES.out];rfl,fun _=>by rw[HTS.out,← HL.out,← HXE.out,HX.out],by simp;omega,HBE.out⟩
     case measure=>simp[intOf];omega
   ·have hk':k=l.length:=by omega
    subst hk';rw[List.take_length] at hq hL;have HQ:=k_ hq;have HL:=k_ hL;clear hq hL;go_wp2_with fail
    go_meet
    case rel=>exact⟨L,rfl,by rw[HOK.out,HQ.out],fun h=>HL.out (by rw[HQ.out,← HOK.out,h]),HB.out⟩
 case rest =>
  obtain⟨L,rfl,rfl,hL,hbc⟩:=hcut;have HL:=k_ hL;have HB4:=k_ (HB3.out.trans (hbc.mono HB3.out.size));have HC4:=k_ (HC3.out.trans (hbc.mono HC3.out.size));clear hL hbc;have st:=staysEntries_any wc _ g cap a l c HC.out ⟨below_cell HC4.out HM2.out.1,below_cell HC4.out HM2.out.2⟩ (HS2.out.below' HC4.out) (HSL.out.below' HB4.out) (by have:=HN.out;omega);have ST:=k_ st;clear st;have he:(⟨#[]⟩:ByteArray).toList.isEmpty=true:=by rw[ByteArray.toList_eq];rfl
  go_upto_region 12 with fail
  go_cut [120] (fun o wx=>o=.bool false∧∃ n,wx=wc.drewN n)
  case first =>
   cases ok
   ·obtain rfl:E=1:=HE.out
    obtain rfl:S=⟨#[]⟩:=HSS.out;go_wp2_with fail;refine ST.out.mono ?_;rintro e _ ⟨rfl,n,rfl⟩;go_wp2_with fail
    go_meet
    exact⟨rfl,n,rfl⟩
   ·obtain rfl:E=0:=HE.out
    obtain rfl:S=bytesS L:=by rw[HL.out rfl];exact HSS.out
    go_wp2_with fail;refine ST.out.mono ?_;rintro e _ ⟨rfl,n,rfl⟩;go_wp2_with fail
    go_meet
    exact⟨rfl,n,rfl⟩
  case rest =>
   obtain⟨rfl,n5,hw5⟩:=hcut;clear he;have HB5:=k_ (show Below w.heap.size w wc from by rw[hw5];exact below_drewN HB4.out n5);obtain⟨p,hp⟩:∃ p,p=wc.heap.size:=⟨_,rfl⟩;obtain⟨w6,hw6⟩:∃ w6,w6=wc.alloc (.cells #[.slice none 0 0,.slice none 0 0,.slice none 0 0,.slice none 0 0,.slice none 0 0,.slice none 0 0,.slice none 0 0,.slice none 0 0,.slice none 0 0,.slice none 0 0] 39):=⟨_,rfl⟩;have bk6:BkE w6 p (p+1) 0:=by rw[hw6,hp];exact BkE.new wc
   have hb6:Below w.heap.size w w6:=by rw[hw6];exact HB5.out.alloc HB5.out.size _
   have hs6:w6.heap.size=p+1:=by rw[hw6,hp];simp
   have hp0:w.heap.size≤p:=by rw[hp];exact HB5.out.size
   clear hw5;have BK6:=k_ bk6;clear bk6;have HB6:=k_ hb6;clear hb6;have HS6:=k_ hs6;clear hs6;have HP0:=k_ hp0;clear hp0;go_wp2_with fail;rw[← hw6,← hp];clear hw6 hp;refine(entries_any b _ (by have:=HBZ.out;omega)).mono ?_;obtain⟨X,hX⟩:∃ X,X=(entsS b).1:=⟨_,rfl⟩;obtain⟨F,hF⟩:∃ F,F=(entsS b).2:=⟨_,rfl⟩;rw[← hX,← hF];have HX:=k_ hX;have HF:=k_ hF;have HXL:=k_ (show X.length≤5000 from by
    rw[hX];unfold entsS
    split
    ·split
     ·rw[entsL_len];have:=HBZ.out;omega
     ·exact Nat.zero_le _
    ·exact Nat.zero_le _)
   clear hX hF;rintro e w7 ⟨v7,rfl,ho7,hb7⟩;obtain⟨a7,c7,rfl,hs7⟩:=own_entD ho7;have hc7:=HB6.out.trans (hb7.mono HB6.out.size);have bk7:=BK6.out.below hb7;have hz7:p+1≤w7.heap.size:=by have:=hb7.size;have:=HS6.out;omega
   have HO7:=k_ ho7;clear ho7;have HS7:=k_ hs7;clear hs7;have HC7:=k_ hc7;clear hc7;have BK7:=k_ bk7;clear bk7;have HZ7:=k_ hz7;clear hz7;clear hb7;go_wp2_with fail;refine(rentries_any b _ (by have:=HBZ.out;omega)).mono ?_;rw[← HX.out,← HF.out];rintro e w8 ⟨v8,rfl,ho8,hb8⟩;obtain⟨a8,c8,rfl,hs8⟩:=own_entD ho8;have hc8:=HC7.out.trans (hb8.mono HC7.out.size);have bk8:=BK7.out.below hb8;have ho78:Own entE w8 (p+1) (.slice a7 X.length c7) X:=by rw[← HS6.out];exact HO7.out.below hb8
   have hs78:=HS7.out.below' hb8;have ad:=bk8.add (by omega) ho78 (by have:=HXL.out;omega);have hd7:∀ k,(Value.slice a7 X.length c7).ownBlock=some k→p+1≤k:=fun k hk=>(ho78.lt hk).1
   have hd8:∀ k,(Value.slice a8 X.length c8).ownBlock=some k→p+1≤k:=fun k hk=>by have:=(ho8.lt hk).1;have:=HZ7.out;omega
   clear bk8 ho78 hb8 ho8;have HS8:=k_ hs8;clear hs8;have HC8:=k_ hc8;clear hc8;have AD:=k_ ad;clear ad;have HS78:=k_ hs78;clear hs78;have HD7:=k_ hd7;clear hd7;have HD8:=k_ hd8;clear hd8;go_wp2_with fail;refine AD.out.mono ?_;rintro e w9 ⟨rfl,bk9,hf9⟩;have hc9:=HC8.out.trans (hf9.below HC8.out.size (fun k hk=>by have:=HP0.out;omega));have sl7:=HS78.out.fr hf9 (fun k hk h=>by have:=HD7.out k hk;omega);have sl8:=HS8.out.fr hf9 (fun k hk h=>by have:=HD8.out k hk;omega);have sm:=sameEnts_any w9 _ _ a7 a8 X c7 c8 sl7 sl8 (by have:=HXL.out;omega);have ap:=fun n=>(bk9.below (below_drewN (Below.refl _ w9) n)).apart (by omega)
   have hfin:∀ n wf,Fr (fun k=>p≤k∧k<w9.heap.size) (w9.drewN n) wf→Below w.heap.size w wf:=fun n wf h=>hc9.trans (((Fr.refl _ w9).drewN n).trans h (fun _ _ h=>h) |>.below hc9.size (fun k hk=>by have:=HP0.out;omega))
   clear sl7 sl8 hf9 bk9;have HC9:=k_ hc9;clear hc9;have SM:=k_ sm;clear sm;have AP:=k_ ap;clear ap;have HFIN:=k_ hfin;clear hfin;go_wp2_with fail;refine SM.out.mono ?_;rintro e _ ⟨rfl,n10,rfl⟩;go_wp2_with fail;refine(AP.out _).mono ?_;rintro e wf ⟨rfl,hfr⟩;have hbf:=HFIN.out _ _ hfr;clear hfr;have HBF:=k_ hbf;clear hbf;go_wp2_with fail
   go_ret
   exact⟨rfl,HBF.out⟩
end Go.Proofs.YtlofbhoicbemnaaGreatDoor.Tk
