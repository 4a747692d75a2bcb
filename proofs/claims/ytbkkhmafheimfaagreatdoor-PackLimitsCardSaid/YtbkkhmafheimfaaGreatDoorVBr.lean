/- The machine that world.New makes, as the run wants it. Walks: the reader of a file: take, num. Walk: a script's bytes. Walk: a script's .. -/
import Derived.Test.YtbkkhmafheimfaaGreatDoorVBq
set_option linter.unusedVariables false
set_option linter.unusedSimpArgs false
set_option maxRecDepth 100000
set_option maxHeartbeats 1600000
namespace Go.Proofs.YtbkkhmafheimfaaGreatDoor.Tk
open Go.ChangeShapes Go.WideShapes Go.ChangeAt Go.RowKit Go.Maps
theorem own_at {P:Program} {α:Type} {E:Elem P α} {w:World} {B g n c:Nat} {l:List α} (h:Own E w B (.slice (some ⟨g,0,none⟩) n c) l):∃ cs:Array Value,w.heap[g]?=some (.cells cs E.e)∧∀ (j:Nat) (u:Value),(l.flatMap E.enc)[j]?=some u→cs[j]?=some u:=by
 have hc:=World.ownsRow.cells (g:=g) h rfl
 rcases h.2 with⟨h1,_⟩ | ⟨g',cap,cur,e,_,hh,_⟩
 ·cases h1
 ·injection e with e1
  injection e1 with e1
  injection e1 with e1
  subst e1;refine⟨cur,hh,fun j u hj=>?_⟩;have h1:=hc j u hj;rw[← (row_cell hh j).1];have h2:(⟨g,0,none⟩:Addr).add j=⟨g,j,none⟩:=by rw[addr_add _ rfl];simp
  rw[h2] at h1;exact h1
theorem NewPost.below {v:Int} {w w' w2:World} {e:Ending} (hp:NewPost v w e w') (hb2:Below w'.heap.size w' w2):NewPost v w e w2:=by
 obtain⟨wb,X,D,tb,F,XT,kb,tc,hb,hc,he,hwo,hot,hst,htk,hhd,ho1,ho2,hT,hXn,hXD,hprg,hD,hF,hkh,hwk,hwh,hwb,hB⟩:=hp;exact⟨wb,X,D,tb,F,XT,kb,tc,hb,hc,he,hwo.below hb2,hot,hst,htk,hhd,ho1.below hb2,ho2.below hb2,hT.below hb2,hXn,hXD,hprg.fr (Fr.of_below hb2 (fun _=>False)) (fun _ _ h=>h),fun k hk=>by have h1:=hD k hk;exact⟨h1.1,Nat.lt_of_lt_of_le h1.2.1 hb2.size,h1.2.2⟩,hF,hkh,hwk,hwh,hwb,hB.trans (hb2.mono hB.size)⟩
theorem ms_new (v:Int) (w w':World) (e:Ending) (hp:NewPost v w e w') (a:Option Addr) (l:List Ent) (De:Nat→Prop) (hent:EntSl w De a l) (hDe:∀ q,De q→q<w.heap.size) :
  ∃ M:MSt,e=.returned (.tuple #[.pointer (some ⟨M.wb,0,none⟩),.int .i64 0,.agg #[.int .i64 0,.int .i64 0]])∧M.ok∧M.v=v∧M.a=a∧M.l=l∧M.n0=w'.heap.size∧M.B=w'.heap.size∧M.De=De∧M.lo=w.heap.size∧Below w.heap.size w w' ∧
   ∃ X F XT,MS M w'.heap.size w' [] 0 0 (TZ 0 0) [] kf0 X F XT∧(∀ q,F q→M.lo≤q)∧∀ q,X.ot.ownBlock=some q→M.lo≤q:=by
 obtain⟨wb,X,D,tb,F,XT,kb,tc,hb,hc,he,hwo,hot,hst,htk,hhd,ho1,ho2,hT,hXn,hXD,hprg,hD,hF,hkh,hwk,hwh,hwb,hB⟩:=hp;have hkb:=World.ownsRow.lt ho1 kb (by rw[htk];rfl);have hhb:=World.ownsRow.lt ho2 hb (by rw[hhd];rfl);have hwlt:=hwo.lt;refine⟨⟨wb,kb,tc,hb,hc,tb,D,De,X.c0,X.c1,X.c2,X.mb,v,a,l,w'.heap.size,w'.heap.size,w.heap.size⟩,he,⟨⟨hwlt,hkb.2,hhb.2⟩,⟨hwb,hhb.1⟩,⟨hwk,hwh,hkh⟩,fun q hq=>?_,fun q hq=>?_,⟨hwlt,Nat.le_refl _⟩,?_⟩,rfl,rfl,rfl,rfl,rfl,rfl,rfl,hB,X,F,XT,?_,fun q hq=>(hF q hq).1,fun q hq=>by rw[hot] at hq;cases hq⟩
 ·have:=hD q hq;exact⟨this.2.1,this.2.2⟩
 ·have h1:=hDe q hq;have h2:=hB.size;exact⟨show q<w'.heap.size by omega,show q≠wb by omega,show q≠kb by omega,show q≠hb by omega⟩
 ·obtain⟨⟨a0,m0,e0,_⟩,⟨a1,m1,e1,_⟩,a2,m2,e2,_⟩:=hprg
  exact⟨a0,_,m0,a1,_,m1,a2,_,m2,e0,e1,e2⟩
 ·rw[htk] at ho1
  rw[hhd] at ho2;obtain⟨c1,h11,h12⟩:=own_at ho1;obtain⟨c2,h21,h22⟩:=own_at ho2;exact {
   mach:=hwo
   cc:=⟨rfl,rfl,rfl,rfl⟩
   tk:=htk
   hd:=hhd
   stv:=hst
   out:=by rw[hot];exact Own.nil _ _ _
   task:=hT
   alv:=hXn.1
   kfv:=hXn.2.1
   xd:=hXD
   kbc:=by rw[(row_cell h11 0).1];exact h12 0 _ rfl
   hand:=⟨c2,h21,h22 0 _ rfl,h22 1 _ rfl⟩
   prg:=hprg
   ent:=hent.below' hB
   fn:=fun q hq=>by
    have h1:=hF q hq;have h2:=hT.flt q hq;refine⟨Or.inl ⟨h1.1,h2⟩,h1.2.1,h1.2.2.1,h1.2.2.2,fun h=>?_,fun h=>?_,fun h=>?_⟩
    ·exact(hT.out q (by rw[hXD];exact h)).1 hq
    ·have h1:=h1.1;have:=hDe q h;omega
    ·rw[hot] at h;cases h
   on:=fun q hq=>by rw[hot] at hq;cases hq
   big:=⟨Nat.le_refl _,Nat.le_refl _⟩ }
end Go.Proofs.YtbkkhmafheimfaaGreatDoor.Tk
namespace Go.Proofs.YtbkkhmafheimfaaGreatDoor
open Go.ChangeShapes Go.WideShapes Go.ChangeAt Go.RowKit
def uTake (s:RS) (n:Int):ByteArray × RS:=if n<0∨(s.1.size:Int)<n then (⟨#[]⟩,(⟨#[]⟩,true)) else (s.1.extract 0 n.toNat,(s.1.extract n.toNat s.1.size,s.2))
def uVal (b:ByteArray):Int:=if b.size<4 then 0 else readV (gb b 0) (gb b 1) (gb b 2) (gb b 3)
def uNum (s:RS):Int × RS:=(uVal (uTake s 4).1,(uTake s 4).2)
def FRd (w:World) (p:Nat) (s:RS):Prop:=w.heap[p]?=some (.cells #[.string s.1,.bool s.2] 92)
theorem FRd.fr {F:Nat→Prop} {w w':World} {p:Nat} {s:RS} (h:FRd w p s) (hf:Fr F w w') (hn:¬ F p):FRd w' p s:=hf.heap h hn
theorem bytes_of (w:World) (b:ByteArray):∃ cap wf,Sem.run Tryz.prog (convert 9 49 (.string b)) w=.ok (.slice (some ⟨w.heap.size,0,none⟩) b.size cap) wf∧Below w.heap.size w wf ∧
  ∀ j (h:j<b.size),wf.cell? ⟨w.heap.size,j,none⟩=some (.int .u8 (b[j].toNat:Nat)):=by
 refine⟨_,_,run_bytes_of_string w _ _ 5 b Tryz.underlying9 Tryz.underlying49 Tryz.underlying5,((Below.refl _ _).drew).alloc (Nat.le_refl _) _,fun j h=>?_⟩;rw[show w.heap.size=w.drew.heap.size from rfl,cell_new];unfold bytesRow
 rw[Array.getElem?_append_left (by simpa using h)];rw[Array.getElem?_map,Array.getElem?_eq_getElem (by simpa using h)]
 rfl
theorem read_few (a:Option Addr) (n c:Nat) (w:World) (h:n<4) :
  Calls Tryz.prog 54 #[.slice a n c] w fun e w'=>e=.returned (.tuple #[.int .i64 0,.bool false])∧w=w':=by
 go_enter Tryz.func54,Tryz.ntmps54
 go_wp2
 go_ret2
 exact⟨rfl,rfl⟩
theorem utake_any (w:World) (p:Nat) (s:RS) (hr:FRd w p s) (n:Int) (hs:s.1.size≤1000000) :
  Calls Tryz.prog 32 #[.pointer (some ⟨p,0,none⟩),.int .i64 n] w fun e w'=>e=.returned (.string (uTake s n).1)∧FRd w' p (uTake s n).2∧Fr (onB p) w w':=by
 obtain⟨b,bad⟩:=s;obtain⟨q0,q1,q2,q3⟩:=two_cells (show _=some (Obj.cells #[.string b,.bool bad] 92) from hr)
 dsimp only at hs
 have hbad:FRd ((w.setCell ⟨p,1,none⟩ (.bool true)).setCell ⟨p,0,none⟩ (.string ⟨#[]⟩)) p (⟨#[]⟩,true)∧Fr (onB p) w ((w.setCell ⟨p,1,none⟩ (.bool true)).setCell ⟨p,0,none⟩ (.string ⟨#[]⟩)) :=
   ⟨two_set0 (two_set1 hr),((Fr.refl (onB p) w).setCell (p:=⟨p,1,none⟩) (fun _=>rfl) _).setCell (p:=⟨p,0,none⟩) (fun _=>rfl) _⟩
 by_cases hneg:n<0
 ·have e:uTake (b,bad) n=(⟨#[]⟩,(⟨#[]⟩,true)):=by unfold uTake;rw[if_pos (Or.inl hneg)]
  rw[e];clear e hr;have HBAD:=k_ hbad;clear hbad
  go_enter Tryz.func32,Tryz.ntmps32
  go_wp2_with fail
  go_ret
  exact⟨rfl,HBAD.out⟩
 by_cases h:(b.size:Int)<n
 ·have e:uTake (b,bad) n=(⟨#[]⟩,(⟨#[]⟩,true)):=by unfold uTake;rw[if_pos (Or.inr h)]
  rw[e];clear e hr;have HBAD:=k_ hbad;clear hbad
  go_enter Tryz.func32,Tryz.ntmps32
  go_wp2_with fail
  go_ret
  exact⟨rfl,HBAD.out⟩
 ·have e:uTake (b,bad) n=(b.extract 0 n.toNat,(b.extract n.toNat b.size,bad)):=by unfold uTake;rw[if_neg (fun h'=>h'.elim hneg h)]
  rw[e];have hp:FRd (w.setCell ⟨p,0,none⟩ (.string (b.extract n.toNat b.size))) p (b.extract n.toNat b.size,bad)∧Fr (onB p) w (w.setCell ⟨p,0,none⟩ (.string (b.extract n.toNat b.size))) :=
   ⟨two_set0 hr,(Fr.refl (onB p) w).setCell (p:=⟨p,0,none⟩) (fun _=>rfl) _⟩
  clear e hr hbad;have HP:=k_ hp;clear hp
  go_enter Tryz.func32,Tryz.ntmps32
  go_wp2_with fail
  go_ret
  exact⟨rfl,HP.out⟩
theorem unum_any (w:World) (p:Nat) (s:RS) (hr:FRd w p s) (hs:s.1.size≤1000000) :
  Calls Tryz.prog 33 #[.pointer (some ⟨p,0,none⟩)] w fun e w'=>e=.returned (.int .i64 (uNum s).1)∧FRd w' p (uNum s).2∧Fr (onB p) w w':=by
 have ht:=utake_any w p s hr 4 hs;unfold uNum
 by_cases h:(s.1.size:Int)<4
 ·have e1:uTake s 4=(⟨#[]⟩,(⟨#[]⟩,true)):=by unfold uTake;rw[if_pos (Or.inr h)]
  rw[e1] at ht ⊢;have he:(⟨#[]⟩:ByteArray).toList.isEmpty=true:=by rw[ByteArray.toList_eq];rfl
  clear e1 h hr hs;have HT:=k_ ht;clear ht
  go_enter Tryz.func33,Tryz.ntmps33
  go_wp2_with fail;refine HT.out.mono ?_;rintro e w1 ⟨rfl,hp⟩;have HP:=k_ hp;clear hp;obtain⟨cap,wf,hcv,hb,_⟩:=bytes_of w1 ⟨#[]⟩
  have HB:=k_ hb;clear hb;rw[show (⟨#[]⟩:ByteArray).size=0 from rfl] at hcv;go_wp2_with fail;refine(read_few _ _ _ _ (by omega)).mono ?_;rintro e w2 ⟨rfl,rfl⟩;go_wp2_with fail
  go_ret
  exact⟨rfl,HP.out.1.fr (Fr.of_below HB.out (fun _=>False)) (fun h=>h),HP.out.2.trans (Fr.of_below HB.out (onB p)) (fun _ _ h=>h)⟩
 ·have e1:uTake s 4=(s.1.extract 0 4,(s.1.extract 4 s.1.size,s.2)):=by unfold uTake;rw[if_neg (fun h'=>h'.elim (by omega) h)];rfl
  rw[e1] at ht ⊢;have hx:(s.1.extract 0 4).size=4:=by rw[ByteArray.size_extract];omega
  generalize s.1.extract 0 4=b1 at *;clear e1 h hr hs;have HT:=k_ ht;clear ht
  go_enter Tryz.func33,Tryz.ntmps33
  go_wp2_with fail;refine HT.out.mono ?_;rintro e w1 ⟨rfl,hp⟩;have HP:=k_ hp;clear hp;obtain⟨cap,wf,hcv,hb,hcs⟩:=bytes_of w1 b1
  rw[hx] at hcv;have c0:=hcs 0 (by omega);have c1:=hcs 1 (by omega);have c2:=hcs 2 (by omega);have c3:=hcs 3 (by omega);rw[gb_get _ _ _] at c0 c1 c2 c3;have HB:=k_ hb;have HV:=k_ (show uVal b1=readV (gb b1 0) (gb b1 1) (gb b1 2) (gb b1 3) from by unfold uVal;rw[if_neg (by omega)]);have HC:=k_ (And.intro c0 (And.intro c1 (And.intro c2 c3)));clear hb hcs c0 c1 c2 c3 hx;go_wp2_with fail;refine(read_any w1.heap.size 0 4 cap wf _ _ _ _ (by omega) (by omega) ⟨(gb_bd _ _).1,(gb_bd _ _).2,(gb_bd _ _).1,(gb_bd _ _).2,(gb_bd _ _).1,(gb_bd _ _).2,(gb_bd _ _).1,(gb_bd _ _).2⟩ HC.out.1 HC.out.2.1 HC.out.2.2.1 HC.out.2.2.2).mono ?_;rintro e w2 ⟨rfl,rfl⟩;go_wp2_with fail
  go_ret
  exact⟨by rw[HV.out];rfl,HP.out.1.fr (Fr.of_below HB.out (fun _=>False)) (fun h=>h),HP.out.2.trans (Fr.of_below HB.out (onB p)) (fun _ _ h=>h)⟩
def entOk (x:Ent):Bool:=decide (0≤x.who) && decide (x.who≤5) && decide (0≤x.n) && decide (x.n≤31)
def entI (x:Ent):Int:=32 * x.who+x.n
def scrL (l:List Ent):List Int:=l.map entI
def scrS (l:List Ent):ByteArray × Int:=if l.all entOk then (if l.length≤4000 then (bytesS (scrL l),0) else (⟨#[]⟩,5)) else (⟨#[]⟩,1)
theorem scrS_no (l:List Ent) (k:Nat) (hk:k<l.length) (h:entOk l[k]=false):scrS l=(⟨#[]⟩,1):=by
 have:l.all entOk=false:=by
  rw[List.all_eq_false];exact⟨l[k],List.getElem_mem hk,by simp[h]⟩
 unfold scrS;rw[this]
 rfl
theorem scrL_len (l:List Ent):(scrL l).length=l.length:=by simp[scrL]
theorem scrL_snoc (l:List Ent) (x:Ent):scrL (l ++ [x])=scrL l ++ [entI x]:=by simp[scrL]
theorem bits_tab:∀ a:Fin 6,∀ b:Fin 32,bits BinOp.or IntKind.u8 (((a.val:Nat):Int) * 32) ((b.val:Nat):Int)=32 * ((a.val:Nat):Int)+((b.val:Nat):Int):=by decide +kernel
theorem bits_ent (a b:Int) (h0:¬ a<0) (h1:¬ 5<a) (h2:¬ b<0) (h3:¬ 31<b):bits BinOp.or IntKind.u8 (a * 32) b=entI ⟨a,b⟩:=by
 have:=bits_tab ⟨a.toNat,by omega⟩ ⟨b.toNat,by omega⟩;simp only[Int.toNat_of_nonneg (show 0≤a by omega),Int.toNat_of_nonneg (show 0≤b by omega)] at this;exact this
theorem script_any (l:List Ent) (D:Nat→Prop) (a:Option Addr) (c:Nat) (w:World) (hl:l.length≤100000) (hc:EntSl w D a l) :
  Calls Tryz.prog 6 #[.slice a l.length c] w fun e w'=>e=.returned (.tuple #[.string (scrS l).1,.int .i64 (scrS l).2])∧Below w.heap.size w w':=by
 have HC:=k_ hc;clear hc
 go_enter Tryz.func6,Tryz.ntmps6
 go_wp2_with fail
 go_loopw [4,9] (fun v i wr=>∃ k:Nat,k≤l.length∧i=.int .i64 k∧Own u8E wr w.heap.size v (scrL (l.take k))∧Below w.heap.size w wr∧(l.take k).all entOk=true) (fun _ i _=>l.length - (intOf i).toNat)
 case atStart=>exact⟨0,Nat.zero_le _,rfl,Own.nil _ _ _,Below.refl _ _,rfl⟩
 case round =>
  obtain⟨k,hk,rfl,hown,hB,hok⟩:=hrel
  by_cases hlt:k<l.length
  ·have hx:=HC.out.below' hB k hlt
   obtain⟨b,o,rfl,hd,hx0,hx1⟩:=hx;have HB:=k_ hB;clear hB;have HOK:=k_ hok;clear hok;have HO:=k_ hown;clear hown;obtain⟨x,hxe⟩:∃ x,x=l[k]:=⟨_,rfl⟩;rw[← hxe] at hx0 hx1;obtain⟨who,n⟩:=x;have hno:entOk ⟨who,n⟩=false→scrS l=(⟨#[]⟩,1):=fun h=>scrS_no l k hlt (by rw[← hxe];exact h)
   have hx0:wr.cell? ⟨b,o+k * 2,none⟩=some (.int .i64 who):=hx0;have hx1:wr.cell? ⟨b,o+k * 2+1,none⟩=some (.int .i64 n):=hx1;have HXE:=k_ hxe;have HE:=k_ (HB.out.alloc HB.out.size (.cells #[.int .i64 who,.int .i64 n] 42));clear hxe hd
   by_cases c1:who<0
   ·have HN:=k_ (hno (by unfold entOk;simp;omega));clear hno
    go_wp2_with fail
    go_ret2
    exact⟨by rw[HN.out];rfl,HE.out⟩
   by_cases c2:5<who
   ·have HN:=k_ (hno (by unfold entOk;simp;omega));clear hno
    go_wp2_with fail
    go_ret2
    exact⟨by rw[HN.out];rfl,HE.out⟩
   by_cases c3:n<0
   ·have HN:=k_ (hno (by unfold entOk;simp;omega));clear hno
    go_wp2_with fail
    go_ret2
    exact⟨by rw[HN.out];rfl,HE.out⟩
   by_cases c4:31<n
   ·have HN:=k_ (hno (by unfold entOk;simp;omega));clear hno
    go_wp2_with fail
    go_ret2
    exact⟨by rw[HN.out];rfl,HE.out⟩
   have hyes:entOk ⟨who,n⟩=true:=by unfold entOk;simp;omega
   have HY:=k_ hyes;clear hno hyes;have HBI:=k_ (bits_ent who n c1 c2 c3 c4)
   go_wp2_with (at_builtin;refine append_own u8E rfl (.tmp 31) (.tmp 40) rfl w.heap.size (scrL (l.take k)) [bits BinOp.or IntKind.u8 (who * 32) n] _ rfl ((HO.out.alloc _).alloc _) (wr.heap.size+1) 0 1 rfl (CellsAt.new' _ _ _ (by simp))  ?c1 ?c2 ?_)
   case c1=>rw[scrL_len];simp;omega
   case c2=>have:=HB.out.size;simp;omega
   intro v2 w2 hown2 hg2;have hB2:=k_ (below_grown (HE.out.alloc HE.out.size _) ((HO.out.alloc _).alloc _) hg2 (by have:=HB.out.size;simp;omega) (Nat.le_refl _));rw[HBI.out] at hown2;have HO2:=k_ hown2;clear hown2;clear hg2 hx0 hx1;go_wp2_with fail
   go_roundw
   case rel =>
    refine⟨k+1,by omega,by go_num,?_,hB2.out,?_⟩
    ·rw[take_snoc l k hlt,scrL_snoc,← HXE.out]
     exact HO2.out
    ·rw[take_snoc l k hlt,List.all_append,HOK.out,← HXE.out]
     simp[HY.out]
   case measure=>simp[intOf];omega
  ·have hk':k=l.length:=by omega
   subst hk';rw[List.take_length] at hown hok;have HB:=k_ hB;clear hB;have HO:=k_ hown;clear hown;have HL:=k_ (scrL_len l)
   by_cases h4:l.length≤4000
   ·have HR:=k_ (show scrS l=(bytesS (scrL l),0) from by unfold scrS;rw[hok,if_pos rfl,if_pos h4])
    have HTX:=k_ (own_str HO.out);obtain⟨g,cap,rfl,_⟩:=own_elems HO.out;rw[HL.out] at *;have hcv:=HTX.out;go_wp2_with fail
    go_ret2
    exact⟨by rw[HR.out];rfl,HB.out⟩
   ·have HR:=k_ (show scrS l=(⟨#[]⟩,5) from by unfold scrS;rw[hok,if_pos rfl,if_neg h4])
    obtain⟨g,cap,rfl,_⟩:=own_elems HO.out;rw[HL.out] at *;go_wp2_with fail
    go_ret2
    exact⟨by rw[HR.out];rfl,HB.out⟩
def entO (x:UInt8):Ent:=⟨((x.toNat:Nat):Int) / 32,((x.toNat:Nat):Int) % 32⟩
def entsL (b:ByteArray):List Ent:=b.data.toList.map entO
def entsOk (b:ByteArray):Bool:=b.data.toList.all (fun x=>decide ((entO x).who≤5))
def entsS (b:ByteArray):List Ent × Int:=if entsOk b then (if b.size≤4000 then (entsL b,0) else ([],5)) else ([],2)
theorem entsL_len (b:ByteArray):(entsL b).length=b.size:=by unfold entsL;rw[List.length_map,Array.length_toList];rfl
theorem and31E:∀ a:Fin 256,bits BinOp.and IntKind.u8 ((a.val:Nat):Int) 31=((a.val:Nat):Int) % 32:=by decide +kernel
theorem byte_at (b:ByteArray) (k:Nat) (h:k<b.size):∃ x:Int,(∃ u,b.data.toList[k]?=some u∧x=((u.toNat:Nat):Int))∧0≤x∧x≤255∧IntKind.i64.wrap (x / 32)=x / 32∧IntKind.i64.wrap (x % 32)=x % 32∧bits BinOp.and IntKind.u8 x 31=x % 32 ∧
  ∀ w,Sem.run Tryz.prog (Instr.index 9 (.string b) (.int .i64 k)) w=.ok (.int .u8 x) w:=by
 have hlt:b[k].toNat<256:=UInt8.toNat_lt _;refine⟨_,⟨b[k],?_,rfl⟩,by omega,by omega,by simp[IntKind.wrap,IntKind.signed,IntKind.bits];omega,by simp[IntKind.wrap,IntKind.signed,IntKind.bits];omega,and31E ⟨_,hlt⟩,fun w=>?_⟩
 ·rw[List.getElem?_eq_getElem (by simpa using h)];rfl
 ·rw[run_index_string w _ b .i64 k Tryz.underlying9,dif_pos ⟨by omega,by omega⟩]
  rfl
theorem entries_any (b:ByteArray) (w:World) (hl:b.size≤100000) :
  Calls Tryz.prog 7 #[.string b] w fun e w'=>∃ v,e=.returned (.tuple #[v,.int .i64 (entsS b).2])∧Own entE w' w.heap.size v (entsS b).1∧Below w.heap.size w w':=by
 go_enter Tryz.func7,Tryz.ntmps7
 go_wp2_with fail
 go_loopw [4,9] (fun v i wr=>∃ k:Nat,k≤b.size∧i=.int .i64 k∧Own entE wr w.heap.size v ((entsL b).take k)∧Below w.heap.size w wr∧(b.data.toList.take k).all (fun x=>decide ((entO x).who≤5))=true) (fun _ i _=>b.size - (intOf i).toNat)
 case atStart=>exact⟨0,Nat.zero_le _,rfl,Own.nil _ _ _,Below.refl _ _,rfl⟩
 case round =>
  obtain⟨k,hk,rfl,hown,hB,hok⟩:=hrel
  by_cases hlt:k<b.size
  ·have HB:=k_ hB;clear hB
   have HOK:=k_ hok;clear hok;have HO:=k_ hown;clear hown;obtain⟨x,hx,x0,x1,hw1,hw2,hb31,hix⟩:=byte_at b k hlt
   have HX:=k_ hx;clear hx
   go_upto_region 5 with fail
   refine wp_region_noPanic ?_;refine wp_region_held_drew (S:=fun w'=>Below wr.heap.size wr w') (by kernel_rfl) (Below.refl _ _).drew (fun _=>?_);have HR1:=k_ (Below.refl wr.heap.size wr).drew;have hs1:wr.drew.heap.size=wr.heap.size:=rfl;have HS1:=k_ hs1;clear hs1;have HO1:=k_ (HO.out.drew);have HB1:=k_ (HB.out.drew);generalize wr.drew=r1 at *;refine wpAnyH_take (i:=0) (v:=?_) rfl (by kernel_rfl) (by kernel_rfl) (by kernel_rfl) (fun _ _ _ h=>h) (Or.inl ⟨by kernel_rfl,?tq0⟩) HR1.out ?_
   case tq0=>(intro wq hq;go_simp;first | done | with_reducible rfl)
   refine wpAnyH_take (i:=1) (v:=?_) rfl (by kernel_rfl) (by kernel_rfl) (by kernel_rfl) (fun _ _ _ h=>h) (Or.inl ⟨by kernel_rfl,?tq1⟩) HR1.out ?_
   case tq1=>(intro wq hq;go_simp;first | done | with_reducible rfl)
   refine wpAnyH_take (i:=2) (v:=?_) rfl (by kernel_rfl) (by kernel_rfl) (by kernel_rfl) (fun _ _ _ h=>h) (Or.inl ⟨by kernel_rfl,?tq2⟩) HR1.out ?_
   case tq2=>(intro wq hq;go_simp;first | done | with_reducible rfl)
   refine wpAnyH_take (i:=3) (v:=?_) rfl (by kernel_rfl) (by kernel_rfl) (by kernel_rfl) (fun _ _ _ h=>h) (Or.inl ⟨by kernel_rfl,?tq3⟩) HR1.out ?_
   case tq3=>(intro wq hq;go_simp;first | done | with_reducible rfl)
   refine wpAnyH_take (i:=4) (v:=?_) rfl (by kernel_rfl) (by kernel_rfl) (by kernel_rfl) (fun _ _ _ h=>h) (Or.inl ⟨by kernel_rfl,?tq4⟩) HR1.out ?_
   case tq4=>(intro wq hq;go_simp;first | done | with_reducible rfl)
   refine wpAnyH_take (i:=5) (v:=?_) rfl (by kernel_rfl) (by kernel_rfl) (by kernel_rfl) (fun _ _ _ h=>h) (Or.inl ⟨by kernel_rfl,?tq5⟩) HR1.out ?_
   case tq5=>(intro wq hq;go_simp;first | done | with_reducible rfl)
   refine wpAnyH_take (i:=6) (v:=?_) rfl (by kernel_rfl) (by kernel_rfl) (by kernel_rfl) (fun _ _ _ h=>h) (Or.inl ⟨by kernel_rfl,?tq6⟩) HR1.out ?_
   case tq6=>(intro wq hq;go_simp;first | done | with_reducible rfl)
   refine wpAnyH_take (i:=7) (v:=?_) rfl (by kernel_rfl) (by kernel_rfl) (by kernel_rfl) (fun _ _ _ h=>h) (Or.inl ⟨by kernel_rfl,?tq7⟩) HR1.out ?_
   case tq7=>(intro wq hq;go_simp;first | done | with_reducible rfl)
   refine wpAnyH_take (i:=8) (v:=?_) rfl (by kernel_rfl) (by kernel_rfl) (by kernel_rfl) (fun _ _ _ h=>h) (Or.inl ⟨by kernel_rfl,?tq8⟩) HR1.out ?_
   case tq8=>(intro wq hq;go_simp;first | done | with_reducible rfl)
   refine wpAnyH_take (i:=9) (v:=?_) rfl (by kernel_rfl) (by kernel_rfl) (by kernel_rfl) (fun _ _ _ h=>h) (Or.inl ⟨by kernel_rfl,?tq9⟩) HR1.out ?_
   case tq9=>(intro wq hq;go_simp;first | done | with_reducible rfl)
   refine wpAnyH_take (i:=10) (v:=?_) rfl (by kernel_rfl) (by kernel_rfl) (by kernel_rfl) (fun _ _ _ h=>h) (Or.inl ⟨by kernel_rfl,?tq10⟩) HR1.out ?_
   case tq10=>(intro wq hq;go_simp;first | done | with_reducible rfl)
   refine wpAnyH_ready (rs:=[11]) (by kernel_rfl) (by simp) ?_;refine(AllReadyH.cons rfl (fun K hK=>?_) AllReadyH.nil);go_simp;obtain⟨r2,hr2⟩:∃ u,u=r1.alloc (.cells #[.int .i64 0,.int .i64 0] 42):=⟨_,rfl⟩;have hcl:=heap_new r1 (.cells #[.int .i64 0,.int .i64 0] 42);have hba:Below r1.heap.size r1 r2:=by rw[hr2];exact(Below.refl _ _).alloc (Nat.le_refl _) _
   rw[← hr2] at hcl ⊢;have HO2:=k_ (HO1.out.below hba);have HB2:=k_ (HB1.out.trans (hba.mono HB1.out.size));have HR2:=k_ (HR1.out.trans (hba.mono HR1.out.size));have hn:wr.heap.size≤r1.heap.size:=HR1.out.size;have hlt2:r1.heap.size<r2.heap.size:=by rw[hr2];simp
   obtain⟨z,hz⟩:∃ z,z=r1.heap.size:=⟨_,rfl⟩;rw[← hz] at hcl hn hlt2 ⊢;have hc0:r2.cell? ⟨z,0,none⟩=some (.int .i64 0):=by simp[World.cell?,hcl]
   have hc1:r2.cell? ⟨z,1,none⟩=some (.int .i64 0):=by simp[World.cell?,hcl]
   have hf0:r2.frozen? ⟨z,0,none⟩=false:=by simp[World.frozen?,hcl]
   have hf1:r2.frozen? ⟨z,1,none⟩=false:=by simp[World.frozen?,hcl]
   refine hK.out _ _ HR2.out (fun _=>?_);clear hK K hr2 hba HO1 HB1 HR1 HS1 hz;refine wpAnyH_ready (rs:=[12]) (by kernel_rfl) (by simp) ?_;refine(AllReadyH.cons rfl (fun K hK=>?_) AllReadyH.nil);go_simp;have hb3:Below wr.heap.size wr ((r2.setCell ⟨z,0,none⟩ (.int .i64 (x / 32))).setCell ⟨z,1,none⟩ (.int .i64 (x % 32))):=(HR2.out.setCell hn _).setCell hn _;have d0:((r2.setCell ⟨z,0,none⟩ (.int .i64 (x / 32))).setCell ⟨z,1,none⟩ (.int .i64 (x % 32))).cell? ⟨z,0,none⟩=some (.int .i64 (x / 32)):=by
    rw[World.cell?_setCell_other (h:=by simp),World.cell?_setCell_same (h:=hc0)]
   have d1:((r2.setCell ⟨z,0,none⟩ (.int .i64 (x / 32))).setCell ⟨z,1,none⟩ (.int .i64 (x % 32))).cell? ⟨z,1,none⟩=some (.int .i64 (x % 32)):=by
    rw[World.cell?_setCell_same (h:=by rw[World.cell?_setCell_other (h:=by simp)];exact hc1)]
   refine hK.out _ _ hb3 (fun _=>?_);clear hK K;generalize ((r2.setCell ⟨z,0,none⟩ (.int .i64 (x / 32))).setCell ⟨z,1,none⟩ (.int .i64 (x % 32)))=r3 at *;clear hcl hc0 hc1 hf0 hf1 hlt2 HO2 HB2 HR2;have HO3:=k_ (HO.out.below hb3);have HB3:=k_ (HB.out.trans (hb3.mono HB.out.size));clear HO HB;refine wpAnyH_done (by kernel_rfl) ?_ _;refine NoPanic.normal ?_;clear hb3 hn hix hw1 hw2 hb31;obtain⟨u,hu,hxu⟩:=HX.out;have hxx:entO u=⟨x / 32,x % 32⟩:=by unfold entO;rw[← hxu]
   by_cases h5:5<x / 32
   ·have HN:=k_ (show entsS b=([],2) from by
     have:entsOk b=false:=by
      unfold entsOk;rw[List.all_eq_false];exact⟨u,List.mem_of_getElem? hu,by rw[hxx];simp;omega⟩
     unfold entsS;rw[this];rfl)
    clear hu hxu hxx;go_wp2_with fail
    go_ret2
    exact⟨_,by rw[HN.out];rfl,by rw[HN.out];exact Own.nil _ _ _,HB3.out⟩
   ·have HU:=k_ hu
    have HXX:=k_ hxx;clear hu hxu hxx
    go_wp2_with (at_builtin;refine append_own entE rfl (.tmp 26) (.tmp 28) rfl w.heap.size ((entsL b).take k) [⟨x / 32,x % 32⟩] _ rfl (HO3.out.alloc _) r3.heap.size 0 1 rfl (CellsAt.new _ _ _ _) ?c1 ?c2 ?_)
    case c1=>simp[entsL_len];omega
    case c2=>have:=HB3.out.size;simp;omega
    intro v4 w4 hown4 hg4;have hB4:=k_ (below_grown (HB3.out.alloc HB3.out.size _) (HO3.out.alloc _) hg4 (by have:=HB3.out.size;simp;omega) (Nat.le_refl _));have HO4:=k_ hown4;clear hown4;clear hg4;go_wp2_with fail
    go_roundw
    case rel =>
     refine⟨k+1,by omega,by go_num,?_,hB4.out,?_⟩
     ·rw[List.take_add_one,show (entsL b)[k]?=some ⟨x / 32,x % 32⟩ from by unfold entsL;rw[List.getElem?_map,HU.out,← HXX.out];rfl]
      exact HO4.out
     ·rw[List.take_add_one,HU.out,List.all_append,HOK.out]
      simp[HXX.out];omega
    case measure=>simp[intOf];omega
  ·have hk':k=b.size:=by omega
   subst hk';rw[List.take_of_length_le (Nat.le_of_eq (entsL_len b))] at hown;rw[List.take_of_length_le (Nat.le_of_eq (by rw[Array.length_toList];rfl))] at hok;have HB:=k_ hB;clear hB;have HO:=k_ hown;clear hown;obtain⟨g,cap,rfl,_⟩:=own_elems HO.out;have HL:=k_ (entsL_len b);rw[HL.out] at *
   by_cases h4:b.size≤4000
   ·have HR:=k_ (show entsS b=(entsL b,0) from by unfold entsS;rw[show entsOk b=true from hok,if_pos rfl,if_pos h4])
    go_wp2_with fail
    go_ret2
    exact⟨_,by rw[HR.out];rfl,by rw[HR.out];have h:=HO.out;rw[entsL_len] at h;exact h,HB.out⟩
   ·have HR:=k_ (show entsS b=([],5) from by unfold entsS;rw[show entsOk b=true from hok,if_pos rfl,if_neg h4])
    go_wp2_with fail
    go_ret2
    exact⟨_,by rw[HR.out];rfl,by rw[HR.out];exact Own.nil _ _ _,HB.out⟩
end Go.Proofs.YtbkkhmafheimfaaGreatDoor
