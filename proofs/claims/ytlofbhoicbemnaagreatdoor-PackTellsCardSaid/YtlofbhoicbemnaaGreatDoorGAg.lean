/- What comes in: a slice of a script's entries. Walk: a script's bytes. Walk: a script's entries out of its bytes. Walk: the law's own .. -/
import Derived.Test.YtlofbhoicbemnaaGreatDoorGAb
import Derived.Deep.RegionHeld3
import Derived.BigRegion
import Derived.Deep.CutBlock
import Derived.Deep.DeepCutAuto
import Derived.Deep.RegionLaw
set_option linter.unusedVariables false
set_option linter.unusedSimpArgs false
set_option maxRecDepth 100000
set_option maxHeartbeats 1600000
namespace Go.Proofs.YtlofbhoicbemnaaGreatDoor
open Go.ChangeShapes Go.WideShapes Go.ChangeAt Go.RowKit
structure Ent where (who n:Int)
instance : Inhabited Ent := ⟨⟨0, 0⟩⟩
def Ent.cells (x:Ent):List Value:=[.int .i64 x.who,.int .i64 x.n]
def Ent.wf (x:Ent):Prop:=(-9223372036854775808≤x.who∧x.who≤9223372036854775807)∧(-9223372036854775808≤x.n∧x.n≤9223372036854775807)
def xE (w:World) (b o:Nat) (x:Ent):Prop:=w.cell? ⟨b,o,none⟩=some (.int .i64 x.who)∧w.cell? ⟨b,o+1,none⟩=some (.int .i64 x.n)
def dz (w:World) (D:Nat→Prop) (a:Option Addr) (l:List Ent):Prop:=∀ j (hj:j<l.length),∃ b o,a=some ⟨b,o,none⟩∧D b∧xE w b (o+j * 2) l[j]
theorem dz.fr {F:Nat→Prop} {w w':World} {D:Nat→Prop} {a:Option Addr} {l:List Ent} (h:dz w D a l) (hf:Fr F w w') (hd:∀ k,D k→¬ F k):dz w' D a l:=fun j hj=>by
 obtain⟨b,o,h1,h2,h3,h4⟩:=h j hj;exact⟨b,o,h1,h2,hf.cell h3 (hd b h2),hf.cell h4 (hd b h2)⟩
theorem dz.below' {w w':World} {D:Nat→Prop} {a:Option Addr} {l:List Ent} (h:dz w D a l) (hb:Below w.heap.size w w'):dz w' D a l:=h.fr (fb_ hb) (fun _ _ h=>h)
theorem dz.below {w w':World} {D:Nat→Prop} {a:Option Addr} {l:List Ent} (h:dz w D a l) (hb:Below w.heap.size w w'):dz w' D a l:=h.fr (fb_ hb) (fun _ _ h=>h)
variable {H:Type} {enc:TypeId × Value→H}
theorem uR:Tryz.prog.cellsOf 29=2:=by kernel_rfl
theorem D5 {w:World} {base:Nat} {sp:Nat→Bool} {hd:Bool} {n:Nat} {cs:List Value} {x:DataW H × List MemPlace} (h:DataW.trod enc Tryz.prog w base sp hd n 29 cs=some x):∃ y:Ent,cs=y.cells∧y.wf:=by
 obtain⟨xs,m,_,_,hl,hlen,hf⟩:=DataW.trod_struct Tryz.underlying29 h;rw[uR] at hl
 match cs,hl,xs,hlen with
 | [c0,c1],_,[y0,y1],_ =>
   have f0:DataW.trod enc Tryz.prog w base sp hd m 3 (([c0,c1].drop 0).take (Tryz.prog.cellsOf 3))=some y0:=hf 0 _ rfl;have f1:DataW.trod enc Tryz.prog w base sp hd m 3 (([c0,c1].drop 1).take (Tryz.prog.cellsOf 3))=some y1:=hf 1 _ rfl;rw[gJ.1] at f0 f1;obtain⟨z0,rfl,b0⟩:=dD f0;obtain⟨z1,rfl,b1⟩:=dD f1;exact⟨⟨z0,z1⟩,rfl,b0,b1⟩
theorem Db {w:World} {base:Nat} {a:Addr} {x:Ent} (h:w.cells? base a 2=some x.cells):a.spot=none∧xE w a.block a.off x∧a.block<w.heap.size:=by
 obtain⟨_,_,hc⟩:=World.cells?_some h;have h0:=hc 0 (by omega);have hp:a.add 0=a:=rfl;rw[hp] at h0;have hs:a.spot=none:=by have:=lg (v:=.int .i64 x.who) h0;rw[this]
 have h1:=hc 1 (by omega);rw[addr_add a hs] at h1;have:=lg (v:=.int .i64 x.who) h0;rw[this] at h0;have h2:w.cell? ⟨a.block,a.off,none⟩=some (.int .i64 x.who):=h0;have h3:=World.block_lt h2;exact⟨hs,⟨h0,h1⟩,h3⟩
theorem wM {w:World} {base b:Nat} {v:Value} {sp:Nat→Bool} {d:DataW H} {p:List MemPlace} (hv:Value.okWide Tryz.prog w .any base 22 v)
  (h:DataW.Trod enc Tryz.prog w b sp true 22 v d p):∃ (a:Option Addr) (l:List Ent) (c:Nat),v=.slice a l.length c∧dz w (fun k=>k<w.heap.size) a l∧(∀ x ∈ l,x.wf)∧l.length≤c:=by
 obtain⟨fuel,hf⟩:=h;obtain⟨a0,len0,cap0,rfl⟩:=okWide_slice Tryz.underlying22 hv
 rcases Go.Deep.open_slice Tryz.underlying22 hf with⟨hcs,hx⟩ | ⟨a,len,cap,m,n,D,Pl,hcs,hb,hl,hm,hmm,hx,hel⟩
 ·simp[Value.cells] at hcs
  obtain⟨rfl,rfl,rfl⟩:=hcs;exact⟨none,[],0,rfl,(fun j hj=>by cases hj),(fun x hx=>by cases hx),Nat.le_refl _⟩
 ·simp[Value.cells] at hcs
  obtain⟨rfl,rfl,rfl⟩:=hcs;have hle:len0≤m:=by rw[hmm];split <;> omega
  rw[uR] at hel;obtain⟨f,hF⟩:=Go.Deep.choose_lt (α:=Ent) (p:=fun i y=>(a.add (i * 2)).spot=none∧(xE w (a.add (i * 2)).block (a.add (i * 2)).off y∧(a.add (i * 2)).block<w.heap.size)∧y.wf) (n:=len0) (fun i hi=>by
   obtain⟨cs',h1,h2⟩:=hel i (by omega);obtain⟨y,rfl,hwf⟩:=D5 h2;obtain⟨h3,h4⟩:=Db h1;exact⟨y,h3,h4,hwf⟩)
  refine⟨some a,(List.range len0).map f,cap0,by simp,fun j hj=>?_,fun x hx=>?_,by simpa using hl⟩
  ·simp at hj
   have h0:=(hF 0 (by omega)).1;have ha0:a.add (0 * 2)=a:=by unfold Addr.add;simp
   rw[ha0] at h0;have hj2:=(hF j hj).2.1;rw[addr_add a h0] at hj2;obtain⟨bb,oo,ss⟩:=a
   dsimp only at h0
   subst h0;exact⟨bb,oo,rfl,hj2.2,by simpa using hj2.1⟩
  ·simp at hx
   obtain⟨i,hi,rfl⟩:=hx;exact(hF i hi).2.2
def qp:Elem Tryz.prog Ent where
 e:=29
 t:=22
 size:=2
 bytes:=16
 zero:=.agg #[.int .i64 0,.int .i64 0]
 enc:=Ent.cells
 ht:=Tryz.underlying22
 info:=by kernel_rfl
 hzs:=rfl
 hsz:=by decide
 hby:=by decide
 henc:=fun _=>rfl
 hone:=fun x u h=>by simp[Ent.cells] at h;rcases h with rfl | rfl <;> rfl
end Go.Proofs.YtlofbhoicbemnaaGreatDoor
namespace Go.Proofs.YtlofbhoicbemnaaGreatDoor
open Go.ChangeShapes Go.WideShapes Go.ChangeAt Go.RowKit
def bR (x:Ent):Bool:=decide (0≤x.who) && decide (x.who≤5) && decide (0≤x.n) && decide (x.n≤31)
def yu (x:Ent):Int:=32 * x.who+x.n
def gK (l:List Ent):List Int:=l.map yu
def jW (l:List Ent):ByteArray × Int:=if l.all bR then (if l.length≤4000 then (ah (gK l),0) else (⟨#[]⟩,5)) else (⟨#[]⟩,1)
theorem G5 (l:List Ent) (k:Nat) (hk:k<l.length) (h:bR l[k]=false):jW l=(⟨#[]⟩,1):=by
 have:l.all bR=false:=by
  rw[List.all_eq_false];exact⟨l[k],List.getElem_mem hk,by simp[h]⟩
 unfold jW;rw[this]
 rfl
theorem jF (l:List Ent):(gK l).length=l.length:=by simp[gK]
theorem uU (l:List Ent) (x:Ent):gK (l ++ [x])=gK l ++ [yu x]:=by simp[gK]
theorem F8:∀ a:Fin 6,∀ b:Fin 32,bits BinOp.or IntKind.u8 (((a.val:Nat):Int) * 32) ((b.val:Nat):Int)=32 * ((a.val:Nat):Int)+((b.val:Nat):Int):=by decide +kernel
theorem F7 (a b:Int) (h0:¬ a<0) (h1:¬ 5<a) (h2:¬ b<0) (h3:¬ 31<b):bits BinOp.or IntKind.u8 (a * 32) b=yu ⟨a,b⟩:=by
 have:=F8 ⟨a.toNat,by omega⟩ ⟨b.toNat,by omega⟩;simp only[Int.toNat_of_nonneg (show 0≤a by omega),Int.toNat_of_nonneg (show 0≤b by omega)] at this;exact this
theorem rT (l:List Ent) (D:Nat→Prop) (a:Option Addr) (c:Nat) (w:World) (hl:l.length≤100000) (hc:dz w D a l) :
  Calls Tryz.prog 7 #[.slice a l.length c] w fun e w'=>e=.returned (.tuple #[.string (jW l).1,.int .i64 (jW l).2])∧Below w.heap.size w w':=by
 have HC:=k_ hc;clear hc
 go_enter Tryz.func7,Tryz.ntmps7
 go_wp2_with fail
 go_loopw [4,9] (fun v i wr=>∃ k:Nat,k≤l.length∧i=.int .i64 k∧Own u8E wr w.heap.size v (gK (l.take k))∧Below w.heap.size w wr∧(l.take k).all bR=true) (fun _ i _=>l.length - (intOf i).toNat)
 case atStart=>exact⟨0,Nat.zero_le _,rfl,Own.nil _ _ _,Below.refl _ _,rfl⟩
 case round =>
  obtain⟨k,hk,rfl,hown,hB,hok⟩:=hrel
  by_cases hlt:k<l.length
  ·have hx:=HC.out.below' hB k hlt
   obtain⟨b,o,rfl,hd,hx0,hx1⟩:=hx;have HB:=k_ hB;clear hB;have HOK:=k_ hok;clear hok;have HO:=k_ hown;clear hown;obtain⟨x,hxe⟩:∃ x,x=l[k]:=⟨_,rfl⟩;rw[← hxe] at hx0 hx1;obtain⟨who,n⟩:=x;have hno:bR ⟨who,n⟩=false→jW l=(⟨#[]⟩,1):=fun h=>G5 l k hlt (by rw[← hxe];exact h)
   have hx0:wr.cell? ⟨b,o+k * 2,none⟩=some (.int .i64 who):=hx0;have hx1:wr.cell? ⟨b,o+k * 2+1,none⟩=some (.int .i64 n):=hx1;have HXE:=k_ hxe;have HE:=k_ (HB.out.alloc HB.out.size (.cells #[.int .i64 who,.int .i64 n] 29));clear hxe hd
   by_cases c1:who<0
   ·have HN:=k_ (hno (by unfold bR;simp;omega));clear hno
    go_wp2_with fail
    go_ret2
    exact⟨by rw[HN.out];rfl,HE.out⟩
   by_cases c2:5<who
   ·have HN:=k_ (hno (by unfold bR;simp;omega));clear hno
    go_wp2_with fail
    go_ret2
    exact⟨by rw[HN.out];rfl,HE.out⟩
   by_cases c3:n<0
   ·have HN:=k_ (hno (by unfold bR;simp;omega));clear hno
    go_wp2_with fail
    go_ret2
    exact⟨by rw[HN.out];rfl,HE.out⟩
   by_cases c4:31<n
   ·have HN:=k_ (hno (by unfold bR;simp;omega));clear hno
    go_wp2_with fail
    go_ret2
    exact⟨by rw[HN.out];rfl,HE.out⟩
   have hyes:bR ⟨who,n⟩=true:=by unfold bR;simp;omega
   have HY:=k_ hyes;clear hno hyes;have HBI:=k_ (F7 who n c1 c2 c3 c4)
   go_wp2_with (at_builtin;refine bJ u8E rfl (.tmp 31) (.tmp 40) rfl w.heap.size (gK (l.take k)) [bits BinOp.or IntKind.u8 (who * 32) n] _ rfl ((HO.out.alloc _).alloc _) (wr.heap.size+1) 0 1 rfl (aA.new' _ _ _ (by simp))  ?c1 ?c2 ?_)
   case c1=>rw[jF];simp;omega
   case c2=>have:=HB.out.size;simp;omega
   intro v2 w2 hown2 hg2;have hB2:=k_ (below_grown (HE.out.alloc HE.out.size _) ((HO.out.alloc _).alloc _) hg2 (by have:=HB.out.size;simp;omega) (Nat.le_refl _));rw[HBI.out] at hown2;have HO2:=k_ hown2;clear hown2;clear hg2 hx0 hx1;go_wp2_with fail
   go_roundw
   case rel =>
    refine⟨k+1,by omega,by go_num,?_,hB2.out,?_⟩
    ·rw[aK l k hlt,uU,← HXE.out]
     exact HO2.out
    ·rw[aK l k hlt,List.all_append,HOK.out,← HXE.out]
     simp[HY.out]
   case measure=>simp[intOf];omega
  ·have hk':k=l.length:=by omega
   subst hk';rw[List.take_length] at hown hok;have HB:=k_ hB;clear hB;have HO:=k_ hown;clear hown;have HL:=k_ (jF l)
   by_cases h4:l.length≤4000
   ·have HR:=k_ (show jW l=(ah (gK l),0) from by unfold jW;rw[hok,if_pos rfl,if_pos h4])
    have HTX:=k_ (ni HO.out);obtain⟨g,cap,rfl,_⟩:=aP HO.out;rw[HL.out] at *;have hcv:=HTX.out;go_wp2_with fail
    go_ret2
    exact⟨by rw[HR.out];rfl,HB.out⟩
   ·have HR:=k_ (show jW l=(⟨#[]⟩,5) from by unfold jW;rw[hok,if_pos rfl,if_neg h4])
    obtain⟨g,cap,rfl,_⟩:=aP HO.out;rw[HL.out] at *;go_wp2_with fail
    go_ret2
    exact⟨by rw[HR.out];rfl,HB.out⟩
theorem Ig (l:List Ent) (h:l.all bR=true) (hl:l.length≤4000):jW l=(ah (gK l),0):=by
 unfold jW;rw[h,if_pos rfl,if_pos hl]
theorem Eh (l:List Ent) (h:l.all bR=false):jW l=(⟨#[]⟩,1):=by
 unfold jW;rw[h];rfl
theorem JB (a b:List Int):ah a ++ ah b=ah (a ++ b):=by
 apply ByteArray.ext
 unfold ah
 simp
theorem Ci (w:World) (x:Int):(convert 30 9 (.slice (some ⟨w.heap.size,0,none⟩) 1 1)).run Tryz.prog (w.alloc (.cells #[.int .u8 x] 5))=.ok (.string (ah [x])) (w.alloc (.cells #[.int .u8 x] 5)):=by
 refine ou (P:=Tryz.prog) _ _ _ 5 _ 1 [x] Tryz.underlying30 Tryz.underlying5 Tryz.underlying9 ?_;intro j v hv
 match j,hv with
 | 0,hv=>show World.cell? _ ⟨w.heap.size,0,none⟩=_;rw[aI];exact hv
def sQ (x:UInt8):Ent:=⟨((x.toNat:Nat):Int) / 32,((x.toNat:Nat):Int) % 32⟩
def eT (b:ByteArray):List Ent:=b.data.toList.map sQ
def jD (b:ByteArray):Bool:=b.data.toList.all (fun x=>decide ((sQ x).who≤5))
def bZ (b:ByteArray):List Ent × Int:=if jD b then (if b.size≤4000 then (eT b,0) else ([],5)) else ([],2)
theorem gM (b:ByteArray):(eT b).length=b.size:=by unfold eT;rw[List.length_map,Array.length_toList];rfl
theorem I9:∀ a:Fin 256,bits BinOp.and IntKind.u8 ((a.val:Nat):Int) 31=((a.val:Nat):Int) % 32:=by decide +kernel
theorem byte_at (b:ByteArray) (k:Nat) (h:k<b.size):∃ x:Int,(∃ u,b.data.toList[k]?=some u∧x=((u.toNat:Nat):Int))∧0≤x∧x≤255∧IntKind.i64.wrap (x / 32)=x / 32∧IntKind.i64.wrap (x % 32)=x % 32∧bits BinOp.and IntKind.u8 x 31=x % 32 ∧
  ∀ w,Sem.run Tryz.prog (Instr.index 9 (.string b) (.int .i64 k)) w=.ok (.int .u8 x) w:=by
 have hlt:b[k].toNat<256:=UInt8.toNat_lt _;refine⟨_,⟨b[k],?_,rfl⟩,by omega,by omega,by simp[IntKind.wrap,IntKind.signed,IntKind.bits];omega,by simp[IntKind.wrap,IntKind.signed,IntKind.bits];omega,I9 ⟨_,hlt⟩,fun w=>?_⟩
 ·rw[List.getElem?_eq_getElem (by simpa using h)];rfl
 ·rw[run_index_string w _ b .i64 k Tryz.underlying9,dif_pos ⟨by omega,by omega⟩]
  rfl
theorem qE (b:ByteArray) (w:World) (hl:b.size≤100000) :
  Calls Tryz.prog 9 #[.string b] w fun e w'=>∃ v,e=.returned (.tuple #[v,.int .i64 (bZ b).2])∧Own qp w' w.heap.size v (bZ b).1∧Below w.heap.size w w':=by
 go_enter Tryz.func9,Tryz.ntmps9
 go_wp2_with fail
 go_loopw [4,9] (fun v i wr=>∃ k:Nat,k≤b.size∧i=.int .i64 k∧Own qp wr w.heap.size v ((eT b).take k)∧Below w.heap.size w wr∧(b.data.toList.take k).all (fun x=>decide ((sQ x).who≤5))=true) (fun _ i _=>b.size - (intOf i).toNat)
 case atStart=>exact⟨0,Nat.zero_le _,rfl,Own.nil _ _ _,Below.refl _ _,rfl⟩
 case round =>
  obtain⟨k,hk,rfl,hown,hB,hok⟩:=hrel
  by_cases hlt:k<b.size
  ·have HB:=k_ hB;clear hB
   have HOK:=k_ hok;clear hok;have HO:=k_ hown;clear hown;obtain⟨x,hx,x0,x1,hw1,hw2,hb31,hix⟩:=byte_at b k hlt
   have HX:=k_ hx;clear hx
   go_upto_region 5 with fail
   refine wp_region_noPanic ?_;refine wp_region_held_drew (S:=fun w'=>Below wr.heap.size wr w') (by kernel_rfl) (Below.refl _ _).drew (fun _=>?_);have HR1:=k_ (Below.refl wr.heap.size wr).drew;have hs1:wr.drew.heap.size=wr.heap.size:=rfl;have HS1:=k_ hs1;clear hs1;have HO1:=k_ (HO.out.drew);have HB1:=k_ (HB.out.drew);generalize wr.drew=r1 at *;refine tk_ (i:=0) (v:=?_) rfl (by kernel_rfl) (fun _ _ _ h=>h) ?tq0 HR1.out ?_
   case tq0=>(intro wq hq;go_simp;first | done | with_reducible rfl)
   refine tk_ (i:=1) (v:=?_) rfl (by kernel_rfl) (fun _ _ _ h=>h) ?tq1 HR1.out ?_
   case tq1=>(intro wq hq;go_simp;first | done | with_reducible rfl)
   refine tk_ (i:=2) (v:=?_) rfl (by kernel_rfl) (fun _ _ _ h=>h) ?tq2 HR1.out ?_
   case tq2=>(intro wq hq;go_simp;first | done | with_reducible rfl)
   refine tk_ (i:=3) (v:=?_) rfl (by kernel_rfl) (fun _ _ _ h=>h) ?tq3 HR1.out ?_
   case tq3=>(intro wq hq;go_simp;first | done | with_reducible rfl)
   refine tk_ (i:=4) (v:=?_) rfl (by kernel_rfl) (fun _ _ _ h=>h) ?tq4 HR1.out ?_
   case tq4=>(intro wq hq;go_simp;first | done | with_reducible rfl)
   refine tk_ (i:=5) (v:=?_) rfl (by kernel_rfl) (fun _ _ _ h=>h) ?tq5 HR1.out ?_
   case tq5=>(intro wq hq;go_simp;first | done | with_reducible rfl)
   refine tk_ (i:=6) (v:=?_) rfl (by kernel_rfl) (fun _ _ _ h=>h) ?tq6 HR1.out ?_
   case tq6=>(intro wq hq;go_simp;first | done | with_reducible rfl)
   refine tk_ (i:=7) (v:=?_) rfl (by kernel_rfl) (fun _ _ _ h=>h) ?tq7 HR1.out ?_
   case tq7=>(intro wq hq;go_simp;first | done | with_reducible rfl)
   refine tk_ (i:=8) (v:=?_) rfl (by kernel_rfl) (fun _ _ _ h=>h) ?tq8 HR1.out ?_
   case tq8=>(intro wq hq;go_simp;first | done | with_reducible rfl)
   refine tk_ (i:=9) (v:=?_) rfl (by kernel_rfl) (fun _ _ _ h=>h) ?tq9 HR1.out ?_
   case tq9=>(intro wq hq;go_simp;first | done | with_reducible rfl)
   refine tk_ (i:=10) (v:=?_) rfl (by kernel_rfl) (fun _ _ _ h=>h) ?tq10 HR1.out ?_
   case tq10=>(intro wq hq;go_simp;first | done | with_reducible rfl)
   refine rd_ (i:=11) (by kernel_rfl) rfl fun K hK=>?_
   go_simp;obtain⟨r2,hr2⟩:∃ u,u=r1.alloc (.cells #[.int .i64 0,.int .i64 0] 29):=⟨_,rfl⟩;have hcl:=ai r1 (.cells #[.int .i64 0,.int .i64 0] 29);have hba:Below r1.heap.size r1 r2:=by rw[hr2];exact(Below.refl _ _).alloc (Nat.le_refl _) _
   rw[← hr2] at hcl ⊢;have HO2:=k_ (HO1.out.below hba);have HB2:=k_ (HB1.out.trans (hba.mono HB1.out.size));have HR2:=k_ (HR1.out.trans (hba.mono HR1.out.size));have hn:wr.heap.size≤r1.heap.size:=HR1.out.size;have hlt2:r1.heap.size<r2.heap.size:=by rw[hr2];simp
   obtain⟨z,hz⟩:∃ z,z=r1.heap.size:=⟨_,rfl⟩;rw[← hz] at hcl hn hlt2 ⊢;have hc0:r2.cell? ⟨z,0,none⟩=some (.int .i64 0):=by simp[World.cell?,hcl]
   have hc1:r2.cell? ⟨z,1,none⟩=some (.int .i64 0):=by simp[World.cell?,hcl]
   have hf0:r2.frozen? ⟨z,0,none⟩=false:=by simp[World.frozen?,hcl]
   have hf1:r2.frozen? ⟨z,1,none⟩=false:=by simp[World.frozen?,hcl]
   refine hK.out _ _ HR2.out (fun _=>?_);clear hK K hr2 hba HO1 HB1 HR1 HS1 hz;refine rd_ (i:=12) (by kernel_rfl) rfl fun K hK=>?_
   go_simp;have hb3:Below wr.heap.size wr ((r2.setCell ⟨z,0,none⟩ (.int .i64 (x / 32))).setCell ⟨z,1,none⟩ (.int .i64 (x % 32))):=(HR2.out.setCell hn _).setCell hn _;have d0:((r2.setCell ⟨z,0,none⟩ (.int .i64 (x / 32))).setCell ⟨z,1,none⟩ (.int .i64 (x % 32))).cell? ⟨z,0,none⟩=some (.int .i64 (x / 32)):=by
    rw[World.cell?_setCell_other (h:=by simp),World.cell?_setCell_same (h:=hc0)]
   have d1:((r2.setCell ⟨z,0,none⟩ (.int .i64 (x / 32))).setCell ⟨z,1,none⟩ (.int .i64 (x % 32))).cell? ⟨z,1,none⟩=some (.int .i64 (x % 32)):=by
    rw[World.cell?_setCell_same (h:=by rw[World.cell?_setCell_other (h:=by simp)];exact hc1)]
   refine hK.out _ _ hb3 (fun _=>?_);clear hK K;generalize ((r2.setCell ⟨z,0,none⟩ (.int .i64 (x / 32))).setCell ⟨z,1,none⟩ (.int .i64 (x % 32)))=r3 at *;clear hcl hc0 hc1 hf0 hf1 hlt2 HO2 HB2 HR2;have HO3:=k_ (HO.out.below hb3);have HB3:=k_ (HB.out.trans (hb3.mono HB.out.size));clear HO HB;refine wpAnyH_done (by kernel_rfl) ?_ _;refine NoPanic.normal ?_;clear hb3 hn hix hw1 hw2 hb31;obtain⟨u,hu,hxu⟩:=HX.out;have hxx:sQ u=⟨x / 32,x % 32⟩:=by unfold sQ;rw[← hxu]
   by_cases h5:5<x / 32
   ·have HN:=k_ (show bZ b=([],2) from by
     have:jD b=false:=by
      unfold jD;rw[List.all_eq_false];exact⟨u,List.mem_of_getElem? hu,by rw[hxx];simp;omega⟩
     unfold bZ;rw[this];rfl)
    clear hu hxu hxx;go_wp2_with fail
    go_ret2
    exact⟨_,by rw[HN.out];rfl,by rw[HN.out];exact Own.nil _ _ _,HB3.out⟩
   ·have HU:=k_ hu
    have HXX:=k_ hxx;clear hu hxu hxx
    go_wp2_with (at_builtin;refine bJ qp rfl (.tmp 26) (.tmp 28) rfl w.heap.size ((eT b).take k) [⟨x / 32,x % 32⟩] _ rfl (HO3.out.alloc _) r3.heap.size 0 1 rfl (aA.new _ _ _ _) ?c1 ?c2 ?_)
    case c1=>simp[gM];omega
    case c2=>have:=HB3.out.size;simp;omega
    intro v4 w4 hown4 hg4;have hB4:=k_ (below_grown (HB3.out.alloc HB3.out.size _) (HO3.out.alloc _) hg4 (by have:=HB3.out.size;simp;omega) (Nat.le_refl _));have HO4:=k_ hown4;clear hown4;clear hg4;go_wp2_with fail
    go_roundw
    case rel =>
     refine⟨k+1,by omega,by go_num,?_,hB4.out,?_⟩
     ·rw[List.take_add_one,show (eT b)[k]?=some ⟨x / 32,x % 32⟩ from by unfold eT;rw[List.getElem?_map,HU.out,← HXX.out];rfl]
      exact HO4.out
     ·rw[List.take_add_one,HU.out,List.all_append,HOK.out]
      simp[HXX.out];omega
    case measure=>simp[intOf];omega
  ·have hk':k=b.size:=by omega
   subst hk';rw[List.take_of_length_le (Nat.le_of_eq (gM b))] at hown;rw[List.take_of_length_le (Nat.le_of_eq (by rw[Array.length_toList];rfl))] at hok;have HB:=k_ hB;clear hB;have HO:=k_ hown;clear hown;obtain⟨g,cap,rfl,_⟩:=aP HO.out;have HL:=k_ (gM b);rw[HL.out] at *
   by_cases h4:b.size≤4000
   ·have HR:=k_ (show bZ b=(eT b,0) from by unfold bZ;rw[show jD b=true from hok,if_pos rfl,if_pos h4])
    go_wp2_with fail
    go_ret2
    exact⟨_,by rw[HR.out];rfl,by rw[HR.out];have h:=HO.out;rw[gM] at h;exact h,HB.out⟩
   ·have HR:=k_ (show bZ b=([],5) from by unfold bZ;rw[show jD b=true from hok,if_pos rfl,if_neg h4])
    go_wp2_with fail
    go_ret2
    exact⟨_,by rw[HR.out];rfl,by rw[HR.out];exact Own.nil _ _ _,HB.out⟩
theorem vR (b:ByteArray) (w:World) (hl:b.size≤100000) :
  Calls Tryz.prog 10 #[.string b] w fun e w'=>∃ v,e=.returned (.tuple #[v,.int .i64 (bZ b).2])∧Own qp w' w.heap.size v (bZ b).1∧Below w.heap.size w w':=by
 go_enter Tryz.func10,Tryz.ntmps10
 go_wp2_with fail
 go_loopw [4,5] (fun v i wr=>∃ k:Nat,k≤b.size∧i=.int .i64 k∧Own qp wr w.heap.size v ((eT b).take k)∧Below w.heap.size w wr∧(b.data.toList.take k).all (fun x=>decide ((sQ x).who≤5))=true) (fun _ i _=>b.size - (intOf i).toNat)
 case atStart=>exact⟨0,Nat.zero_le _,rfl,Own.nil _ _ _,Below.refl _ _,rfl⟩
 case round =>
  obtain⟨k,hk,rfl,hown,hB,hok⟩:=hrel
  by_cases hlt:k<b.size
  ·have HB:=k_ hB;clear hB
   have HOK:=k_ hok;clear hok;have HO:=k_ hown;clear hown;obtain⟨x,hx,x0,x1,hw1,hw2,hb31,hix⟩:=byte_at b k hlt
   obtain⟨u,hu,hxu⟩:=hx;have hxx:sQ u=⟨x / 32,x % 32⟩:=by unfold sQ;rw[← hxu]
   clear hb31
   by_cases h5:5<x / 32
   ·have HN:=k_ (show bZ b=([],2) from by
     have:jD b=false:=by
      unfold jD;rw[List.all_eq_false];exact⟨u,List.mem_of_getElem? hu,by rw[hxx];simp;omega⟩
     unfold bZ;rw[this];rfl)
    clear hu hxu hxx;go_wp2_with fail
    go_ret2
    exact⟨_,by rw[HN.out];rfl,by rw[HN.out];exact Own.nil _ _ _,HB.out⟩
   ·have HU:=k_ hu
    have HXX:=k_ hxx;clear hu hxu hxx;have HQ1:=k_ (show IntKind.i64.wrap (IntKind.u8.wrap (x.tdiv 32))=x / 32 from by rw[Int.tdiv_eq_ediv_of_nonneg x0];simp[IntKind.wrap,IntKind.signed,IntKind.bits];omega);have HQ2:=k_ (show IntKind.i64.wrap (x.tmod 32)=x % 32 from by rw[Int.tmod_eq_emod_of_nonneg x0];exact hw2)
    go_upto_region 7 with fail
    refine wp_region_noPanic ?_;refine wp_region_held_drew (S:=fun w'=>Below w.heap.size w w') (by kernel_rfl) HB.out.drew (fun _=>?_);have HO1:=k_ (HO.out.drew);have HB1:=k_ (HB.out.drew);generalize wr.drew=r1 at *;refine tk_ (i:=0) (v:=?_) rfl (by kernel_rfl) (fun _ _ _ h=>h) ?tq0 HB1.out ?_
    case tq0=>(intro wq hq;go_simp;first | done | with_reducible rfl)
    refine tk_ (i:=1) (v:=?_) rfl (by kernel_rfl) (fun _ _ _ h=>h) ?tq1 HB1.out ?_
    case tq1=>(intro wq hq;go_simp;first | done | with_reducible rfl)
    refine tk_ (i:=2) (v:=?_) rfl (by kernel_rfl) (fun _ _ _ h=>h) ?tq2 HB1.out ?_
    case tq2=>(intro wq hq;go_simp;first | done | with_reducible rfl)
    refine tk_ (i:=3) (v:=?_) rfl (by kernel_rfl) (fun _ _ _ h=>h) ?tq3 HB1.out ?_
    case tq3=>(intro wq hq;go_simp;first | done | with_reducible rfl)
    refine tk_ (i:=4) (v:=?_) rfl (by kernel_rfl) (fun _ _ _ h=>h) ?tq4 HB1.out ?_
    case tq4=>(intro wq hq;go_simp;first | done | with_reducible rfl)
    refine tk_ (i:=5) (v:=?_) rfl (by kernel_rfl) (fun _ _ _ h=>h) ?tq5 HB1.out ?_
    case tq5=>(intro wq hq;go_simp;first | done | with_reducible rfl)
    refine tk_ (i:=6) (v:=?_) rfl (by kernel_rfl) (fun _ _ _ h=>h) ?tq6 HB1.out ?_
    case tq6=>(intro wq hq;go_simp;first | done | with_reducible rfl)
    refine tk_ (i:=7) (v:=?_) rfl (by kernel_rfl) (fun _ _ _ h=>h) ?tq7 HB1.out ?_
    case tq7=>(intro wq hq;go_simp;first | done | with_reducible rfl)
    refine tk_ (i:=8) (v:=?_) rfl (by kernel_rfl) (fun _ _ _ h=>h) ?tq8 HB1.out ?_
    case tq8=>(intro wq hq;go_simp;first | done | with_reducible rfl)
    refine tk_ (i:=9) (v:=?_) rfl (by kernel_rfl) (fun _ _ _ h=>h) ?tq9 HB1.out ?_
    case tq9=>(intro wq hq;go_simp;first | done | with_reducible rfl)
    refine tk_ (i:=10) (v:=?_) rfl (by kernel_rfl) (fun _ _ _ h=>h) ?tq10 HB1.out ?_
    case tq10=>(intro wq hq;go_simp;first | done | with_reducible rfl)
    refine tk_ (i:=11) (v:=?_) rfl (by kernel_rfl) (fun _ _ _ h=>h) ?tq11 HB1.out ?_
    case tq11=>(intro wq hq;go_simp;first | done | with_reducible rfl)
    refine rd_ (i:=12) (by kernel_rfl) rfl fun K hK=>?_
    go_simp;rw[HQ1.out,HQ2.out];obtain⟨r2,hr2⟩:∃ u,u=r1.alloc (.cells #[.int .i64 (x / 32),.int .i64 (x % 32)] 29):=⟨_,rfl⟩;have hcl:aA r2 r1.heap.size 0 ([(⟨x / 32,x % 32⟩:Ent)].flatMap qp.enc):=by rw[hr2];exact aA.new _ _ _ _
    have hba:Below r1.heap.size r1 r2:=by rw[hr2];exact(Below.refl _ _).alloc (Nat.le_refl _) _
    rw[← hr2];have HO2:=k_ (HO1.out.below hba);have HB2:=k_ (HB1.out.trans (hba.mono HB1.out.size));obtain⟨z,hz⟩:∃ z,z=r1.heap.size:=⟨_,rfl⟩;rw[← hz] at hcl ⊢;have HCL:=k_ hcl;refine hK.out _ _ HB2.out (fun _=>?_);clear hK K hr2 hba HO1 HB1 hz hcl;refine rd_ (i:=13) (by kernel_rfl) rfl fun K hK=>?_
    have hsz:=HB2.out.size;refine aS qp rfl (.tmp 17) (.tmp 29) rfl w.heap.size ((eT b).take k) [⟨x / 32,x % 32⟩] _ rfl HO2.out z 0 1 rfl HCL.out (by simp[gM];omega) hsz ?_;intro v4 w4 hown4 hg4 hf4;have hB4:=k_ (below_grown HB2.out HO2.out hg4 hsz (Nat.le_refl _));have HO4:=k_ hown4;clear hown4;refine hK.out _ _ hB4.out (fun _=>?_);clear hK K hg4 hf4;refine rd_ (i:=14) (by kernel_rfl) rfl fun K hK=>?_
    go_simp;refine hK.out _ _ hB4.out (fun _=>?_);clear hK K;refine wpAnyH_done (by kernel_rfl) ?_ _;refine NoPanic.normal ?_;go_wp2_with fail
    go_roundw
    case rel =>
     refine⟨k+1,by omega,by go_num,?_,hB4.out,?_⟩
     ·rw[List.take_add_one,show (eT b)[k]?=some ⟨x / 32,x % 32⟩ from by unfold eT;rw[List.getElem?_map,HU.out,← HXX.out];rfl]
      exact HO4.out
     ·rw[List.take_add_one,HU.out,List.all_append,HOK.out]
      simp[HXX.out];omega
    case measure=>simp[intOf];omega
  ·have hk':k=b.size:=by omega
   subst hk';rw[List.take_of_length_le (Nat.le_of_eq (gM b))] at hown;rw[List.take_of_length_le (Nat.le_of_eq (by rw[Array.length_toList];rfl))] at hok;have HB:=k_ hB;clear hB;have HO:=k_ hown;clear hown;obtain⟨g,cap,rfl,_⟩:=aP HO.out;have HL:=k_ (gM b);rw[HL.out] at *
   by_cases h4:b.size≤4000
   ·have HR:=k_ (show bZ b=(eT b,0) from by unfold bZ;rw[show jD b=true from hok,if_pos rfl,if_pos h4])
    go_wp2_with fail
    go_ret2
    exact⟨_,by rw[HR.out];rfl,by rw[HR.out];have h:=HO.out;rw[gM] at h;exact h,HB.out⟩
   ·have HR:=k_ (show bZ b=([],5) from by unfold bZ;rw[show jD b=true from hok,if_pos rfl,if_neg h4])
    go_wp2_with fail
    go_ret2
    exact⟨_,by rw[HR.out];rfl,by rw[HR.out];exact Own.nil _ _ _,HB.out⟩
end Go.Proofs.YtlofbhoicbemnaaGreatDoor
