/- Walk: instr.Read and the reference's ReadCode: the instructions of bytes. Walk: the first call of chapter 9's statements; and what is .. -/
import Derived.Test.YtlofbhoicbemnaaGreatDoorDAa
import Derived.RegionTactic
import Derived.ChangeAlike
set_option linter.unusedVariables false
set_option linter.unusedSimpArgs false
set_option maxRecDepth 100000
set_option maxHeartbeats 1600000
namespace Go.Proofs.YtlofbhoicbemnaaGreatDoor
open Go.ChangeShapes Go.WideShapes Go.ChangeAt Go.RowKit
def gb (b:ByteArray) (i:Nat):Int:=(b.data.getD i 0).toNat
theorem gb_get (b:ByteArray) (i:Nat) (h:i<b.size):((b[i]).toNat:Int)=gb b i:=by
 unfold gb;rw[Array.getD_eq_getD_getElem?,Array.getElem?_eq_getElem h]
 rfl
theorem gb_bd (b:ByteArray) (i:Nat):0≤gb b i∧gb b i<256:=by
 unfold gb;have:=(b.data.getD i 0).toNat_lt
 omega
def rdAt (b:ByteArray) (i:Nat):Ins:=⟨gb b i,gb b (i+1),readV (gb b (i+3)) (gb b (i+4)) (gb b (i+5)) (gb b (i+6)),gb b (i+2)⟩
def rdAll (b:ByteArray) (n:Nat):List Ins:=(List.range n).map fun k=>rdAt b (7 * k)
theorem rdAll_snoc (b:ByteArray) (n:Nat):rdAll b (n+1)=rdAll b n ++ [rdAt b (7 * n)]:=by
 simp[rdAll,List.range_succ]
theorem rdAll_len (b:ByteArray) (n:Nat):(rdAll b n).length=n:=by simp[rdAll]
def readOk (b:ByteArray):Bool:=b.size % 7 == 0 && (rdAll b (b.size / 7)).all rightB
def readL (b:ByteArray):List Ins:=if readOk b then rdAll b (b.size / 7) else []
theorem readOk_no (b:ByteArray) (k:Nat) (hk:7 * k<b.size) (h7:b.size % 7=0) (h:rightB (rdAt b (7 * k))=false):readOk b=false:=by
 unfold readOk;have:(rdAll b (b.size / 7)).all rightB=false:=by
  rw[List.all_eq_false];exact⟨rdAt b (7 * k),List.mem_map.2 ⟨k,List.mem_range.2 (by omega),rfl⟩,by simp[h]⟩
 rw[this,Bool.and_false]
def ReadPost (b:ByteArray) (w:World) (e:Ending) (w':World):Prop :=
 ∃ v,e=.returned (.tuple #[v,.int .i64 (if readOk b then 0 else 2)])∧Own insE w' w.heap.size v (readL b)∧Below w.heap.size w w'
theorem ext4 (b:ByteArray) (i:Nat) (h:i+7≤b.size):(b.extract (i+3) (i+7)).size=4∧∀ j (hj:j<(b.extract (i+3) (i+7)).size),(((b.extract (i+3) (i+7))[j]).toNat:Int)=gb b (i+3+j):=by
 have hs:(b.extract (i+3) (i+7)).size=4:=by simp;omega
 refine⟨hs,fun j hj=>?_⟩;rw[ByteArray.getElem_extract,← gb_get b _ (by omega)]
theorem read_code (b:ByteArray) (w:World) (hb:b.size≤1000000) :
  Calls Tryz.prog 94 #[.string b] w (ReadPost b w):=by
 by_cases h7:b.size % 7=0
 case neg =>
  have h7':((b.size:Int) % 7 != 0)=true:=by rw[bne_iff_ne];omega
  have hok:readOk b=false:=by
   unfold readOk;rw[show (b.size % 7 == 0)=false from by simpa using h7,Bool.false_and]
  have hP:ReadPost b w (.returned (.tuple #[.slice none 0 0,.int .i64 2])) w:=⟨_,by rw[hok];rfl,by unfold readL;rw[hok];exact Own.nil _ _ _,Below.refl _ _⟩;clear hok h7;have HP:=k_ hP;clear hP
  go_enter Tryz.func94,Tryz.ntmps94
  go_wp2_with fail
  go_ret2
  exact HP.out
 have h7':((b.size:Int) % 7 != 0)=false:=by rw[bne_eq_false_iff_eq];omega
 go_enter Tryz.func94,Tryz.ntmps94
 go_wp2_with fail;clear h7'
 go_loopw [4,5] (fun v i wr=>∃ at_ k:Nat,at_=7 * k∧at_≤b.size∧i=.int .i64 at_∧Own insE wr w.heap.size v (rdAll b k)∧Below w.heap.size w wr∧(rdAll b k).all rightB=true) (fun _ i _=>b.size - (intOf i).toNat)
 case atStart=>exact⟨0,0,rfl,Nat.zero_le _,rfl,Own.nil _ _ _,Below.refl _ _,rfl⟩
 case round =>
  obtain⟨at_,k,hak,hle,rfl,hown,hB,hall⟩:=hrel
  by_cases hlt:at_<b.size
  ·have h7le:at_+7≤b.size:=by omega
   obtain⟨c,W1,hcv,hB1,hcells⟩:=conv_bytes wr (b.extract (at_+3) (at_+7));obtain⟨hs4,hg4⟩:=ext4 b at_ h7le;rw[hs4] at hcv;have hrd:=read_any wr.heap.size 0 4 c W1 (gb b (at_+3)) (gb b (at_+4)) (gb b (at_+5)) (gb b (at_+6)) (by omega) (by omega)
    (by have:=gb_bd b (at_+3);have:=gb_bd b (at_+4);have:=gb_bd b (at_+5);have:=gb_bd b (at_+6);omega)
    (by rw[hcells 0 (by omega),hg4 0 (by omega)]) (by rw[hcells 1 (by omega),hg4 1 (by omega)]) (by rw[hcells 2 (by omega),hg4 2 (by omega)]) (by rw[hcells 3 (by omega),hg4 3 (by omega)])
   have l1:at_+1<b.size:=by omega
   have l2:at_+2<b.size:=by omega
   have g0:=gb_get b at_ hlt;have g1:=gb_get b (at_+1) l1;have g2:=gb_get b (at_+2) l2;have hx:rdAt b at_=⟨gb b at_,gb b (at_+1),readV (gb b (at_+3)) (gb b (at_+4)) (gb b (at_+5)) (gb b (at_+6)),gb b (at_+2)⟩:=rfl;generalize gb b (at_+3)=y3 at *;generalize gb b (at_+4)=y4 at *;generalize gb b (at_+5)=y5 at *;generalize gb b (at_+6)=y6 at *;generalize readV y3 y4 y5 y6=xb at *;have hbd0:=gb_bd b at_;have hbd1:=gb_bd b (at_+1);have hbd2:=gb_bd b (at_+2);clear hcells hg4 hs4;have hr:=right_any (rdAt b at_);rw[hx] at hr;have hr:∀ w,Calls Tryz.prog 111 #[.agg #[.int .i64 (gb b at_),.int .i64 (gb b (at_+1)),.int .i64 xb,.int .i64 (gb b (at_+2))]] w fun e w'=>e=.returned (.bool (rightB ⟨gb b at_,gb b (at_+1),xb,gb b (at_+2)⟩))∧Below w.heap.size w w':=hr
   generalize gb b at_=xop at *;generalize gb b (at_+1)=xa at *;generalize gb b (at_+2)=xc at *;obtain⟨rb,hrb⟩:∃ rb,rb=rightB ⟨xop,xa,xb,xc⟩:=⟨_,rfl⟩;rw[← hrb] at hr;rw[← hx] at hrb;have hB2:=hB.trans (hB1.mono hB.size);have hown1:=hown.below hB1;have HRD:=k_ hrd;clear hrd;have HRB:=k_ hrb;clear hrb;have HR:=k_ hr;clear hr;have HB1:=k_ hB1;clear hB1;have HB2:=k_ hB2;clear hB2;have HOWN1:=k_ hown1;clear hown1;have HX:=k_ hx;clear hx;clear hown hB;have HAK:=k_ hak;clear hak;have HALL:=k_ hall;clear hall;go_wp2_with fail;refine HRD.out.mono ?_;rintro e w1 ⟨rfl,rfl⟩;go_wp2_with fail;have n1:(0:Int)≤(at_:Int)+1:=by omega
   have n2:(0:Int)≤(at_:Int)+2:=by omega
   have m0:(at_:Int)<b.size:=by omega
   have m1:(at_:Int)+1<b.size:=by omega
   have m2:(at_:Int)+2<b.size:=by omega
   have t1:((at_:Int)+1).toNat=at_+1:=by omega
   have t2:((at_:Int)+2).toNat=at_+2:=by omega
   have i1:IntKind.i64.wrap ((at_:Int)+1)=(at_:Int)+1:=IntWalk.i64_in _ (by omega);have i2:IntKind.i64.wrap ((at_:Int)+2)=(at_:Int)+2:=IntWalk.i64_in _ (by omega)
   go_region
   clear n1 n2 m0 m1 m2 t1 t2 i1 i2 g0 g1 g2 hcv;go_wp2_with fail;refine(HR.out _).mono ?_;rintro e w2 ⟨rfl,hb2⟩;have hW1:W1.heap.size≤w2.heap.size:=by have:=hb2.size;simp at this;omega
   have hB3:Below w.heap.size w w2:=by
    refine((HB2.out.alloc HB2.out.size (.cells #[.int .i64 xop,.int .i64 xa,.int .i64 xb,.int .i64 xc] 63)).drew).trans (hb2.mono ?_);have:=HB2.out.size;simp;omega
   cases rb
   ·have hno:readOk b=false:=readOk_no b k (by rw[← HAK.out];exact hlt) h7 (by rw[← HAK.out];exact HRB.out.symm)
    have hP:ReadPost b w (.returned (.tuple #[.slice none 0 0,.int .i64 2])) w2:=⟨_,by rw[hno];rfl,by unfold readL;rw[hno];exact Own.nil _ _ _,hB3⟩;clear hno hB3 hW1 hb2;have HP:=k_ hP;clear hP;go_wp2_with fail
    go_ret2
    exact HP.out
   ·have q0:w2.cell? ⟨W1.heap.size,0,none⟩=some (.int .i64 xop):=below_cell hb2 (cell_new W1 #[.int .i64 xop,.int .i64 xa,.int .i64 xb,.int .i64 xc] 63 (0,0) 0)
    have q1:w2.cell? ⟨W1.heap.size,1,none⟩=some (.int .i64 xa):=below_cell hb2 (cell_new W1 #[.int .i64 xop,.int .i64 xa,.int .i64 xb,.int .i64 xc] 63 (0,0) 1);have q2:w2.cell? ⟨W1.heap.size,2,none⟩=some (.int .i64 xb):=below_cell hb2 (cell_new W1 #[.int .i64 xop,.int .i64 xa,.int .i64 xb,.int .i64 xc] 63 (0,0) 2);have q3:w2.cell? ⟨W1.heap.size,3,none⟩=some (.int .i64 xc):=below_cell hb2 (cell_new W1 #[.int .i64 xop,.int .i64 xa,.int .i64 xb,.int .i64 xc] 63 (0,0) 3);have hown2:Own insE w2 w.heap.size _ (rdAll b k):=Own.below ((HOWN1.out.alloc (.cells #[.int .i64 xop,.int .i64 xa,.int .i64 xb,.int .i64 xc] 63)).drew) hb2;have HB3:=k_ hB3;have HO2:=k_ hown2;clear hown2 hB3 hW1 hb2
    go_wp2_with (at_builtin;refine append_own insE rfl (.tmp 49) (.tmp 51) rfl w.heap.size (rdAll b k) [⟨xop,xa,xb,xc⟩] _ rfl (HO2.out.alloc _) w2.heap.size 0 1 rfl (CellsAt.new _ _ _ _) ?c1 ?c2 ?_)
    case c1=>rw[rdAll_len];have:=HAK.out;simp;omega
    case c2=>have:=HB3.out.size;simp;omega
    intro v3 w3 hown3 hg3;have hB4:=k_ (below_grown (HB3.out.alloc HB3.out.size _) (HO2.out.alloc _) hg3 (by have:=HB3.out.size;simp;omega) (Nat.le_refl _));have HO3:=k_ hown3;clear hown3;clear hg3 q0 q1 q2 q3;go_wp2_with fail
    go_roundw
    case rel =>
     refine⟨at_+7,k+1,by have:=HAK.out;omega,h7le,by go_num,?_,hB4.out,?_⟩
     ·have hsn:rdAll b (k+1)=rdAll b k ++ [⟨xop,xa,xb,xc⟩]:=by rw[rdAll_snoc,← HAK.out,HX.out]
      rw[hsn];exact HO3.out
     ·rw[rdAll_snoc,List.all_append,HALL.out,← HAK.out];simp[← HRB.out]
    case measure=>simp[intOf];omega
  ·have hk':at_=b.size:=by omega
   have hkk:b.size / 7=k:=by omega
   have hok:readOk b=true:=by
    unfold readOk;rw[hkk,hall,h7];rfl
   have hP:∀ v,Own insE wr w.heap.size v (rdAll b k)→ReadPost b w (.returned (.tuple #[v,.int .i64 0])) wr:=fun v hv=>⟨v,by rw[hok];rfl,by unfold readL;rw[hok,if_pos rfl,hkk];exact hv,hB⟩
   have HP:=k_ (hP _ hown);clear hok hkk hall hown hB hak hP;go_wp2_with fail
   go_ret2
   exact HP.out
theorem bytesS_size (l:List Int):(bytesS l).size=l.length:=by
 show (List.map _ l).toArray.size=_
 simp
theorem gb_extract (b:ByteArray) (k i:Nat) (h:i<k) (hk:k≤b.size):gb (b.extract 0 k) i=gb b i:=by
 have hs:i<(b.extract 0 k).size:=by simp;omega
 rw[← gb_get _ i hs,← gb_get b i (by omega),ByteArray.getElem_extract]
 simp
theorem layI_bd (x:Ins) (hx:rightB x=true):∀ y ∈ layI x,0≤y∧y<256:=by
 intro y hy;simp only[layI,List.mem_cons,List.not_mem_nil,or_false] at hy
 rcases hy with rfl | rfl | rfl | rfl | rfl | rfl | rfl <;> (try unfold byteOf) <;> omega
end Go.Proofs.YtlofbhoicbemnaaGreatDoor
