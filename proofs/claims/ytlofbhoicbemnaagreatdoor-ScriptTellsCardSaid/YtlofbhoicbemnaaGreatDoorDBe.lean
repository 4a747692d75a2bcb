/- Walks: what two lists have in common, the program's and the reference's. -/
import Derived.Test.YtlofbhoicbemnaaGreatDoorDBc
import Derived.Test.YtlofbhoicbemnaaGreatDoorDAn
set_option linter.unusedVariables false
set_option linter.unusedSimpArgs false
set_option maxRecDepth 100000
set_option maxHeartbeats 3200000
namespace Go.Proofs.YtlofbhoicbemnaaGreatDoor
open Go.ChangeShapes Go.WideShapes Go.ChangeAt Go.RowKit
theorem joinL_take (l m:List Int) (k:Nat) (h:k<l.length) (h2:k<m.length):(joinL l m).take (k+1)=(joinL l m).take k ++ [if l[k]=m[k] then l[k] else 0]:=by
 have hk:k<(joinL l m).length:=by rw[joinL_len];omega
 rw[take_snoc _ k hk]
 simp[joinL]
theorem joinL_all (l m:List Int) (k:Nat) (h:¬ (k<l.length∧k<m.length)) (hk:k≤l.length∧k≤m.length):(joinL l m).take k=joinL l m:=by
 rw[List.take_of_length_le (by rw[joinL_len];omega)]
theorem join_any (w:World) (D D':Nat→Prop) (a a':Option Addr) (l m:List Int) (c c':Nat) (hl:IntSl w D a l) (hm:IntSl w D' a' m) (hn:l.length≤100000) (hn2:m.length≤100000) :
  Calls Tryz.prog 225 #[.slice a l.length c,.slice a' m.length c'] w fun e w'=>∃ v,e=.returned v∧Own intE w' w.heap.size v (joinL l m)∧Below w.heap.size w w':=by
 by_cases hmin:(l.length:Int)≤(m.length:Int)
 ·go_enter Tryz.func225,Tryz.ntmps225
  go_upto_region 3 with fail
  go_loopw [5,12] (fun v i wr=>∃ k:Nat,k≤l.length∧k≤m.length∧i=.int .i64 k∧Own intE wr w.heap.size v ((joinL l m).take k)∧Below w.heap.size w wr) (fun _ i _=>l.length - (intOf i).toNat)
  case atStart=>exact⟨0,Nat.zero_le _,Nat.zero_le _,rfl,Own.nil _ _ _,Below.refl _ _⟩
  case round =>
   obtain⟨k,hk1,hk2,rfl,hown,hB⟩:=hrel
   by_cases hlt:k<l.length∧k<m.length
   ·obtain⟨h1,h2⟩:=hlt
    obtain⟨b1,o1,rfl,_,q1⟩:=hl k h1;obtain⟨b2,o2,rfl,_,q2⟩:=hm k h2;have q1:=below_cell hB q1;have q2:=below_cell hB q2;have hjs:=joinL_take l m k h1 h2;have hjl:((joinL l m).take k).length=k:=by rw[List.length_take,joinL_len];omega
    have n1:(k:Int)<(l.length:Int):=by omega
    have n2:(k:Int)<(m.length:Int):=by omega
    generalize (joinL l m).take k=J at *;generalize l[k]=x at *;generalize m[k]=y at *;have HJL:=k_ hjl;clear hjl hl hm;have HOWN:=k_ hown;have HB:=k_ hB;clear hown hB;have i1:IntKind.i64.wrap ((k:Int)+1)=(k:Int)+1:=IntWalk.i64_in _ (by omega)
    by_cases hxy:x=y
    ·subst hxy
     rw[if_pos rfl] at hjs;have HJS:=k_ hjs;clear hjs
     go_upto_region 5 with fail
     go_quiet (fail)
     have HOQ:=k_ (HOWN.out.below (below_drewN (Below.refl wr.heap.size wr) nq));have HBQ:=k_ (below_drewN HB.out nq);have q1:=below_cell (below_drewN (Below.refl wr.heap.size wr) nq) q1;clear HOWN HB q2
     go_wp2_with (at_builtin;refine append_own intE rfl (.tmp 24) (.tmp 29) rfl w.heap.size J [x] _ rfl (HOQ.out.alloc _) wr.heap.size 0 1 rfl (CellsAt.new _ _ _ _) ?c1 ?c2 ?_)
     case c1=>rw[HJL.out];simp;omega
     case c2=>have hz:(wr.drewN nq).heap.size=wr.heap.size:=rfl;have:=HBQ.out.size;simp;omega
     intro v2 w2 hown2 hg2;have hB2:=k_ (below_grown (HBQ.out.alloc HBQ.out.size _) (HOQ.out.alloc _) hg2 (by have hz:(wr.drewN nq).heap.size=wr.heap.size:=rfl;have:=HBQ.out.size;simp;omega) (Nat.le_refl _));have HO2:=k_ hown2;clear hown2 hg2;go_wp2_with fail
     go_roundw
     case rel=>exact⟨k+1,by omega,by omega,by go_num,by rw[HJS.out];exact HO2.out,hB2.out⟩
     case measure=>simp[intOf];omega
    ·have hne:(x == y)=false:=by simpa using hxy
     rw[if_neg hxy] at hjs;have HJS:=k_ hjs;clear hjs hxy
     go_upto_region 5 with fail
     go_quiet (fail)
     have HOQ:=k_ (HOWN.out.below (below_drewN (Below.refl wr.heap.size wr) nq));have HBQ:=k_ (below_drewN HB.out nq);clear HOWN HB q1 q2
     go_wp2_with (at_builtin;refine append_own intE rfl (.tmp 31) (.tmp 32) rfl w.heap.size J [0] _ rfl (HOQ.out.alloc _) wr.heap.size 0 1 rfl (CellsAt.new _ _ _ _) ?c1 ?c2 ?_)
     case c1=>rw[HJL.out];simp;omega
     case c2=>have hz:(wr.drewN nq).heap.size=wr.heap.size:=rfl;have:=HBQ.out.size;simp;omega
     intro v2 w2 hown2 hg2;have hB2:=k_ (below_grown (HBQ.out.alloc HBQ.out.size _) (HOQ.out.alloc _) hg2 (by have hz:(wr.drewN nq).heap.size=wr.heap.size:=rfl;have:=HBQ.out.size;simp;omega) (Nat.le_refl _));have HO2:=k_ hown2;clear hown2 hg2;go_wp2_with fail
     go_roundw
     case rel=>exact⟨k+1,by omega,by omega,by go_num,by rw[HJS.out];exact HO2.out,hB2.out⟩
     case measure=>simp[intOf];omega
   ·have hall:=joinL_all l m k hlt ⟨hk1,hk2⟩
    rw[hall] at hown;have HOWN:=k_ hown;clear hown;have HB:=k_ hB;clear hB;have HALL:=k_ hall;clear hall;have n3:¬ ((k:Int)<(l.length:Int)∧(k:Int)<(m.length:Int)):=by omega
    clear hl hm
    by_cases n4:(k:Int)<(l.length:Int)
    ·have n5:¬ (k:Int)<(m.length:Int):=fun h=>n3 ⟨n4,h⟩
     clear n3 hlt
     (exfalso;omega)
    ·skip
     clear n3 hlt
     (go_wp2_with fail;go_ret;exact⟨_,rfl,HOWN.out,HB.out⟩)
 ·have hmin:(m.length:Int)<(l.length:Int):=by omega
  go_enter Tryz.func225,Tryz.ntmps225
  go_upto_region 3 with fail
  go_loopw [5,12] (fun v i wr=>∃ k:Nat,k≤l.length∧k≤m.length∧i=.int .i64 k∧Own intE wr w.heap.size v ((joinL l m).take k)∧Below w.heap.size w wr) (fun _ i _=>l.length - (intOf i).toNat)
  case atStart=>exact⟨0,Nat.zero_le _,Nat.zero_le _,rfl,Own.nil _ _ _,Below.refl _ _⟩
  case round =>
   obtain⟨k,hk1,hk2,rfl,hown,hB⟩:=hrel
   by_cases hlt:k<l.length∧k<m.length
   ·obtain⟨h1,h2⟩:=hlt
    obtain⟨b1,o1,rfl,_,q1⟩:=hl k h1;obtain⟨b2,o2,rfl,_,q2⟩:=hm k h2;have q1:=below_cell hB q1;have q2:=below_cell hB q2;have hjs:=joinL_take l m k h1 h2;have hjl:((joinL l m).take k).length=k:=by rw[List.length_take,joinL_len];omega
    have n1:(k:Int)<(l.length:Int):=by omega
    have n2:(k:Int)<(m.length:Int):=by omega
    generalize (joinL l m).take k=J at *;generalize l[k]=x at *;generalize m[k]=y at *;have HJL:=k_ hjl;clear hjl hl hm;have HOWN:=k_ hown;have HB:=k_ hB;clear hown hB;have i1:IntKind.i64.wrap ((k:Int)+1)=(k:Int)+1:=IntWalk.i64_in _ (by omega)
    by_cases hxy:x=y
    ·subst hxy
     rw[if_pos rfl] at hjs;have HJS:=k_ hjs;clear hjs
     go_upto_region 5 with fail
     go_quiet (fail)
     have HOQ:=k_ (HOWN.out.below (below_drewN (Below.refl wr.heap.size wr) nq));have HBQ:=k_ (below_drewN HB.out nq);have q1:=below_cell (below_drewN (Below.refl wr.heap.size wr) nq) q1;clear HOWN HB q2
     go_wp2_with (at_builtin;refine append_own intE rfl (.tmp 24) (.tmp 29) rfl w.heap.size J [x] _ rfl (HOQ.out.alloc _) wr.heap.size 0 1 rfl (CellsAt.new _ _ _ _) ?c1 ?c2 ?_)
     case c1=>rw[HJL.out];simp;omega
     case c2=>have hz:(wr.drewN nq).heap.size=wr.heap.size:=rfl;have:=HBQ.out.size;simp;omega
     intro v2 w2 hown2 hg2;have hB2:=k_ (below_grown (HBQ.out.alloc HBQ.out.size _) (HOQ.out.alloc _) hg2 (by have hz:(wr.drewN nq).heap.size=wr.heap.size:=rfl;have:=HBQ.out.size;simp;omega) (Nat.le_refl _));have HO2:=k_ hown2;clear hown2 hg2;go_wp2_with fail
     go_roundw
     case rel=>exact⟨k+1,by omega,by omega,by go_num,by rw[HJS.out];exact HO2.out,hB2.out⟩
     case measure=>simp[intOf];omega
    ·have hne:(x == y)=false:=by simpa using hxy
     rw[if_neg hxy] at hjs;have HJS:=k_ hjs;clear hjs hxy
     go_upto_region 5 with fail
     go_quiet (fail)
     have HOQ:=k_ (HOWN.out.below (below_drewN (Below.refl wr.heap.size wr) nq));have HBQ:=k_ (below_drewN HB.out nq);clear HOWN HB q1 q2
     go_wp2_with (at_builtin;refine append_own intE rfl (.tmp 31) (.tmp 32) rfl w.heap.size J [0] _ rfl (HOQ.out.alloc _) wr.heap.size 0 1 rfl (CellsAt.new _ _ _ _) ?c1 ?c2 ?_)
     case c1=>rw[HJL.out];simp;omega
     case c2=>have hz:(wr.drewN nq).heap.size=wr.heap.size:=rfl;have:=HBQ.out.size;simp;omega
     intro v2 w2 hown2 hg2;have hB2:=k_ (below_grown (HBQ.out.alloc HBQ.out.size _) (HOQ.out.alloc _) hg2 (by have hz:(wr.drewN nq).heap.size=wr.heap.size:=rfl;have:=HBQ.out.size;simp;omega) (Nat.le_refl _));have HO2:=k_ hown2;clear hown2 hg2;go_wp2_with fail
     go_roundw
     case rel=>exact⟨k+1,by omega,by omega,by go_num,by rw[HJS.out];exact HO2.out,hB2.out⟩
     case measure=>simp[intOf];omega
   ·have hall:=joinL_all l m k hlt ⟨hk1,hk2⟩
    rw[hall] at hown;have HOWN:=k_ hown;clear hown;have HB:=k_ hB;clear hB;have HALL:=k_ hall;clear hall;have n3:¬ ((k:Int)<(l.length:Int)∧(k:Int)<(m.length:Int)):=by omega
    clear hl hm
    by_cases n4:(k:Int)<(l.length:Int)
    ·have n5:¬ (k:Int)<(m.length:Int):=fun h=>n3 ⟨n4,h⟩
     clear n3 hlt
     (go_wp2_with fail;go_ret;exact⟨_,rfl,HOWN.out,HB.out⟩)
    ·skip
     clear n3 hlt
     (exfalso;omega)
end Go.Proofs.YtlofbhoicbemnaaGreatDoor
