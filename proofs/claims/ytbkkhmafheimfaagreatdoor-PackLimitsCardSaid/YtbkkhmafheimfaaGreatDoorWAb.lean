/- Walks: what an op is (package instr and the reference): Known, Uses, Safe, may, right, unused. Walks: whether an instruction may be laid .. -/
import Derived.Test.YtbkkhmafheimfaaGreatDoorWAa
import Derived.Laws.IdiomStrings
import Derived.RegionTactic
import Derived.ChangeAlike
import Derived.Deep.Slices
set_option linter.unusedVariables false
set_option linter.unusedSimpArgs false
set_option maxRecDepth 100000
set_option maxHeartbeats 4000000
namespace Go.Proofs.YtbkkhmafheimfaaGreatDoor
open Go.ChangeShapes Go.WideShapes Go.ChangeAt Go.RowKit
def knownS (op:Int):Bool:=decide (0≤op) && decide (op≤29)
def usesS (op:Int):Bool × Bool × Bool :=
 if op=1∨op=2∨op=10∨op=11∨op=12∨op=13∨op=16∨op=17∨op=18∨op=25∨op=26 then (true,true,false)
 else if op=3∨op=4∨op=5∨op=6∨op=7∨op=8∨op=14∨op=15∨op=19∨op=20∨op=21 then (true,true,true)
 else if op=9 then (false,true,false)
 else if op=22∨op=29 then (true,false,false)
 else if op=23∨op=24 then (false,true,true)
 else (false,false,false)
def opsAll:List Int:=[0,1,2,3,4,5,6,7,8,9,10,11,12,13,14,15,16,17,18,19,20,21,22,23,24,25,26,27,28,29]
theorem op_cases {p:Int→Prop} (h:∀ op ∈ opsAll,p op) (hlo:∀ op,op<0→p op) (hhi:∀ op,29<op→p op) (op:Int):p op:=by
 rcases Int.lt_or_le op 0 with h1 | h1
 ·exact hlo op h1
 rcases Int.lt_or_le 29 op with h2 | h2
 ·exact hhi op h2
 ·refine h op ?_
  simp only[opsAll,List.mem_cons,List.not_mem_nil,or_false]
  omega
theorem ops_all {p:Int→Prop} (h0:p 0) (h1:p 1) (h2:p 2) (h3:p 3) (h4:p 4) (h5:p 5) (h6:p 6) (h7:p 7) (h8:p 8) (h9:p 9) (h10:p 10) (h11:p 11) (h12:p 12) (h13:p 13) (h14:p 14) (h15:p 15) (h16:p 16) (h17:p 17) (h18:p 18) (h19:p 19) (h20:p 20) (h21:p 21) (h22:p 22) (h23:p 23) (h24:p 24) (h25:p 25) (h26:p 26) (h27:p 27) (h28:p 28) (h29:p 29):∀ op ∈ opsAll,p op:=by
 intro op hop;simp only[opsAll,List.mem_cons,List.not_mem_nil,or_false] at hop
 rcases hop with rfl | rfl | rfl | rfl | rfl | rfl | rfl | rfl | rfl | rfl | rfl | rfl | rfl | rfl | rfl | rfl | rfl | rfl | rfl | rfl | rfl | rfl | rfl | rfl | rfl | rfl | rfl | rfl | rfl | rfl <;> assumption
theorem uses_out (op:Int) (h:op<0∨29<op):usesS op=(false,false,false):=by
 unfold usesS;rw[if_neg (by omega),if_neg (by omega),if_neg (by omega),if_neg (by omega),if_neg (by omega)]
theorem known_any (op:Int) (w:World) :
  Calls Tryz.prog 99 #[.int .i64 op] w fun e w'=>e=.returned (.bool (knownS op))∧w=w':=by
 unfold knownS
 go_enter Tryz.func99,Tryz.ntmps99
 go_wp2
 all_goals
  go_ret
  exact⟨by simp[*];try omega,rfl⟩
def UsesSaid (w:World) (op:Int):Prop:=Calls Tryz.prog 98 #[.int .i64 op] w fun e w'=>e=.returned (.tuple #[.bool (usesS op).1,.bool (usesS op).2.1,.bool (usesS op).2.2])∧w=w'
theorem uses_in (w:World):∀ op ∈ opsAll,UsesSaid w op:=by
 apply ops_all <;> (unfold UsesSaid;go_enter Tryz.func98,Tryz.ntmps98;go_wp2;go_ret3;exact⟨rfl,rfl⟩)
theorem uses_any (w:World) (op:Int):UsesSaid w op:=by
 refine op_cases (uses_in w) (fun op h=>?_) (fun op h=>?_) op
 all_goals
  unfold UsesSaid;rw[uses_out op (by omega)]
  go_enter Tryz.func98,Tryz.ntmps98
  go_wp2
  go_ret3
  exact⟨rfl,rfl⟩
structure Ins where (op a b c:Int)
def Ins.val (x:Ins):Value:=.agg #[.int .i64 x.op,.int .i64 x.a,.int .i64 x.b,.int .i64 x.c]
def Ins.cells (x:Ins):List Value:=[.int .i64 x.op,.int .i64 x.a,.int .i64 x.b,.int .i64 x.c]
def mayB (n:Int) (used:Bool):Bool:=used || n == 0
def unusedB (x:Ins):Bool:=mayB x.a (usesS x.op).1 && mayB x.b (usesS x.op).2.1 && mayB x.c (usesS x.op).2.2
def rightB (x:Ins):Bool:=knownS x.op && decide (0≤x.a) && decide (x.a≤255) && decide (0≤x.c) && decide (x.c≤255) && decide (wrap32 x.b=x.b) && unusedB x
theorem may_any (n:Int) (u:Bool) (w:World) :
  Calls Tryz.prog 100 #[.int .i64 n,.bool u] w fun e w'=>e=.returned (.bool (mayB n u))∧w=w':=by
 cases u
 all_goals
  go_enter Tryz.func100,Tryz.ntmps100
  go_wp2
  all_goals
   go_ret
   exact⟨by simp[mayB, *],rfl⟩
theorem right_any (x:Ins) (w:World) :
  Calls Tryz.prog 50 #[x.val] w fun e w'=>e=.returned (.bool (rightB x))∧Below w.heap.size w w':=by
 obtain⟨op,a,b,c⟩:=x
 show Calls Tryz.prog 50 #[.agg #[.int .i64 op,.int .i64 a,.int .i64 b,.int .i64 c]] w _
 have us:=fun w=>uses_any w op
 unfold UsesSaid at us;have kn:=known_any op;have o1:=of_any b;have hr:rightB ⟨op,a,b,c⟩=(knownS op && decide (0≤a) && decide (a≤255) && decide (0≤c) && decide (c≤255) && decide (wrap32 b=b) && (mayB a (usesS op).1 && mayB b (usesS op).2.1 && mayB c (usesS op).2.2)):=rfl;rw[hr];clear hr;generalize usesS op=u at *;obtain⟨u1,u2,u3⟩:=u
 dsimp only at us
 have hB:=w32_bd b;generalize hwb:wrap32 b=b' at *;clear hwb;generalize knownS op=kn0 at *;have OF:=k_ o1;have US:=k_ us;have KN:=k_ kn;clear o1 us kn
 cases kn0
 ·skip
  go_enter Tryz.func50,Tryz.ntmps50
  go_wp2_with fail;refine(US.out _).mono ?_;rintro e w' ⟨rfl,rfl⟩;go_wp2_with fail
  go_quiet (first | (go_at_call 99;exact Calls.quiet_of_same ((KN.out _).mono fun _ _ ⟨a,b⟩=>⟨a,b.symm⟩)) | (go_at_call 22;exact Calls.quiet_of_same ((OF.out _).mono fun _ _ ⟨a,b⟩=>⟨a,b.symm⟩)) | (go_at_call 100;exact Calls.quiet_of_same ((may_any _ _ _).mono fun _ _ ⟨a,b⟩=>⟨a,b.symm⟩)))
  go_wp2
  go_ret
  exact⟨by simp[*],below_drewN ((Below.refl _ _).alloc (Nat.le_refl _) _) _⟩
 by_cases h1:0≤a
 case neg =>
  have h1':decide (0≤a)=false:=by simpa using h1
  go_enter Tryz.func50,Tryz.ntmps50
  go_wp2_with fail;refine(US.out _).mono ?_;rintro e w' ⟨rfl,rfl⟩;go_wp2_with fail
  go_quiet (first | (go_at_call 99;exact Calls.quiet_of_same ((KN.out _).mono fun _ _ ⟨a,b⟩=>⟨a,b.symm⟩)) | (go_at_call 22;exact Calls.quiet_of_same ((OF.out _).mono fun _ _ ⟨a,b⟩=>⟨a,b.symm⟩)) | (go_at_call 100;exact Calls.quiet_of_same ((may_any _ _ _).mono fun _ _ ⟨a,b⟩=>⟨a,b.symm⟩)))
  go_wp2
  go_ret
  exact⟨by simp[*],below_drewN ((Below.refl _ _).alloc (Nat.le_refl _) _) _⟩
 by_cases h2:a≤255
 case neg =>
  have h2':decide (a≤255)=false:=by simpa using h2
  go_enter Tryz.func50,Tryz.ntmps50
  go_wp2_with fail;refine(US.out _).mono ?_;rintro e w' ⟨rfl,rfl⟩;go_wp2_with fail
  go_quiet (first | (go_at_call 99;exact Calls.quiet_of_same ((KN.out _).mono fun _ _ ⟨a,b⟩=>⟨a,b.symm⟩)) | (go_at_call 22;exact Calls.quiet_of_same ((OF.out _).mono fun _ _ ⟨a,b⟩=>⟨a,b.symm⟩)) | (go_at_call 100;exact Calls.quiet_of_same ((may_any _ _ _).mono fun _ _ ⟨a,b⟩=>⟨a,b.symm⟩)))
  go_wp2
  go_ret
  exact⟨by simp[*],below_drewN ((Below.refl _ _).alloc (Nat.le_refl _) _) _⟩
 by_cases h3:0≤c
 case neg =>
  have h3':decide (0≤c)=false:=by simpa using h3
  go_enter Tryz.func50,Tryz.ntmps50
  go_wp2_with fail;refine(US.out _).mono ?_;rintro e w' ⟨rfl,rfl⟩;go_wp2_with fail
  go_quiet (first | (go_at_call 99;exact Calls.quiet_of_same ((KN.out _).mono fun _ _ ⟨a,b⟩=>⟨a,b.symm⟩)) | (go_at_call 22;exact Calls.quiet_of_same ((OF.out _).mono fun _ _ ⟨a,b⟩=>⟨a,b.symm⟩)) | (go_at_call 100;exact Calls.quiet_of_same ((may_any _ _ _).mono fun _ _ ⟨a,b⟩=>⟨a,b.symm⟩)))
  go_wp2
  go_ret
  exact⟨by simp[*],below_drewN ((Below.refl _ _).alloc (Nat.le_refl _) _) _⟩
 by_cases h4:c≤255
 case neg =>
  have h4':decide (c≤255)=false:=by simpa using h4
  go_enter Tryz.func50,Tryz.ntmps50
  go_wp2_with fail;refine(US.out _).mono ?_;rintro e w' ⟨rfl,rfl⟩;go_wp2_with fail
  go_quiet (first | (go_at_call 99;exact Calls.quiet_of_same ((KN.out _).mono fun _ _ ⟨a,b⟩=>⟨a,b.symm⟩)) | (go_at_call 22;exact Calls.quiet_of_same ((OF.out _).mono fun _ _ ⟨a,b⟩=>⟨a,b.symm⟩)) | (go_at_call 100;exact Calls.quiet_of_same ((may_any _ _ _).mono fun _ _ ⟨a,b⟩=>⟨a,b.symm⟩)))
  go_wp2
  go_ret
  exact⟨by simp[*],below_drewN ((Below.refl _ _).alloc (Nat.le_refl _) _) _⟩
 by_cases h5:b'=b
 case neg =>
  have h5':(b' == b)=false:=by simpa using h5
  go_enter Tryz.func50,Tryz.ntmps50
  go_wp2_with fail;refine(US.out _).mono ?_;rintro e w' ⟨rfl,rfl⟩;go_wp2_with fail
  go_quiet (first | (go_at_call 99;exact Calls.quiet_of_same ((KN.out _).mono fun _ _ ⟨a,b⟩=>⟨a,b.symm⟩)) | (go_at_call 22;exact Calls.quiet_of_same ((OF.out _).mono fun _ _ ⟨a,b⟩=>⟨a,b.symm⟩)) | (go_at_call 100;exact Calls.quiet_of_same ((may_any _ _ _).mono fun _ _ ⟨a,b⟩=>⟨a,b.symm⟩)))
  go_wp2
  go_ret
  exact⟨by simp[*],below_drewN ((Below.refl _ _).alloc (Nat.le_refl _) _) _⟩
 subst h5
 cases h6:mayB a u1
 ·skip
  go_enter Tryz.func50,Tryz.ntmps50
  go_wp2_with fail;refine(US.out _).mono ?_;rintro e w' ⟨rfl,rfl⟩;go_wp2_with fail
  go_quiet (first | (go_at_call 99;exact Calls.quiet_of_same ((KN.out _).mono fun _ _ ⟨a,b⟩=>⟨a,b.symm⟩)) | (go_at_call 22;exact Calls.quiet_of_same ((OF.out _).mono fun _ _ ⟨a,b⟩=>⟨a,b.symm⟩)) | (go_at_call 100;exact Calls.quiet_of_same ((may_any _ _ _).mono fun _ _ ⟨a,b⟩=>⟨a,b.symm⟩)))
  go_wp2
  go_ret
  exact⟨by simp[*],below_drewN ((Below.refl _ _).alloc (Nat.le_refl _) _) _⟩
 cases h7:mayB b' u2
 ·skip
  go_enter Tryz.func50,Tryz.ntmps50
  go_wp2_with fail;refine(US.out _).mono ?_;rintro e w' ⟨rfl,rfl⟩;go_wp2_with fail
  go_quiet (first | (go_at_call 99;exact Calls.quiet_of_same ((KN.out _).mono fun _ _ ⟨a,b⟩=>⟨a,b.symm⟩)) | (go_at_call 22;exact Calls.quiet_of_same ((OF.out _).mono fun _ _ ⟨a,b⟩=>⟨a,b.symm⟩)) | (go_at_call 100;exact Calls.quiet_of_same ((may_any _ _ _).mono fun _ _ ⟨a,b⟩=>⟨a,b.symm⟩)))
  go_wp2
  go_ret
  exact⟨by simp[*],below_drewN ((Below.refl _ _).alloc (Nat.le_refl _) _) _⟩
 go_enter Tryz.func50,Tryz.ntmps50
 go_wp2_with fail;refine(US.out _).mono ?_;rintro e w' ⟨rfl,rfl⟩;go_wp2_with fail
 go_quiet (first | (go_at_call 99;exact Calls.quiet_of_same ((KN.out _).mono fun _ _ ⟨a,b⟩=>⟨a,b.symm⟩)) | (go_at_call 22;exact Calls.quiet_of_same ((OF.out _).mono fun _ _ ⟨a,b⟩=>⟨a,b.symm⟩)) | (go_at_call 100;exact Calls.quiet_of_same ((may_any _ _ _).mono fun _ _ ⟨a,b⟩=>⟨a,b.symm⟩)))
 go_wp2
 go_ret
 exact⟨by simp[*],below_drewN ((Below.refl _ _).alloc (Nat.le_refl _) _) _⟩
def byteOf (v:Int) (k:Nat):Int:=v / 256 ^ k % 256
def bv (n:Int):Value:=.int .u8 n
def laid4 (v:Int) (k:Nat):Array Value:=#[if 0<k then bv (byteOf v 0) else bv 0,if 1<k then bv (byteOf v 1) else bv 0,if 2<k then bv (byteOf v 2) else bv 0,if 3<k then bv (byteOf v 3) else bv 0]
theorem laid_0 (v:Int):laid4 v 0=#[.int .u8 0,.int .u8 0,.int .u8 0,.int .u8 0]:=rfl
theorem laid_1 (v:Int):laid4 v 1=#[.int .u8 (byteOf v 0),.int .u8 0,.int .u8 0,.int .u8 0]:=rfl
theorem laid_2 (v:Int):laid4 v 2=#[.int .u8 (byteOf v 0),.int .u8 (byteOf v 1),.int .u8 0,.int .u8 0]:=rfl
theorem laid_3 (v:Int):laid4 v 3=#[.int .u8 (byteOf v 0),.int .u8 (byteOf v 1),.int .u8 (byteOf v 2),.int .u8 0]:=rfl
theorem laid_4 (v:Int):laid4 v 4=#[.int .u8 (byteOf v 0),.int .u8 (byteOf v 1),.int .u8 (byteOf v 2),.int .u8 (byteOf v 3)]:=rfl
theorem byte_0 (v:Int):byteOf v 0=wrap32 v % 256:=by unfold byteOf wrap32;omega
theorem byte_1 (v:Int):byteOf v 1=wrap32 v % 4294967296 / 256 % 256:=by unfold byteOf wrap32;omega
theorem byte_2 (v:Int):byteOf v 2=wrap32 v % 4294967296 / 65536 % 256:=by unfold byteOf wrap32;omega
theorem byte_3 (v:Int):byteOf v 3=wrap32 v % 4294967296 / 16777216:=by unfold byteOf wrap32;omega
theorem bytes_any (v:Int) (w:World) :
  Calls Tryz.prog 14 #[.int .i64 v] w fun e w'=>e=.returned (.slice (some ⟨w.heap.size,0,none⟩) 4 4)∧w'=w.alloc (.cells (laid4 v 4) 5):=by
 have hb:=w32_bd v;have hmk:∀ w,(Instr.makeSlice 49 (.int .i64 4) (.int .i64 4)).run Tryz.prog w=.ok (.slice (some ⟨w.heap.size,0,none⟩) 4 4) (w.alloc (.cells #[.int .u8 0,.int .u8 0,.int .u8 0,.int .u8 0] 5)):=fun _=>by kernel_rfl
 go_enter Tryz.func14,Tryz.ntmps14
 go_wp2_with (first | (go_at_call 22;refine(of_any _ _).mono ?_;rintro e w' ⟨rfl,rfl⟩))
 go_loopw [13] (fun i wr=>∃ k:Nat,k≤4∧i=.int .i64 k∧wr=w.alloc (.cells (laid4 v k) 5)) (fun i _=>4 - (intOf i).toNat)
 case atStart=>exact⟨0,by omega,rfl,rfl⟩
 case round =>
  obtain⟨k,hk,rfl,rfl⟩:=hrel;have hc:k=0∨k=1∨k=2∨k=3∨k=4:=by omega
  rcases hc with rfl | rfl | rfl | rfl | rfl
  ·rw[laid_0]
   go_wp2
   go_roundw
   case rel=>exact⟨1,by omega,rfl,by rw[laid_1,byte_0]⟩
   case measure=>simp[intOf]
  ·rw[laid_1]
   go_wp2
   go_roundw
   case rel=>exact⟨2,by omega,rfl,by rw[laid_2,byte_1]⟩
   case measure=>simp[intOf]
  ·rw[laid_2]
   go_wp2
   go_roundw
   case rel=>exact⟨3,by omega,rfl,by rw[laid_3,byte_2]⟩
   case measure=>simp[intOf]
  ·rw[laid_3]
   go_wp2
   go_roundw
   case rel=>exact⟨4,by omega,rfl,by rw[laid_4,byte_3]⟩
   case measure=>simp[intOf]
  ·go_wp2
   go_ret
   exact⟨rfl,rfl⟩
theorem or_join (x y:Int) (i:Nat) (hx0:0≤x) (hx:x<2 ^ i) (hx1:x<2 ^ 32) (hy0:0≤y) (hy:y % 2 ^ i=0) (hy1:y<2 ^ 32):bits .or .u32 x y=x+y:=by
 have hc:bits .or .u32 x y=bits .or .u32 y x:=by simp only[bits,BitVec.or_comm]
 rw[hc,bits_join .u32 32 (by decide) (fun n h0 h1=>by rw[IntKind.wrap_u32];omega) i y x hy0 hy hy1 hx0 hx hx1]
 omega
def readV (b0 b1 b2 b3:Int):Int:=wrap32 (b0+256 * b1+65536 * b2+16777216 * b3)
def partV (b0 b1 b2 b3:Int) (k:Nat):Int:=if k=0 then 0 else if k=1 then b0 else if k=2 then b0+256 * b1 else if k=3 then b0+256 * b1+65536 * b2 else b0+256 * b1+65536 * b2+16777216 * b3
theorem read_any (b o n c:Nat) (w:World) (b0 b1 b2 b3:Int) (hn:4≤n) (hn2:n≤9223372036854775807)
  (hb:0≤b0∧b0<256∧0≤b1∧b1<256∧0≤b2∧b2<256∧0≤b3∧b3<256)
  (c0:w.cell? ⟨b,o,none⟩=some (.int .u8 b0)) (c1:w.cell? ⟨b,o+1,none⟩=some (.int .u8 b1)) (c2:w.cell? ⟨b,o+2,none⟩=some (.int .u8 b2)) (c3:w.cell? ⟨b,o+3,none⟩=some (.int .u8 b3)) :
  Calls Tryz.prog 54 #[.slice (some ⟨b,o,none⟩) n c] w fun e w'=>e=.returned (.tuple #[.int .i64 (readV b0 b1 b2 b3),.bool true])∧w=w':=by
 have j0:bits .or .u32 0 b0=b0:=by rw[or_join 0 b0 0 (by omega) (by omega) (by omega) (by omega) (by omega) (by omega)];omega
 have j1:bits .or .u32 b0 (b1 * 256)=b0+256 * b1:=by rw[or_join b0 _ 8 (by omega) (by omega) (by omega) (by omega) (by omega) (by omega)];omega
 have j2:bits .or .u32 (b0+256 * b1) (b2 * 65536)=b0+256 * b1+65536 * b2:=by rw[or_join _ _ 16 (by omega) (by omega) (by omega) (by omega) (by omega) (by omega)];omega
 have j3:bits .or .u32 (b0+256 * b1+65536 * b2) (b3 * 16777216)=b0+256 * b1+65536 * b2+16777216 * b3:=by rw[or_join _ _ 24 (by omega) (by omega) (by omega) (by omega) (by omega) (by omega)];omega
 go_enter Tryz.func54,Tryz.ntmps54
 go_wp2
 go_loop [4,9] (fun u i=>∃ k:Nat,k≤4∧i=.int .i64 k∧u=.int .u32 (partV b0 b1 b2 b3 k)) (fun _ i=>4 - (intOf i).toNat)
 case atStart=>exact⟨0,by omega,rfl,rfl⟩
 case round =>
  obtain⟨k,hk,rfl,rfl⟩:=hrel;have hc:k=0∨k=1∨k=2∨k=3∨k=4:=by omega
  rcases hc with rfl | rfl | rfl | rfl | rfl
  ·rw[show partV b0 b1 b2 b3 0=0 from rfl]
   go_wp2
   go_round
   case rel=>exact⟨1,by omega,rfl,rfl⟩
   case measure=>simp[intOf]
  ·rw[show partV b0 b1 b2 b3 1=b0 from rfl]
   go_wp2
   go_round
   case rel=>exact⟨2,by omega,rfl,rfl⟩
   case measure=>simp[intOf]
  ·rw[show partV b0 b1 b2 b3 2=b0+256 * b1 from rfl]
   go_wp2
   go_round
   case rel=>exact⟨3,by omega,rfl,rfl⟩
   case measure=>simp[intOf]
  ·rw[show partV b0 b1 b2 b3 3=b0+256 * b1+65536 * b2 from rfl]
   go_wp2
   go_round
   case rel=>exact⟨4,by omega,rfl,rfl⟩
   case measure=>simp[intOf]
  ·rw[show partV b0 b1 b2 b3 4=b0+256 * b1+65536 * b2+16777216 * b3 from rfl]
   go_wp2
   go_ret2
   exact⟨by simp[readV,w64_w32],rfl⟩
theorem bytesRow_get (s:ByteArray) (cap j:Nat) (h:j<s.size):(bytesRow s cap)[j]?=some (.int .u8 (s[j]).toNat):=by
 unfold bytesRow
 rw[Array.getElem?_append_left (by simpa using h)]
 simp[h]
 rfl
theorem conv_bytes (w:World) (s:ByteArray):∃ c W1,(convert 9 49 (.string s)).run Tryz.prog w=.ok (.slice (some ⟨w.heap.size,0,none⟩) s.size c) W1
  ∧ Below w.heap.size w W1∧∀ j (h:j<s.size),W1.cell? ⟨w.heap.size,j,none⟩=some (.int .u8 (s[j]).toNat):=by
 refine⟨_,_,run_bytes_of_string w 9 49 5 s Tryz.underlying9 Tryz.underlying49 Tryz.underlying5,?_,fun j h=>?_⟩
 ·exact((Below.refl _ _).drew).alloc (Nat.le_refl _) _
 ·have e:w.heap.size=w.drew.heap.size:=rfl
  rw[e,cell_new];exact bytesRow_get s _ j h
def u8E:Elem Tryz.prog Int where
 e:=5
 t:=49
 size:=1
 bytes:=1
 zero:=.int .u8 0
 enc:=fun n=>[.int .u8 n]
 ht:=Tryz.underlying49
 info:=by kernel_rfl
 hzs:=rfl
 hsz:=by decide
 hby:=by decide
 henc:=fun _=>rfl
 hone:=fun x u h=>by simp at h;subst h;rfl
def intE:Elem Tryz.prog Int where
 e:=3
 t:=34
 size:=1
 bytes:=8
 zero:=.int .i64 0
 enc:=fun n=>[.int .i64 n]
 ht:=Tryz.underlying34
 info:=by kernel_rfl
 hzs:=rfl
 hsz:=by decide
 hby:=by decide
 henc:=fun _=>rfl
 hone:=fun x u h=>by simp at h;subst h;rfl
def insE:Elem Tryz.prog Ins where
 e:=32
 t:=33
 size:=4
 bytes:=32
 zero:=.agg #[.int .i64 0,.int .i64 0,.int .i64 0,.int .i64 0]
 enc:=Ins.cells
 ht:=Tryz.underlying33
 info:=by kernel_rfl
 hzs:=rfl
 hsz:=by decide
 hby:=by decide
 henc:=fun _=>rfl
 hone:=fun x u h=>by simp[Ins.cells] at h;rcases h with rfl | rfl | rfl | rfl <;> rfl
theorem u8_map (l:List Int):l.flatMap u8E.enc=l.map (Value.int .u8):=by
 induction l with
 | nil=>rfl
 | cons x l ih=>rw[List.flatMap_cons,ih];rfl
theorem own_str {w:World} {B:Nat} {v:Value} {l:List Int} (h:Own u8E w B v l):(convert 49 9 v).run Tryz.prog w=.ok (.string (bytesS l)) w:=by
 have hc:=fun g hg=>World.ownsRow.cells (g:=g) h hg
 obtain⟨h1,h2⟩:=h
 rcases h2 with⟨rfl,h0⟩ | ⟨g,cap,cur,rfl,hg,hh,hr⟩
 ·have:l=[]:=List.length_eq_zero_iff.1 h0
  subst this;rw[run_convert_bytes_string w 49 9 5 _ _ _ Tryz.underlying49 Tryz.underlying5 Tryz.underlying9]
  rfl
 ·exact run_str w 49 9 5 ⟨g,0,none⟩ cap l Tryz.underlying49 Tryz.underlying5 Tryz.underlying9 (by
   have:=hc g rfl;rw[u8_map] at this;exact this)
def InsAt (w:World) (b o:Nat) (x:Ins):Prop:=w.cell? ⟨b,o,none⟩=some (.int .i64 x.op)∧w.cell? ⟨b,o+1,none⟩=some (.int .i64 x.a)∧w.cell? ⟨b,o+2,none⟩=some (.int .i64 x.b)∧w.cell? ⟨b,o+3,none⟩=some (.int .i64 x.c)
def InsSl (w:World) (a:Option Addr) (l:List Ins):Prop:=∀ j (hj:j<l.length),∃ b o,a=some ⟨b,o,none⟩∧InsAt w b (o+j * 4) l[j]
theorem InsAt.below {w w':World} {b o:Nat} {x:Ins} (h:InsAt w b o x) (hb:Below w.heap.size w w'):InsAt w' b o x :=
 ⟨below_cell hb h.1,below_cell hb h.2.1,below_cell hb h.2.2.1,below_cell hb h.2.2.2⟩
theorem InsSl.below {w w':World} {a:Option Addr} {l:List Ins} (h:InsSl w a l) (hb:Below w.heap.size w w'):InsSl w' a l:=fun j hj=>by
 obtain⟨b,o,h1,h2⟩:=h j hj;exact⟨b,o,h1,h2.below hb⟩
theorem take_snoc {α:Type} (l:List α) (k:Nat) (h:k<l.length):l.take (k+1)=l.take k ++ [l[k]]:=by
 rw[List.take_succ_eq_append_getElem h]
theorem flat_cells (l:List Ins) (j r:Nat) (hj:j<l.length) (hr:r<4):(l.flatMap Ins.cells)[j * 4+r]?=(l[j].cells)[r]?:=by
 induction l generalizing j with
 | nil=>cases hj
 | cons x l ih =>
   rw[List.flatMap_cons]
   cases j with
   | zero =>
     rw[List.getElem?_append_left (by simpa[Ins.cells] using hr)];simp
   | succ j =>
     rw[List.getElem?_append_right (by simp[Ins.cells];omega)];have:(j+1) * 4+r - x.cells.length=j * 4+r:=by simp[Ins.cells];omega
     rw[this,ih j (by simpa using hj)]
     rfl
theorem own_ins {w:World} {B:Nat} {v:Value} {l:List Ins} (h:Own insE w B v l):∃ a c,v=.slice a l.length c∧InsSl w a l:=by
 have hc:=fun g hg=>World.ownsRow.cells (g:=g) h hg
 obtain⟨h1,h2⟩:=h
 rcases h2 with⟨rfl,h0⟩ | ⟨g,cap,cur,rfl,hg,hh,hr⟩
 ·have:l=[]:=List.length_eq_zero_iff.1 h0
  subst this;exact⟨none,0,rfl,fun j hj=>by cases hj⟩
 ·refine⟨_,cap,rfl,fun j hj=>⟨g,0,rfl,?_⟩⟩
  have hg:=hc g rfl;have hf:=flat_cells l j;have hadd:∀ n,(⟨g,0,none⟩:Addr).add n=⟨g,n,none⟩:=fun n=>by
   unfold Addr.add;split
   ·subst n;rfl
   ·simp
  have q:∀ r (hr:r<4) u,(l[j].cells)[r]?=some u→w.cell? ⟨g,j * 4+r,none⟩=some u:=fun r hr u hu=>by
   have:=hg (j * 4+r) u (by rw[← hu];exact hf r hj hr);rw[hadd] at this;exact this
  have e:(0:Nat)+j * 4=j * 4:=by omega
  rw[e];exact⟨q 0 (by omega) _ rfl,q 1 (by omega) _ rfl,q 2 (by omega) _ rfl,q 3 (by omega) _ rfl⟩
def layI (x:Ins):List Int:=[x.op % 256,x.a % 256,x.c % 256,byteOf x.b 0,byteOf x.b 1,byteOf x.b 2,byteOf x.b 3]
def layL (l:List Ins):List Int:=l.flatMap layI
def laid (l:List Ins):Bool:=l.all rightB
def layRes (l:List Ins):Value:=if laid l then .tuple #[.string (bytesS (layL l)),.int .i64 0] else .tuple #[.string ⟨#[]⟩,.int .i64 1]
theorem layRes_no (l:List Ins) (k:Nat) (hk:k<l.length) (h:rightB l[k]=false):layRes l=.tuple #[.string ⟨#[]⟩,.int .i64 1]:=by
 have:laid l=false:=by
  unfold laid;rw[List.all_eq_false];exact⟨l[k],List.getElem_mem hk,by simp[h]⟩
 simp[layRes,this]
theorem layL_snoc (l:List Ins) (x:Ins):layL (l ++ [x])=layL l ++ layI x:=by simp[layL]
theorem laid_snoc (l:List Ins) (x:Ins):laid (l ++ [x])=(laid l && rightB x):=by simp[laid]
theorem layL_len (l:List Ins):(layL l).length=7 * l.length:=by
 induction l with
 | nil=>rfl
 | cons x l ih=>simp[layL,layI] at *;omega
theorem lay_any (l:List Ins) (a:Option Addr) (c:Nat) (w:World) (hl:l.length≤100000) (hc:InsSl w a l) :
  Calls Tryz.prog 30 #[.slice a l.length c] w fun e w'=>e=.returned (layRes l)∧Below w.heap.size w w':=by
 have HC:=k_ hc;clear hc;have hby:=bytes_any
 have HBY:=k_ hby;clear hby
 go_enter Tryz.func30,Tryz.ntmps30
 go_wp2_with fail
 go_loopw [4,9] (fun v i wr=>∃ k:Nat,k≤l.length∧i=.int .i64 k∧Own u8E wr w.heap.size v (layL (l.take k))∧Below w.heap.size w wr∧laid (l.take k)=true) (fun _ i _=>l.length - (intOf i).toNat)
 case atStart=>exact⟨0,Nat.zero_le _,rfl,Own.nil _ _ _,Below.refl _ _,rfl⟩
 case round =>
  obtain⟨k,hk,rfl,hown,hB,hlaid⟩:=hrel
  by_cases hlt:k<l.length
  ·have hx:=HC.out.below hB k hlt
   obtain⟨b,o,rfl,hx0,hx1,hx2,hx3⟩:=hx;have HB:=k_ hB;clear hB;have HL:=k_ hlaid;clear hlaid;have HO:=k_ hown;clear hown;obtain⟨x,hxe⟩:∃ x,x=l[k]:=⟨_,rfl⟩;rw[← hxe] at hx0 hx1 hx2 hx3;have HXE:=k_ hxe;clear hxe;have hr:=right_any x;obtain⟨xop,xa,xb,xc⟩:=x;have hr:∀ w,Calls Tryz.prog 50 #[.agg #[.int .i64 xop,.int .i64 xa,.int .i64 xb,.int .i64 xc]] w fun e w'=>e=.returned (.bool (rightB ⟨xop,xa,xb,xc⟩))∧Below w.heap.size w w':=hr
   obtain⟨rb,hrb⟩:∃ rb,rb=rightB ⟨xop,xa,xb,xc⟩:=⟨_,rfl⟩;rw[← hrb] at hr;have HRB:=k_ hrb;clear hrb;have HR:=k_ hr;clear hr
   dsimp only at hx0 hx1 hx2 hx3
   go_wp2_with fail;refine(HR.out _).mono ?_;rintro e w1 ⟨rfl,hb1⟩
   cases rb
   ·clear hx0 hx1 hx2 hx3
    go_wp2_with fail
    go_ret2
    exact⟨by rw[layRes_no l k hlt (by rw[← HXE.out,← HRB.out])];rfl,(HB.out.alloc HB.out.size _).trans (hb1.mono (by have:=HB.out.size;simp;omega))⟩
   ·have hown1:=Own.below (HO.out.alloc (.cells #[.int .i64 xop,.int .i64 xa,.int .i64 xb,.int .i64 xc] 32)) hb1
    have q0:=below_cell hb1 (cell_new wr #[.int .i64 xop,.int .i64 xa,.int .i64 xb,.int .i64 xc] 32 (0,0) 0);have q1:=below_cell hb1 (cell_new wr #[.int .i64 xop,.int .i64 xa,.int .i64 xb,.int .i64 xc] 32 (0,0) 1);have q2:=below_cell hb1 (cell_new wr #[.int .i64 xop,.int .i64 xa,.int .i64 xb,.int .i64 xc] 32 (0,0) 2);have q3:=below_cell hb1 (cell_new wr #[.int .i64 xop,.int .i64 xa,.int .i64 xb,.int .i64 xc] 32 (0,0) 3);have hB1:Below w.heap.size w w1:=(HB.out.alloc HB.out.size _).trans (hb1.mono (by have:=HB.out.size;simp;omega));have HB1:=k_ hB1;clear hB1;have HO1:=k_ hown1;clear hown1;clear hb1
    go_wp2_with (at_builtin;refine append_own u8E rfl (.tmp 16) (.tmp 26) rfl w.heap.size (layL (l.take k)) [xop % 256,xa % 256,xc % 256] _ rfl (HO1.out.alloc _) w1.heap.size 0 3 rfl (CellsAt.new _ _ _ _) ?c1 ?c2 ?_)
    case c1=>rw[layL_len];simp;omega
    case c2=>have:=HB1.out.size;simp;omega
    intro v2 w2 hown2 hg2;have hB2:=k_ (below_grown (HB1.out.alloc HB1.out.size _) (HO1.out.alloc _) hg2 (by have:=HB1.out.size;simp;omega) (Nat.le_refl _));have r2:=cell_grown hg2 ((cell_under _ (.cells #[.int .u8 (xop % 256),.int .u8 (xa % 256),.int .u8 (xc % 256)] 5) (World.block_lt q2)).trans q2) (fun e=>absurd (World.ownsRow.lt HO.out _ e).2 (Nat.lt_irrefl _));have HO2:=k_ hown2;clear hown2;clear q0 q1 q2 q3 hg2 hx0 hx1 hx2 hx3;go_wp2_with fail;refine(HBY.out _ _).mono ?_;rintro e w3 ⟨rfl,rfl⟩
    go_wp2_with (at_builtin;refine append_own u8E rfl (.tmp 28) (.tmp 31) rfl w.heap.size (layL (l.take k) ++ [xop % 256,xa % 256,xc % 256]) [byteOf xb 0,byteOf xb 1,byteOf xb 2,byteOf xb 3] _ rfl (HO2.out.alloc _) w2.heap.size 0 4 rfl (CellsAt.new _ _ _ _) ?d1 ?d2 ?_)
    case d1=>rw[List.length_append,layL_len];simp;omega
    case d2=>have:=hB2.out.size;simp;omega
    intro v3 w3 hown3 hg3;have hB3:=k_ (below_grown (hB2.out.alloc hB2.out.size _) (HO2.out.alloc _) hg3 (by have:=hB2.out.size;simp;omega) (Nat.le_refl _));have HO3:=k_ hown3;clear hown3;clear hg3 r2;go_wp2_with fail
    go_roundw
    case rel =>
     refine⟨k+1,by omega,by go_num,?_,hB3.out,?_⟩
     ·rw[take_snoc l k hlt,layL_snoc,← HXE.out]
      exact HO3.out
     ·rw[take_snoc l k hlt,laid_snoc,← HXE.out,← HRB.out,HL.out];rfl
    case measure=>simp[intOf];omega
  ·have hk':k=l.length:=by omega
   subst hk';rw[List.take_length] at hown hlaid;have hcv:=own_str hown;have hres:layRes l=.tuple #[.string (bytesS (layL l)),.int .i64 0]:=by simp[layRes,hlaid]
   have HR:=k_ hres;have HB:=k_ hB;clear hres hB hown hlaid;go_wp2_with fail
   go_ret2
   exact⟨by rw[HR.out];rfl,HB.out⟩
def gb (b:ByteArray) (i:Nat):Int:=(b.data.getD i 0).toNat
theorem gb_get (b:ByteArray) (i:Nat) (h:i<b.size):((b[i]).toNat:Int)=gb b i:=by
 unfold gb;rw[Array.getD_eq_getD_getElem?,Array.getElem?_eq_getElem h]
 rfl
theorem gb_bd (b:ByteArray) (i:Nat):0≤gb b i∧gb b i<256:=by
 unfold gb;have:=(b.data.getD i 0).toNat_lt
 omega
def rdAt (b:ByteArray) (i:Nat):Ins:=⟨gb b i,gb b (i+1),readV (gb b (i+3)) (gb b (i+4)) (gb b (i+5)) (gb b (i+6)),gb b (i+2)⟩
def rdAll (b:ByteArray) (n:Nat):List Ins:=(List.range n).map fun k=>rdAt b (7 * k)
theorem rdAll_snoc (b:ByteArray) (n:Nat):rdAll b (n+1)=rdAll b n ++ [rdAt b (7 * n)]:=by
 simp[rdAll,List.range_succ]
theorem rdAll_len (b:ByteArray) (n:Nat):(rdAll b n).length=n:=by simp[rdAll]
def readOk (b:ByteArray):Bool:=b.size % 7 == 0 && (rdAll b (b.size / 7)).all rightB
def readL (b:ByteArray):List Ins:=if readOk b then rdAll b (b.size / 7) else []
theorem readOk_no (b:ByteArray) (k:Nat) (hk:7 * k<b.size) (h7:b.size % 7=0) (h:rightB (rdAt b (7 * k))=false):readOk b=false:=by
 unfold readOk;have:(rdAll b (b.size / 7)).all rightB=false:=by
  rw[List.all_eq_false];exact⟨rdAt b (7 * k),List.mem_map.2 ⟨k,List.mem_range.2 (by omega),rfl⟩,by simp[h]⟩
 rw[this,Bool.and_false]
def ReadPost (b:ByteArray) (w:World) (e:Ending) (w':World):Prop :=
 ∃ v,e=.returned (.tuple #[v,.int .i64 (if readOk b then 0 else 2)])∧Own insE w' w.heap.size v (readL b)∧Below w.heap.size w w'
theorem ext4 (b:ByteArray) (i:Nat) (h:i+7≤b.size):(b.extract (i+3) (i+7)).size=4∧∀ j (hj:j<(b.extract (i+3) (i+7)).size),(((b.extract (i+3) (i+7))[j]).toNat:Int)=gb b (i+3+j):=by
 have hs:(b.extract (i+3) (i+7)).size=4:=by simp;omega
 refine⟨hs,fun j hj=>?_⟩;rw[ByteArray.getElem_extract,← gb_get b _ (by omega)]
theorem read_code (b:ByteArray) (w:World) (hb:b.size≤1000000) :
  Calls Tryz.prog 102 #[.string b] w (ReadPost b w):=by
 by_cases h7:b.size % 7=0
 case neg =>
  have h7':((b.size:Int) % 7 != 0)=true:=by rw[bne_iff_ne];omega
  have hok:readOk b=false:=by
   unfold readOk;rw[show (b.size % 7 == 0)=false from by simpa using h7,Bool.false_and]
  have hP:ReadPost b w (.returned (.tuple #[.slice none 0 0,.int .i64 2])) w:=⟨_,by rw[hok];rfl,by unfold readL;rw[hok];exact Own.nil _ _ _,Below.refl _ _⟩;clear hok h7;have HP:=k_ hP;clear hP
  go_enter Tryz.func102,Tryz.ntmps102
  go_wp2_with fail
  go_ret2
  exact HP.out
 have h7':((b.size:Int) % 7 != 0)=false:=by rw[bne_eq_false_iff_eq];omega
 go_enter Tryz.func102,Tryz.ntmps102
 go_wp2_with fail;clear h7'
 go_loopw [4,5] (fun v i wr=>∃ at_ k:Nat,at_=7 * k∧at_≤b.size∧i=.int .i64 at_∧Own insE wr w.heap.size v (rdAll b k)∧Below w.heap.size w wr∧(rdAll b k).all rightB=true) (fun _ i _=>b.size - (intOf i).toNat)
 case atStart=>exact⟨0,0,rfl,Nat.zero_le _,rfl,Own.nil _ _ _,Below.refl _ _,rfl⟩
 case round =>
  obtain⟨at_,k,hak,hle,rfl,hown,hB,hall⟩:=hrel
  by_cases hlt:at_<b.size
  ·have h7le:at_+7≤b.size:=by omega
   obtain⟨c,W1,hcv,hB1,hcells⟩:=conv_bytes wr (b.extract (at_+3) (at_+7));obtain⟨hs4,hg4⟩:=ext4 b at_ h7le;rw[hs4] at hcv;have hrd:=read_any wr.heap.size 0 4 c W1 (gb b (at_+3)) (gb b (at_+4)) (gb b (at_+5)) (gb b (at_+6)) (by omega) (by omega)
    (by have:=gb_bd b (at_+3);have:=gb_bd b (at_+4);have:=gb_bd b (at_+5);have:=gb_bd b (at_+6);omega)
    (by rw[hcells 0 (by omega),hg4 0 (by omega)]) (by rw[hcells 1 (by omega),hg4 1 (by omega)]) (by rw[hcells 2 (by omega),hg4 2 (by omega)]) (by rw[hcells 3 (by omega),hg4 3 (by omega)])
   have l1:at_+1<b.size:=by omega
   have l2:at_+2<b.size:=by omega
   have g0:=gb_get b at_ hlt;have g1:=gb_get b (at_+1) l1;have g2:=gb_get b (at_+2) l2;have hx:rdAt b at_=⟨gb b at_,gb b (at_+1),readV (gb b (at_+3)) (gb b (at_+4)) (gb b (at_+5)) (gb b (at_+6)),gb b (at_+2)⟩:=rfl;generalize gb b (at_+3)=y3 at *;generalize gb b (at_+4)=y4 at *;generalize gb b (at_+5)=y5 at *;generalize gb b (at_+6)=y6 at *;generalize readV y3 y4 y5 y6=xb at *;have hbd0:=gb_bd b at_;have hbd1:=gb_bd b (at_+1);have hbd2:=gb_bd b (at_+2);clear hcells hg4 hs4;have hr:=right_any (rdAt b at_);rw[hx] at hr;have hr:∀ w,Calls Tryz.prog 50 #[.agg #[.int .i64 (gb b at_),.int .i64 (gb b (at_+1)),.int .i64 xb,.int .i64 (gb b (at_+2))]] w fun e w'=>e=.returned (.bool (rightB ⟨gb b at_,gb b (at_+1),xb,gb b (at_+2)⟩))∧Below w.heap.size w w':=hr
   generalize gb b at_=xop at *;generalize gb b (at_+1)=xa at *;generalize gb b (at_+2)=xc at *;obtain⟨rb,hrb⟩:∃ rb,rb=rightB ⟨xop,xa,xb,xc⟩:=⟨_,rfl⟩;rw[← hrb] at hr;rw[← hx] at hrb;have hB2:=hB.trans (hB1.mono hB.size);have hown1:=hown.below hB1;have HRD:=k_ hrd;clear hrd;have HRB:=k_ hrb;clear hrb;have HR:=k_ hr;clear hr;have HB1:=k_ hB1;clear hB1;have HB2:=k_ hB2;clear hB2;have HOWN1:=k_ hown1;clear hown1;have HX:=k_ hx;clear hx;clear hown hB;have HAK:=k_ hak;clear hak;have HALL:=k_ hall;clear hall;go_wp2_with fail;refine HRD.out.mono ?_;rintro e w1 ⟨rfl,rfl⟩;go_wp2_with fail;have n1:(0:Int)≤(at_:Int)+1:=by omega
   have n2:(0:Int)≤(at_:Int)+2:=by omega
   have m0:(at_:Int)<b.size:=by omega
   have m1:(at_:Int)+1<b.size:=by omega
   have m2:(at_:Int)+2<b.size:=by omega
   have t1:((at_:Int)+1).toNat=at_+1:=by omega
   have t2:((at_:Int)+2).toNat=at_+2:=by omega
   have i1:IntKind.i64.wrap ((at_:Int)+1)=(at_:Int)+1:=IntWalk.i64_in _ (by omega);have i2:IntKind.i64.wrap ((at_:Int)+2)=(at_:Int)+2:=IntWalk.i64_in _ (by omega)
   go_region
   clear n1 n2 m0 m1 m2 t1 t2 i1 i2 g0 g1 g2 hcv;go_wp2_with fail;refine(HR.out _).mono ?_;rintro e w2 ⟨rfl,hb2⟩;have hW1:W1.heap.size≤w2.heap.size:=by have:=hb2.size;simp at this;omega
   have hB3:Below w.heap.size w w2:=by
    refine((HB2.out.alloc HB2.out.size (.cells #[.int .i64 xop,.int .i64 xa,.int .i64 xb,.int .i64 xc] 32)).drew).trans (hb2.mono ?_);have:=HB2.out.size;simp;omega
   cases rb
   ·have hno:readOk b=false:=readOk_no b k (by rw[← HAK.out];exact hlt) h7 (by rw[← HAK.out];exact HRB.out.symm)
    have hP:ReadPost b w (.returned (.tuple #[.slice none 0 0,.int .i64 2])) w2:=⟨_,by rw[hno];rfl,by unfold readL;rw[hno];exact Own.nil _ _ _,hB3⟩;clear hno hB3 hW1 hb2;have HP:=k_ hP;clear hP;go_wp2_with fail
    go_ret2
    exact HP.out
   ·have q0:w2.cell? ⟨W1.heap.size,0,none⟩=some (.int .i64 xop):=below_cell hb2 (cell_new W1 #[.int .i64 xop,.int .i64 xa,.int .i64 xb,.int .i64 xc] 32 (0,0) 0)
    have q1:w2.cell? ⟨W1.heap.size,1,none⟩=some (.int .i64 xa):=below_cell hb2 (cell_new W1 #[.int .i64 xop,.int .i64 xa,.int .i64 xb,.int .i64 xc] 32 (0,0) 1);have q2:w2.cell? ⟨W1.heap.size,2,none⟩=some (.int .i64 xb):=below_cell hb2 (cell_new W1 #[.int .i64 xop,.int .i64 xa,.int .i64 xb,.int .i64 xc] 32 (0,0) 2);have q3:w2.cell? ⟨W1.heap.size,3,none⟩=some (.int .i64 xc):=below_cell hb2 (cell_new W1 #[.int .i64 xop,.int .i64 xa,.int .i64 xb,.int .i64 xc] 32 (0,0) 3);have hown2:Own insE w2 w.heap.size _ (rdAll b k):=Own.below ((HOWN1.out.alloc (.cells #[.int .i64 xop,.int .i64 xa,.int .i64 xb,.int .i64 xc] 32)).drew) hb2;have HB3:=k_ hB3;have HO2:=k_ hown2;clear hown2 hB3 hW1 hb2
    go_wp2_with (at_builtin;refine append_own insE rfl (.tmp 49) (.tmp 51) rfl w.heap.size (rdAll b k) [⟨xop,xa,xb,xc⟩] _ rfl (HO2.out.alloc _) w2.heap.size 0 1 rfl (CellsAt.new _ _ _ _) ?c1 ?c2 ?_)
    case c1=>rw[rdAll_len];have:=HAK.out;simp;omega
    case c2=>have:=HB3.out.size;simp;omega
    intro v3 w3 hown3 hg3;have hB4:=k_ (below_grown (HB3.out.alloc HB3.out.size _) (HO2.out.alloc _) hg3 (by have:=HB3.out.size;simp;omega) (Nat.le_refl _));have HO3:=k_ hown3;clear hown3;clear hg3 q0 q1 q2 q3;go_wp2_with fail
    go_roundw
    case rel =>
     refine⟨at_+7,k+1,by have:=HAK.out;omega,h7le,by go_num,?_,hB4.out,?_⟩
     ·have hsn:rdAll b (k+1)=rdAll b k ++ [⟨xop,xa,xb,xc⟩]:=by rw[rdAll_snoc,← HAK.out,HX.out]
      rw[hsn];exact HO3.out
     ·rw[rdAll_snoc,List.all_append,HALL.out,← HAK.out];simp[← HRB.out]
    case measure=>simp[intOf];omega
  ·have hk':at_=b.size:=by omega
   have hkk:b.size / 7=k:=by omega
   have hok:readOk b=true:=by
    unfold readOk;rw[hkk,hall,h7];rfl
   have hP:∀ v,Own insE wr w.heap.size v (rdAll b k)→ReadPost b w (.returned (.tuple #[v,.int .i64 0])) wr:=fun v hv=>⟨v,by rw[hok];rfl,by unfold readL;rw[hok,if_pos rfl,hkk];exact hv,hB⟩
   have HP:=k_ (hP _ hown);clear hok hkk hall hown hB hak hP;go_wp2_with fail
   go_ret2
   exact HP.out
def Ins.wf (x:Ins):Prop:=(-9223372036854775808≤x.op∧x.op≤9223372036854775807)∧(-9223372036854775808≤x.a∧x.a≤9223372036854775807)∧(-9223372036854775808≤x.b∧x.b≤9223372036854775807)∧(-9223372036854775808≤x.c∧x.c≤9223372036854775807)
instance : Inhabited Ins := ⟨⟨0, 0, 0, 0⟩⟩
variable {H:Type} {enc:TypeId × Value→H}
theorem cells_ints:Tryz.prog.cellsOf 3=1∧Tryz.prog.cellsOf 32=4:=⟨by kernel_rfl,by kernel_rfl⟩
theorem trod_one {w:World} {base:Nat} {sp:Nat→Bool} {hd:Bool} {n:Nat} {u:Value} {x:DataW H × List MemPlace} (h:DataW.trod enc Tryz.prog w base sp hd n 3 [u]=some x):∃ z,u=.int .i64 z∧-9223372036854775808≤z∧z≤9223372036854775807:=by
 obtain⟨z,h1,_,h3⟩:=DataW.trod_int Tryz.underlying3 h;simp only[List.cons.injEq,and_true] at h1;have:=bounds_i64 h3;exact⟨z,h1,this⟩
theorem plain_addr {w:World} {a:Addr} {v:Value} (h:w.cell? a=some v):a=⟨a.block,a.off,none⟩:=by
 obtain⟨b,o,s⟩:=a
 cases s with
 | none=>rfl
 | some s =>
   unfold World.cell? at h
   split at h
   ·cases h
   ·cases h
theorem addr_add (a:Addr) (hs:a.spot=none) (n:Nat):a.add n=⟨a.block,a.off+n,none⟩:=by
 unfold Addr.add
 split
 ·subst n;obtain⟨b,o,s⟩:=a;dsimp only at hs;subst hs;rfl
 ·obtain⟨b,o,s⟩:=a;dsimp only at hs;subst hs;rfl
end Go.Proofs.YtbkkhmafheimfaaGreatDoor
namespace Go.Proofs.YtbkkhmafheimfaaGreatDoor
open Go.ChangeShapes Go.WideShapes Go.ChangeAt Go.RowKit
theorem bytesS_size (l:List Int):(bytesS l).size=l.length:=by
 show (List.map _ l).toArray.size=_
 simp
theorem gb_extract (b:ByteArray) (k i:Nat) (h:i<k) (hk:k≤b.size):gb (b.extract 0 k) i=gb b i:=by
 have hs:i<(b.extract 0 k).size:=by simp;omega
 rw[← gb_get _ i hs,← gb_get b i (by omega),ByteArray.getElem_extract]
 simp
theorem layI_bd (x:Ins) (hx:rightB x=true):∀ y ∈ layI x,0≤y∧y<256:=by
 intro y hy;simp only[layI,List.mem_cons,List.not_mem_nil,or_false] at hy
 rcases hy with rfl | rfl | rfl | rfl | rfl | rfl | rfl <;> (try unfold byteOf) <;> omega
end Go.Proofs.YtbkkhmafheimfaaGreatDoor
