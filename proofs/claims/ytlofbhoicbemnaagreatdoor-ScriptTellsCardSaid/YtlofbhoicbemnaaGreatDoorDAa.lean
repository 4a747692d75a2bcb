/- Plain functions of chapter 2 (numbers of 32 bits) and their laws. Nothing of the program stands here. Walks: package word and the .. -/
import Derived.WalkKit
import Derived.Handy
import Derived.Test.YtlofbhoicbemnaaGreatDoorRows
import Derived.ProofKit
import Derived.OpenShut
import Derived.WalkSpells
import Derived.Lib.Hide
import Derived.Deep.Draws
import Derived.Deep.QuietTactic
import Derived.BigQuiet
import Derived.Laws.IdiomStrings
import Derived.Deep.Slices
set_option linter.unusedVariables false
set_option linter.unusedSimpArgs false
set_option maxRecDepth 100000
set_option maxHeartbeats 4000000
namespace Go.Proofs.YtlofbhoicbemnaaGreatDoor
theorem k_ {p:Prop}(h:p):RowKit.Hid p:=h
theorem c_14 {W:World}{b:Nat}{x0 x1 x2 x3 x4 x5 x6 x7 x8 x9 x10 x11 x12 x13:Value}(h:∀ j u,(#[x0,x1,x2,x3,x4,x5,x6,x7,x8,x9,x10,x11,x12,x13]:Array Value)[j]?=some u→W.cell? ⟨b,j,none⟩=some u):W.cell? ⟨b,0,none⟩=some x0∧W.cell? ⟨b,1,none⟩=some x1∧W.cell? ⟨b,2,none⟩=some x2∧W.cell? ⟨b,3,none⟩=some x3∧W.cell? ⟨b,4,none⟩=some x4∧W.cell? ⟨b,5,none⟩=some x5∧W.cell? ⟨b,6,none⟩=some x6∧W.cell? ⟨b,7,none⟩=some x7∧W.cell? ⟨b,8,none⟩=some x8∧W.cell? ⟨b,9,none⟩=some x9∧W.cell? ⟨b,10,none⟩=some x10∧W.cell? ⟨b,11,none⟩=some x11∧W.cell? ⟨b,12,none⟩=some x12∧W.cell? ⟨b,13,none⟩=some x13:=⟨h 0 _ rfl,h 1 _ rfl,h 2 _ rfl,h 3 _ rfl,h 4 _ rfl,h 5 _ rfl,h 6 _ rfl,h 7 _ rfl,h 8 _ rfl,h 9 _ rfl,h 10 _ rfl,h 11 _ rfl,h 12 _ rfl,h 13 _ rfl⟩
theorem r_14 {W:World}{b:Nat}{x0 x1 x2 x3 x4 x5 x6 x7 x8 x9 x10 x11 x12 x13:Value}{t:TypeId}(h:W.heap[b]?=some (.cells #[x0,x1,x2,x3,x4,x5,x6,x7,x8,x9,x10,x11,x12,x13] t)):W.cell? ⟨b,0,none⟩=some x0∧W.cell? ⟨b,1,none⟩=some x1∧W.cell? ⟨b,2,none⟩=some x2∧W.cell? ⟨b,3,none⟩=some x3∧W.cell? ⟨b,4,none⟩=some x4∧W.cell? ⟨b,5,none⟩=some x5∧W.cell? ⟨b,6,none⟩=some x6∧W.cell? ⟨b,7,none⟩=some x7∧W.cell? ⟨b,8,none⟩=some x8∧W.cell? ⟨b,9,none⟩=some x9∧W.cell? ⟨b,10,none⟩=some x10∧W.cell? ⟨b,11,none⟩=some x11∧W.cell? ⟨b,12,none⟩=some x12∧W.cell? ⟨b,13,none⟩=some x13:=c_14 fun j u hu=>by simp only [World.cell?,h];exact hu
theorem c_8 {W:World}{b:Nat}{cs:Array Value}{x0 x1 x2 x3 x4 x5 x6 x7:Value}(h:∀ j u,cs[j]?=some u→W.cell? ⟨b,j,none⟩=some u)(e0:cs[0]?=some x0)(e1:cs[1]?=some x1)(e2:cs[2]?=some x2)(e3:cs[3]?=some x3)(e4:cs[4]?=some x4)(e5:cs[5]?=some x5)(e6:cs[6]?=some x6)(e7:cs[7]?=some x7):W.cell? ⟨b,0,none⟩=some x0∧W.cell? ⟨b,1,none⟩=some x1∧W.cell? ⟨b,2,none⟩=some x2∧W.cell? ⟨b,3,none⟩=some x3∧W.cell? ⟨b,4,none⟩=some x4∧W.cell? ⟨b,5,none⟩=some x5∧W.cell? ⟨b,6,none⟩=some x6∧W.cell? ⟨b,7,none⟩=some x7:=⟨h 0 _ e0,h 1 _ e1,h 2 _ e2,h 3 _ e3,h 4 _ e4,h 5 _ e5,h 6 _ e6,h 7 _ e7⟩
end Go.Proofs.YtlofbhoicbemnaaGreatDoor
namespace Go.Proofs.YtlofbhoicbemnaaGreatDoor
open Go.RowKit
theorem w32_bd (a:Int):-2147483648≤wrap32 a∧wrap32 a≤2147483647:=by unfold wrap32;omega
theorem w64_w32 (a:Int):wrap64 (wrap32 a)=wrap32 a:=by unfold wrap64 wrap32;omega
theorem of_plain (a:Int):wrap64 (wrap32 (IntKind.u64.wrap a % 4294967296))=wrap32 a:=by
 rw[IntKind.wrap_u64];unfold wrap64 wrap32;omega
open Go.ChangeShapes Go.WideShapes Go.ChangeAt
theorem of_any (a:Int) (w:World) :
  Calls Tryz.prog 73 #[.int .i64 a] w fun e w'=>e=.returned (.int .i64 (wrap32 a))∧w=w':=by
 go_enter Tryz.func73,Tryz.ntmps73
 go_wp2
 go_ret
 exact⟨by simp[of_plain],rfl⟩
end Go.Proofs.YtlofbhoicbemnaaGreatDoor
namespace Go.Proofs.YtlofbhoicbemnaaGreatDoor
open Go.RowKit
def bytesS (ns:List Int):ByteArray:=⟨(ns.map fun n=>UInt8.ofNat n.toNat).toArray⟩
theorem fold_push (ns:List Int):∀ (s:ByteArray),ns.foldl (fun r n=>r.push (UInt8.ofNat n.toNat)) s=⟨s.data ++ (ns.map fun n=>UInt8.ofNat n.toNat).toArray⟩:=by
 induction ns with
 | nil=>intro s;simp
 | cons n ns ih =>
   intro s;rw[List.foldl_cons,ih]
   congr 1
   show s.data.push _ ++ _=_
   apply Array.ext'
   simp
theorem run_str {P:Program} (w:World) (src dst e:TypeId) (a:Addr) (cap:Nat) (ns:List Int)
  (hs:P.underlying src=some (.slice e)) (he:P.underlying e=some (.int .u8)) (hd:P.underlying dst=some .string)
  (h:∀ j v,(ns.map (Value.int .u8))[j]?=some v→w.cell? (a.add j)=some v) :
  (convert src dst (.slice (some a) ns.length cap)).run P w=.ok (.string (bytesS ns)) w:=by
 rw[run_convert_bytes_string w src dst e _ _ _ hs he hd];have hl:=run_loadCells_list (P:=P) (w:=w) a (ns.map (Value.int .u8)) h;rw[List.length_map] at hl;rw[run_bytesToString w a ns.length cap ns hl,fold_push]
 show Result.ok (Value.string ⟨#[] ++ _⟩) w=_
 simp[bytesS]
theorem heap_new (w:World) (o:Obj):(w.alloc o).heap[w.heap.size]?=some o:=by
 show (w.heap.push _)[w.heap.size]?=_
 simp
theorem cell_new (w:World) (c:Array Value) (t:TypeId) (fz:Nat × Nat) (j:Nat):(w.alloc (.cells c t fz)).cell? ⟨w.heap.size,j,none⟩=c[j]?:=by
 unfold World.cell?;rw[heap_new]
 rfl
theorem cell_under (w:World) (o:Obj) {p:Addr} (h:p.block<w.heap.size):(w.alloc o).cell? p=w.cell? p :=
 World.cell?_of_block (w:=w) (Below.heap_alloc w o _ h)
theorem below_drewN {B:Nat} {a w:World} (h:Below B a w) (n:Nat):Below B a (w.drewN n):=h.trans ⟨rfl,rfl,rfl,Nat.le_refl _,fun _ _=>rfl⟩
def BelowW (w:World):Type:={ W:World // Below w.heap.size w W }
instance (w:World):Nonempty (BelowW w):=⟨⟨w,Below.refl _ _⟩⟩
theorem BelowW.cell {w:World} (W:BelowW w) {a:Addr} {v:Value} (h:w.cell? a=some v):W.val.cell? a=some v:=by
 have hlt:a.block<w.heap.size:=by
  unfold World.cell? at h
  rcases Nat.lt_or_ge a.block w.heap.size with h' | h'
  ·exact h'
  ·rw[Array.getElem?_eq_none h'] at h;cases h
 rw[W.2.cell hlt];exact h
theorem wp_region_below {P:Program} {id:Nat} {Q:Exit→Act→World→Prop} {a:Act} {w:World} {l:List Oper} (hm:P.follows .mixedOrders=true) (hB:Region.lexB .any l.toArray=true)
  (h:wpQuiet P l.toArray (fun w'=>∃ W:BelowW w,w'=W.val) (fun a'=>∀ w',(∃ W:BelowW w,w'=W.val)→Q .normal a' w') l a):(Code.region id l.toArray true).wp P Q a w :=
 wp_region_quiet (C:=fun w'=>∃ W:BelowW w,w'=W.val) hm hB ⟨⟨{ w with drawn:=w.drawn+1 },(Below.refl w.heap.size w).drew⟩,rfl⟩ (by simpa using h)
theorem Calls.below_of {P:Program} {f:FuncId} {args:Array Value} {w:World} {W:BelowW w} {v:Value}
  (h:Calls P f args W.val fun e w'=>e=.returned v∧Below W.val.heap.size W.val w'):Calls P f args W.val fun e w''=>e=.returned v∧∃ W':BelowW w,w''=W'.val :=
 h.mono fun _ w' ⟨he,hb⟩=>⟨he,⟨w',W.2.trans (hb.mono W.2.size)⟩,rfl⟩
theorem Calls.below_same {P:Program} {f:FuncId} {args:Array Value} {w:World} {W:BelowW w} {v:Value}
  (h:Calls P f args W.val fun e w'=>e=.returned v∧W.val=w'):Calls P f args W.val fun e w''=>e=.returned v∧∃ W':BelowW w,w''=W'.val :=
 h.mono fun _ _ ⟨he,hb⟩=>⟨he,W,hb.symm⟩
open Go.ChangeShapes Go.WideShapes Go.ChangeAt
def knownS (op:Int):Bool:=decide (0≤op) && decide (op≤29)
def usesS (op:Int):Bool × Bool × Bool :=
 if op=1∨op=2∨op=10∨op=11∨op=12∨op=13∨op=16∨op=17∨op=18∨op=25∨op=26 then (true,true,false)
 else if op=3∨op=4∨op=5∨op=6∨op=7∨op=8∨op=14∨op=15∨op=19∨op=20∨op=21 then (true,true,true)
 else if op=9 then (false,true,false)
 else if op=22∨op=29 then (true,false,false)
 else if op=23∨op=24 then (false,true,true)
 else (false,false,false)
def opsAll:List Int:=[0,1,2,3,4,5,6,7,8,9,10,11,12,13,14,15,16,17,18,19,20,21,22,23,24,25,26,27,28,29]
theorem op_cases {p:Int→Prop} (h:∀ op ∈ opsAll,p op) (hlo:∀ op,op<0→p op) (hhi:∀ op,29<op→p op) (op:Int):p op:=by
 rcases Int.lt_or_le op 0 with h1 | h1
 ·exact hlo op h1
 rcases Int.lt_or_le 29 op with h2 | h2
 ·exact hhi op h2
 ·refine h op ?_
  simp only[opsAll,List.mem_cons,List.not_mem_nil,or_false]
  omega
theorem ops_all {p:Int→Prop} (h0:p 0) (h1:p 1) (h2:p 2) (h3:p 3) (h4:p 4) (h5:p 5) (h6:p 6) (h7:p 7) (h8:p 8) (h9:p 9) (h10:p 10) (h11:p 11) (h12:p 12) (h13:p 13) (h14:p 14) (h15:p 15) (h16:p 16) (h17:p 17) (h18:p 18) (h19:p 19) (h20:p 20) (h21:p 21) (h22:p 22) (h23:p 23) (h24:p 24) (h25:p 25) (h26:p 26) (h27:p 27) (h28:p 28) (h29:p 29):∀ op ∈ opsAll,p op:=by
 intro op hop;simp only[opsAll,List.mem_cons,List.not_mem_nil,or_false] at hop
 rcases hop with rfl | rfl | rfl | rfl | rfl | rfl | rfl | rfl | rfl | rfl | rfl | rfl | rfl | rfl | rfl | rfl | rfl | rfl | rfl | rfl | rfl | rfl | rfl | rfl | rfl | rfl | rfl | rfl | rfl | rfl <;> assumption
theorem uses_out (op:Int) (h:op<0∨29<op):usesS op=(false,false,false):=by
 unfold usesS;rw[if_neg (by omega),if_neg (by omega),if_neg (by omega),if_neg (by omega),if_neg (by omega)]
theorem known_any (op:Int) (w:World) :
  Calls Tryz.prog 156 #[.int .i64 op] w fun e w'=>e=.returned (.bool (knownS op))∧w=w':=by
 unfold knownS
 go_enter Tryz.func156,Tryz.ntmps156
 go_wp2
 all_goals
  go_ret
  exact⟨by simp[*];try omega,rfl⟩
def UsesSaid (w:World) (op:Int):Prop:=Calls Tryz.prog 155 #[.int .i64 op] w fun e w'=>e=.returned (.tuple #[.bool (usesS op).1,.bool (usesS op).2.1,.bool (usesS op).2.2])∧w=w'
theorem uses_in (w:World):∀ op ∈ opsAll,UsesSaid w op:=by
 apply ops_all <;> (unfold UsesSaid;go_enter Tryz.func155,Tryz.ntmps155;go_wp2;go_ret3;exact⟨rfl,rfl⟩)
theorem uses_any (w:World) (op:Int):UsesSaid w op:=by
 refine op_cases (uses_in w) (fun op h=>?_) (fun op h=>?_) op
 all_goals
  unfold UsesSaid;rw[uses_out op (by omega)]
  go_enter Tryz.func155,Tryz.ntmps155
  go_wp2
  go_ret3
  exact⟨rfl,rfl⟩
structure Ins where (op a b c:Int)
def Ins.val (x:Ins):Value:=.agg #[.int .i64 x.op,.int .i64 x.a,.int .i64 x.b,.int .i64 x.c]
def Ins.cells (x:Ins):List Value:=[.int .i64 x.op,.int .i64 x.a,.int .i64 x.b,.int .i64 x.c]
def mayB (n:Int) (used:Bool):Bool:=used || n == 0
def unusedB (x:Ins):Bool:=mayB x.a (usesS x.op).1 && mayB x.b (usesS x.op).2.1 && mayB x.c (usesS x.op).2.2
def rightB (x:Ins):Bool:=knownS x.op && decide (0≤x.a) && decide (x.a≤255) && decide (0≤x.c) && decide (x.c≤255) && decide (wrap32 x.b=x.b) && unusedB x
theorem may_any (n:Int) (u:Bool) (w:World) :
  Calls Tryz.prog 157 #[.int .i64 n,.bool u] w fun e w'=>e=.returned (.bool (mayB n u))∧w=w':=by
 cases u
 all_goals
  go_enter Tryz.func157,Tryz.ntmps157
  go_wp2
  all_goals
   go_ret
   exact⟨by simp[mayB, *],rfl⟩
theorem right_any (x:Ins) (w:World) :
  Calls Tryz.prog 111 #[x.val] w fun e w'=>e=.returned (.bool (rightB x))∧Below w.heap.size w w':=by
 obtain⟨op,a,b,c⟩:=x
 show Calls Tryz.prog 111 #[.agg #[.int .i64 op,.int .i64 a,.int .i64 b,.int .i64 c]] w _
 have us:=fun w=>uses_any w op
 unfold UsesSaid at us;have kn:=known_any op;have o1:=of_any b;have hr:rightB ⟨op,a,b,c⟩=(knownS op && decide (0≤a) && decide (a≤255) && decide (0≤c) && decide (c≤255) && decide (wrap32 b=b) && (mayB a (usesS op).1 && mayB b (usesS op).2.1 && mayB c (usesS op).2.2)):=rfl;rw[hr];clear hr;generalize usesS op=u at *;obtain⟨u1,u2,u3⟩:=u
 dsimp only at us
 have hB:=w32_bd b;generalize hwb:wrap32 b=b' at *;clear hwb;generalize knownS op=kn0 at *;have OF:=k_ o1;have US:=k_ us;have KN:=k_ kn;clear o1 us kn
 cases kn0
 ·skip
  go_enter Tryz.func111,Tryz.ntmps111
  go_wp2_with fail;refine(US.out _).mono ?_;rintro e w' ⟨rfl,rfl⟩;go_wp2_with fail
  go_quiet (first | (go_at_call 156;exact Calls.quiet_of_same ((KN.out _).mono fun _ _ ⟨a,b⟩=>⟨a,b.symm⟩)) | (go_at_call 73;exact Calls.quiet_of_same ((OF.out _).mono fun _ _ ⟨a,b⟩=>⟨a,b.symm⟩)) | (go_at_call 157;exact Calls.quiet_of_same ((may_any _ _ _).mono fun _ _ ⟨a,b⟩=>⟨a,b.symm⟩)))
  go_wp2
  go_ret
  exact⟨by simp[*],below_drewN ((Below.refl _ _).alloc (Nat.le_refl _) _) _⟩
 by_cases h1:0≤a
 case neg =>
  have h1':decide (0≤a)=false:=by simpa using h1
  go_enter Tryz.func111,Tryz.ntmps111
  go_wp2_with fail;refine(US.out _).mono ?_;rintro e w' ⟨rfl,rfl⟩;go_wp2_with fail
  go_quiet (first | (go_at_call 156;exact Calls.quiet_of_same ((KN.out _).mono fun _ _ ⟨a,b⟩=>⟨a,b.symm⟩)) | (go_at_call 73;exact Calls.quiet_of_same ((OF.out _).mono fun _ _ ⟨a,b⟩=>⟨a,b.symm⟩)) | (go_at_call 157;exact Calls.quiet_of_same ((may_any _ _ _).mono fun _ _ ⟨a,b⟩=>⟨a,b.symm⟩)))
  go_wp2
  go_ret
  exact⟨by simp[*],below_drewN ((Below.refl _ _).alloc (Nat.le_refl _) _) _⟩
 by_cases h2:a≤255
 case neg =>
  have h2':decide (a≤255)=false:=by simpa using h2
  go_enter Tryz.func111,Tryz.ntmps111
  go_wp2_with fail;refine(US.out _).mono ?_;rintro e w' ⟨rfl,rfl⟩;go_wp2_with fail
  go_quiet (first | (go_at_call 156;exact Calls.quiet_of_same ((KN.out _).mono fun _ _ ⟨a,b⟩=>⟨a,b.symm⟩)) | (go_at_call 73;exact Calls.quiet_of_same ((OF.out _).mono fun _ _ ⟨a,b⟩=>⟨a,b.symm⟩)) | (go_at_call 157;exact Calls.quiet_of_same ((may_any _ _ _).mono fun _ _ ⟨a,b⟩=>⟨a,b.symm⟩)))
  go_wp2
  go_ret
  exact⟨by simp[*],below_drewN ((Below.refl _ _).alloc (Nat.le_refl _) _) _⟩
 by_cases h3:0≤c
 case neg =>
  have h3':decide (0≤c)=false:=by simpa using h3
  go_enter Tryz.func111,Tryz.ntmps111
  go_wp2_with fail;refine(US.out _).mono ?_;rintro e w' ⟨rfl,rfl⟩;go_wp2_with fail
  go_quiet (first | (go_at_call 156;exact Calls.quiet_of_same ((KN.out _).mono fun _ _ ⟨a,b⟩=>⟨a,b.symm⟩)) | (go_at_call 73;exact Calls.quiet_of_same ((OF.out _).mono fun _ _ ⟨a,b⟩=>⟨a,b.symm⟩)) | (go_at_call 157;exact Calls.quiet_of_same ((may_any _ _ _).mono fun _ _ ⟨a,b⟩=>⟨a,b.symm⟩)))
  go_wp2
  go_ret
  exact⟨by simp[*],below_drewN ((Below.refl _ _).alloc (Nat.le_refl _) _) _⟩
 by_cases h4:c≤255
 case neg =>
  have h4':decide (c≤255)=false:=by simpa using h4
  go_enter Tryz.func111,Tryz.ntmps111
  go_wp2_with fail;refine(US.out _).mono ?_;rintro e w' ⟨rfl,rfl⟩;go_wp2_with fail
  go_quiet (first | (go_at_call 156;exact Calls.quiet_of_same ((KN.out _).mono fun _ _ ⟨a,b⟩=>⟨a,b.symm⟩)) | (go_at_call 73;exact Calls.quiet_of_same ((OF.out _).mono fun _ _ ⟨a,b⟩=>⟨a,b.symm⟩)) | (go_at_call 157;exact Calls.quiet_of_same ((may_any _ _ _).mono fun _ _ ⟨a,b⟩=>⟨a,b.symm⟩)))
  go_wp2
  go_ret
  exact⟨by simp[*],below_drewN ((Below.refl _ _).alloc (Nat.le_refl _) _) _⟩
 by_cases h5:b'=b
 case neg =>
  have h5':(b' == b)=false:=by simpa using h5
  go_enter Tryz.func111,Tryz.ntmps111
  go_wp2_with fail;refine(US.out _).mono ?_;rintro e w' ⟨rfl,rfl⟩;go_wp2_with fail
  go_quiet (first | (go_at_call 156;exact Calls.quiet_of_same ((KN.out _).mono fun _ _ ⟨a,b⟩=>⟨a,b.symm⟩)) | (go_at_call 73;exact Calls.quiet_of_same ((OF.out _).mono fun _ _ ⟨a,b⟩=>⟨a,b.symm⟩)) | (go_at_call 157;exact Calls.quiet_of_same ((may_any _ _ _).mono fun _ _ ⟨a,b⟩=>⟨a,b.symm⟩)))
  go_wp2
  go_ret
  exact⟨by simp[*],below_drewN ((Below.refl _ _).alloc (Nat.le_refl _) _) _⟩
 subst h5
 cases h6:mayB a u1
 ·skip
  go_enter Tryz.func111,Tryz.ntmps111
  go_wp2_with fail;refine(US.out _).mono ?_;rintro e w' ⟨rfl,rfl⟩;go_wp2_with fail
  go_quiet (first | (go_at_call 156;exact Calls.quiet_of_same ((KN.out _).mono fun _ _ ⟨a,b⟩=>⟨a,b.symm⟩)) | (go_at_call 73;exact Calls.quiet_of_same ((OF.out _).mono fun _ _ ⟨a,b⟩=>⟨a,b.symm⟩)) | (go_at_call 157;exact Calls.quiet_of_same ((may_any _ _ _).mono fun _ _ ⟨a,b⟩=>⟨a,b.symm⟩)))
  go_wp2
  go_ret
  exact⟨by simp[*],below_drewN ((Below.refl _ _).alloc (Nat.le_refl _) _) _⟩
 cases h7:mayB b' u2
 ·skip
  go_enter Tryz.func111,Tryz.ntmps111
  go_wp2_with fail;refine(US.out _).mono ?_;rintro e w' ⟨rfl,rfl⟩;go_wp2_with fail
  go_quiet (first | (go_at_call 156;exact Calls.quiet_of_same ((KN.out _).mono fun _ _ ⟨a,b⟩=>⟨a,b.symm⟩)) | (go_at_call 73;exact Calls.quiet_of_same ((OF.out _).mono fun _ _ ⟨a,b⟩=>⟨a,b.symm⟩)) | (go_at_call 157;exact Calls.quiet_of_same ((may_any _ _ _).mono fun _ _ ⟨a,b⟩=>⟨a,b.symm⟩)))
  go_wp2
  go_ret
  exact⟨by simp[*],below_drewN ((Below.refl _ _).alloc (Nat.le_refl _) _) _⟩
 go_enter Tryz.func111,Tryz.ntmps111
 go_wp2_with fail;refine(US.out _).mono ?_;rintro e w' ⟨rfl,rfl⟩;go_wp2_with fail
 go_quiet (first | (go_at_call 156;exact Calls.quiet_of_same ((KN.out _).mono fun _ _ ⟨a,b⟩=>⟨a,b.symm⟩)) | (go_at_call 73;exact Calls.quiet_of_same ((OF.out _).mono fun _ _ ⟨a,b⟩=>⟨a,b.symm⟩)) | (go_at_call 157;exact Calls.quiet_of_same ((may_any _ _ _).mono fun _ _ ⟨a,b⟩=>⟨a,b.symm⟩)))
 go_wp2
 go_ret
 exact⟨by simp[*],below_drewN ((Below.refl _ _).alloc (Nat.le_refl _) _) _⟩
def byteOf (v:Int) (k:Nat):Int:=v / 256 ^ k % 256
def bv (n:Int):Value:=.int .u8 n
def laid4 (v:Int) (k:Nat):Array Value:=#[if 0<k then bv (byteOf v 0) else bv 0,if 1<k then bv (byteOf v 1) else bv 0,if 2<k then bv (byteOf v 2) else bv 0,if 3<k then bv (byteOf v 3) else bv 0]
theorem laid_0 (v:Int):laid4 v 0=#[.int .u8 0,.int .u8 0,.int .u8 0,.int .u8 0]:=rfl
theorem laid_1 (v:Int):laid4 v 1=#[.int .u8 (byteOf v 0),.int .u8 0,.int .u8 0,.int .u8 0]:=rfl
theorem laid_2 (v:Int):laid4 v 2=#[.int .u8 (byteOf v 0),.int .u8 (byteOf v 1),.int .u8 0,.int .u8 0]:=rfl
theorem laid_3 (v:Int):laid4 v 3=#[.int .u8 (byteOf v 0),.int .u8 (byteOf v 1),.int .u8 (byteOf v 2),.int .u8 0]:=rfl
theorem laid_4 (v:Int):laid4 v 4=#[.int .u8 (byteOf v 0),.int .u8 (byteOf v 1),.int .u8 (byteOf v 2),.int .u8 (byteOf v 3)]:=rfl
theorem byte_0 (v:Int):byteOf v 0=wrap32 v % 256:=by unfold byteOf wrap32;omega
theorem byte_1 (v:Int):byteOf v 1=wrap32 v % 4294967296 / 256 % 256:=by unfold byteOf wrap32;omega
theorem byte_2 (v:Int):byteOf v 2=wrap32 v % 4294967296 / 65536 % 256:=by unfold byteOf wrap32;omega
theorem byte_3 (v:Int):byteOf v 3=wrap32 v % 4294967296 / 16777216:=by unfold byteOf wrap32;omega
theorem bytes_any (v:Int) (w:World) :
  Calls Tryz.prog 48 #[.int .i64 v] w fun e w'=>e=.returned (.slice (some ⟨w.heap.size,0,none⟩) 4 4)∧w'=w.alloc (.cells (laid4 v 4) 5):=by
 have hb:=w32_bd v;have hmk:∀ w,(Instr.makeSlice 30 (.int .i64 4) (.int .i64 4)).run Tryz.prog w=.ok (.slice (some ⟨w.heap.size,0,none⟩) 4 4) (w.alloc (.cells #[.int .u8 0,.int .u8 0,.int .u8 0,.int .u8 0] 5)):=fun _=>by kernel_rfl
 go_enter Tryz.func48,Tryz.ntmps48
 go_wp2_with (first | (go_at_call 73;refine(of_any _ _).mono ?_;rintro e w' ⟨rfl,rfl⟩))
 go_loopw [13] (fun i wr=>∃ k:Nat,k≤4∧i=.int .i64 k∧wr=w.alloc (.cells (laid4 v k) 5)) (fun i _=>4 - (intOf i).toNat)
 case atStart=>exact⟨0,by omega,rfl,rfl⟩
 case round =>
  obtain⟨k,hk,rfl,rfl⟩:=hrel;have hc:k=0∨k=1∨k=2∨k=3∨k=4:=by omega
  rcases hc with rfl | rfl | rfl | rfl | rfl
  ·rw[laid_0]
   go_wp2
   go_roundw
   case rel=>exact⟨1,by omega,rfl,by rw[laid_1,byte_0]⟩
   case measure=>simp[intOf]
  ·rw[laid_1]
   go_wp2
   go_roundw
   case rel=>exact⟨2,by omega,rfl,by rw[laid_2,byte_1]⟩
   case measure=>simp[intOf]
  ·rw[laid_2]
   go_wp2
   go_roundw
   case rel=>exact⟨3,by omega,rfl,by rw[laid_3,byte_2]⟩
   case measure=>simp[intOf]
  ·rw[laid_3]
   go_wp2
   go_roundw
   case rel=>exact⟨4,by omega,rfl,by rw[laid_4,byte_3]⟩
   case measure=>simp[intOf]
  ·go_wp2
   go_ret
   exact⟨rfl,rfl⟩
theorem or_join (x y:Int) (i:Nat) (hx0:0≤x) (hx:x<2 ^ i) (hx1:x<2 ^ 32) (hy0:0≤y) (hy:y % 2 ^ i=0) (hy1:y<2 ^ 32):bits .or .u32 x y=x+y:=by
 have hc:bits .or .u32 x y=bits .or .u32 y x:=by simp only[bits,BitVec.or_comm]
 rw[hc,bits_join .u32 32 (by decide) (fun n h0 h1=>by rw[IntKind.wrap_u32];omega) i y x hy0 hy hy1 hx0 hx hx1]
 omega
def readV (b0 b1 b2 b3:Int):Int:=wrap32 (b0+256 * b1+65536 * b2+16777216 * b3)
def partV (b0 b1 b2 b3:Int) (k:Nat):Int:=if k=0 then 0 else if k=1 then b0 else if k=2 then b0+256 * b1 else if k=3 then b0+256 * b1+65536 * b2 else b0+256 * b1+65536 * b2+16777216 * b3
theorem read_any (b o n c:Nat) (w:World) (b0 b1 b2 b3:Int) (hn:4≤n) (hn2:n≤9223372036854775807)
  (hb:0≤b0∧b0<256∧0≤b1∧b1<256∧0≤b2∧b2<256∧0≤b3∧b3<256)
  (c0:w.cell? ⟨b,o,none⟩=some (.int .u8 b0)) (c1:w.cell? ⟨b,o+1,none⟩=some (.int .u8 b1)) (c2:w.cell? ⟨b,o+2,none⟩=some (.int .u8 b2)) (c3:w.cell? ⟨b,o+3,none⟩=some (.int .u8 b3)) :
  Calls Tryz.prog 80 #[.slice (some ⟨b,o,none⟩) n c] w fun e w'=>e=.returned (.tuple #[.int .i64 (readV b0 b1 b2 b3),.bool true])∧w=w':=by
 have j0:bits .or .u32 0 b0=b0:=by rw[or_join 0 b0 0 (by omega) (by omega) (by omega) (by omega) (by omega) (by omega)];omega
 have j1:bits .or .u32 b0 (b1 * 256)=b0+256 * b1:=by rw[or_join b0 _ 8 (by omega) (by omega) (by omega) (by omega) (by omega) (by omega)];omega
 have j2:bits .or .u32 (b0+256 * b1) (b2 * 65536)=b0+256 * b1+65536 * b2:=by rw[or_join _ _ 16 (by omega) (by omega) (by omega) (by omega) (by omega) (by omega)];omega
 have j3:bits .or .u32 (b0+256 * b1+65536 * b2) (b3 * 16777216)=b0+256 * b1+65536 * b2+16777216 * b3:=by rw[or_join _ _ 24 (by omega) (by omega) (by omega) (by omega) (by omega) (by omega)];omega
 go_enter Tryz.func80,Tryz.ntmps80
 go_wp2
 go_loop [4,9] (fun u i=>∃ k:Nat,k≤4∧i=.int .i64 k∧u=.int .u32 (partV b0 b1 b2 b3 k)) (fun _ i=>4 - (intOf i).toNat)
 case atStart=>exact⟨0,by omega,rfl,rfl⟩
 case round =>
  obtain⟨k,hk,rfl,rfl⟩:=hrel;have hc:k=0∨k=1∨k=2∨k=3∨k=4:=by omega
  rcases hc with rfl | rfl | rfl | rfl | rfl
  ·rw[show partV b0 b1 b2 b3 0=0 from rfl]
   go_wp2
   go_round
   case rel=>exact⟨1,by omega,rfl,rfl⟩
   case measure=>simp[intOf]
  ·rw[show partV b0 b1 b2 b3 1=b0 from rfl]
   go_wp2
   go_round
   case rel=>exact⟨2,by omega,rfl,rfl⟩
   case measure=>simp[intOf]
  ·rw[show partV b0 b1 b2 b3 2=b0+256 * b1 from rfl]
   go_wp2
   go_round
   case rel=>exact⟨3,by omega,rfl,rfl⟩
   case measure=>simp[intOf]
  ·rw[show partV b0 b1 b2 b3 3=b0+256 * b1+65536 * b2 from rfl]
   go_wp2
   go_round
   case rel=>exact⟨4,by omega,rfl,rfl⟩
   case measure=>simp[intOf]
  ·rw[show partV b0 b1 b2 b3 4=b0+256 * b1+65536 * b2+16777216 * b3 from rfl]
   go_wp2
   go_ret2
   exact⟨by simp[readV,w64_w32],rfl⟩
theorem bytesRow_get (s:ByteArray) (cap j:Nat) (h:j<s.size):(bytesRow s cap)[j]?=some (.int .u8 (s[j]).toNat):=by
 unfold bytesRow
 rw[Array.getElem?_append_left (by simpa using h)]
 simp[h]
 rfl
theorem conv_bytes (w:World) (s:ByteArray):∃ c W1,(convert 9 30 (.string s)).run Tryz.prog w=.ok (.slice (some ⟨w.heap.size,0,none⟩) s.size c) W1
  ∧ Below w.heap.size w W1∧∀ j (h:j<s.size),W1.cell? ⟨w.heap.size,j,none⟩=some (.int .u8 (s[j]).toNat):=by
 refine⟨_,_,run_bytes_of_string w 9 30 5 s Tryz.underlying9 Tryz.underlying30 Tryz.underlying5,?_,fun j h=>?_⟩
 ·exact((Below.refl _ _).drew).alloc (Nat.le_refl _) _
 ·have e:w.heap.size=w.drew.heap.size:=rfl
  rw[e,cell_new];exact bytesRow_get s _ j h
end Go.Proofs.YtlofbhoicbemnaaGreatDoor
namespace Go.Proofs.YtlofbhoicbemnaaGreatDoor
open Go.RowKit
theorem World.block_lt {w:World} {a:Addr} {v:Value} (h:w.cell? a=some v):a.block<w.heap.size:=by
 unfold World.cell? at h
 rcases Nat.lt_or_ge a.block w.heap.size with h' | h'
 ·exact h'
 ·rw[Array.getElem?_eq_none h'] at h;cases h
theorem below_cell {w w':World} (hb:Below w.heap.size w w') {a:Addr} {v:Value} (h:w.cell? a=some v):w'.cell? a=some v:=by
 rw[hb.cell (World.block_lt h)];exact h
theorem owns_below {w w':World} {base:Nat} {e:TypeId} {size:Nat} {v:Value} {n:Nat} {xs:List Value} (h:w.ownsRow base e size v n xs) (hb:Below w.heap.size w w'):w'.ownsRow base e size v n xs:=by
 obtain⟨h1,h2⟩:=h;refine⟨h1,?_⟩
 rcases h2 with h2 | ⟨g,cap,cur,hv,hg,hh,hr⟩
 ·exact .inl h2
 ·have hlt:g<w.heap.size:=by
   rcases Nat.lt_or_ge g w.heap.size with h' | h'
   ·exact h'
   ·rw[Array.getElem?_eq_none h'] at hh;cases hh
  exact .inr ⟨g,cap,cur,hv,hg,by rw[hb.block g hlt];exact hh,hr⟩
theorem below_grown {B:Nat} {a w w':World} {base:Nat} {e:TypeId} {size:Nat} {v:Value} {n:Nat} {xs:List Value} (h:Below B a w) (hown:w.ownsRow base e size v n xs) (hg:w.grownBy w' v.ownBlock) (hB:B≤w.heap.size) (hb:B≤base):Below B a w' :=
 h.grown hg hB (fun k hk=>Nat.le_trans hb (hown.lt k hk).1)
theorem cell_grown {w w':World} {row:Option Nat} (hg:w.grownBy w' row) {a:Addr} {v:Value} (h:w.cell? a=some v) (hne:row≠some a.block):w'.cell? a=some v :=
 hg.cell h (fun e=>hne e.symm)
structure Elem (P:Program) (α:Type) where
 e:TypeId
 t:TypeId
 size:Nat
 bytes:Nat
 zero:Value
 enc:α→List Value
 ht:P.underlying t=some (.slice e)
 info:(P.info? e).map (fun i=>(i.zero,i.size,i.bytes))=some (some zero,size,bytes)
 hzs:zero.cells.size=size
 hsz:0<size
 hby:bytes≤1000
 henc:∀ x,(enc x).length=size
 hone:∀ x,∀ u ∈ enc x,u.oneCell'=true
variable {P:Program} {α:Type}
theorem Elem.len (E:Elem P α) (l:List α):(l.flatMap E.enc).length=l.length * E.size:=by
 induction l with
 | nil=>simp
 | cons x l ih=>rw[List.flatMap_cons,List.length_append,ih,E.henc,List.length_cons,Nat.add_mul];omega
def Own (E:Elem P α) (w:World) (B:Nat) (v:Value) (l:List α):Prop:=w.ownsRow B E.e E.size v l.length (l.flatMap E.enc)
theorem Own.nil (E:Elem P α) (w:World) (B:Nat):Own E w B (.slice none 0 0) []:=World.ownsRow_nil _ _ _ _
theorem Own.below {E:Elem P α} {w w':World} {B:Nat} {v:Value} {l:List α} (h:Own E w B v l) (hb:Below w.heap.size w w'):Own E w' B v l:=owns_below h hb
theorem Own.alloc {E:Elem P α} {w:World} {B:Nat} {v:Value} {l:List α} (h:Own E w B v l) (o:Obj):Own E (w.alloc o) B v l:=World.ownsRow.alloc h o
theorem Own.drew {E:Elem P α} {w:World} {B:Nat} {v:Value} {l:List α} (h:Own E w B v l):Own E w.drew B v l:=h
def CellsAt (w:World) (b o:Nat) (cs:List Value):Prop:=∀ j u,cs[j]?=some u→w.cell? ⟨b,o+j,none⟩=some u
theorem CellsAt.below {w w':World} {b o:Nat} {cs:List Value} (h:CellsAt w b o cs) (hb:Below w.heap.size w w'):CellsAt w' b o cs:=fun j u hj=>below_cell hb (h j u hj)
theorem CellsAt.new (w:World) (cs:Array Value) (t:TypeId) (fz:Nat × Nat):CellsAt (w.alloc (.cells cs t fz)) w.heap.size 0 cs.toList:=fun j u hj=>by
 rw[Nat.zero_add,cell_new];simpa using hj
theorem CellsAt.new' {w:World} {g:Nat} (cs:Array Value) (t:TypeId) (fz:Nat × Nat) (hg:g=w.heap.size):CellsAt (w.alloc (.cells cs t fz)) g 0 cs.toList:=by
 subst hg;exact CellsAt.new w cs t fz
theorem append_own (E:Elem P α) {ops:Array Oper} {rest:List Oper} {o:Oper} {a:Act} {Q:Exit→Act→World→Prop} {w:World} (hgd:o.guard=none) (s x:Operand)
  (ho:o.op=.call { callee:=.builtin .append,args:=#[s,x],argTypes:=#[E.t,E.t] })
  (B:Nat) (l m:List α) (v:Value) (hs:a.eval s=v) (hown:Own E w B v l) (b of c:Nat) (hx:a.eval x=.slice (some ⟨b,of,none⟩) m.length c)
  (hm:CellsAt w b of (m.flatMap E.enc)) (hlen:l.length+m.length≤100000000) (hB:B≤w.heap.size)
  (h:∀ v' w',Own E w' B v' (l ++ m)→w.grownBy w' v.ownBlock→wpList P ops Q rest (a.put o.dst v') w'):wpList P ops Q (o :: rest) a w:=by
 obtain⟨i0,hi,hz0,hz1,hz2⟩:=info_parts E.info;refine wpList_append_own _ hgd s x E.t ho B E.e i0 E.zero E.size E.bytes E.ht hi hz0 hz1 hz2 E.hzs E.hsz v l.length (l.flatMap E.enc) hs hown ⟨b,of,none⟩ m.length c (m.flatMap E.enc) hx (E.len m) ?_ ?_ ?_ ?_ hB ?_
 ·intro j u hj
  have:=hm j u hj;unfold Addr.add
  by_cases h0:j=0
  ·subst h0;rw[if_pos rfl];exact this
  ·rw[if_neg h0];exact this
 ·intro u hu
  obtain⟨y,_,hy⟩:=List.mem_flatMap.1 hu;exact E.hone y u hy
 ·unfold maxLen;omega
 ·have h1:=E.hby
  have h2:(l.length+m.length) * E.bytes≤100000000 * 1000:=Nat.mul_le_mul hlen h1
  omega
 ·intro v' w' ho' hg _
  refine h v' w' ?_ hg;unfold Own;rw[List.length_append,List.flatMap_append];exact ho'
end Go.Proofs.YtlofbhoicbemnaaGreatDoor
namespace Go.Proofs.YtlofbhoicbemnaaGreatDoor
open Go.ChangeShapes Go.WideShapes Go.ChangeAt Go.RowKit
def u8E:Elem Tryz.prog Int where
 e:=5
 t:=30
 size:=1
 bytes:=1
 zero:=.int .u8 0
 enc:=fun n=>[.int .u8 n]
 ht:=Tryz.underlying30
 info:=by kernel_rfl
 hzs:=rfl
 hsz:=by decide
 hby:=by decide
 henc:=fun _=>rfl
 hone:=fun x u h=>by simp at h;subst h;rfl
def intE:Elem Tryz.prog Int where
 e:=3
 t:=44
 size:=1
 bytes:=8
 zero:=.int .i64 0
 enc:=fun n=>[.int .i64 n]
 ht:=Tryz.underlying44
 info:=by kernel_rfl
 hzs:=rfl
 hsz:=by decide
 hby:=by decide
 henc:=fun _=>rfl
 hone:=fun x u h=>by simp at h;subst h;rfl
def insE:Elem Tryz.prog Ins where
 e:=63
 t:=64
 size:=4
 bytes:=32
 zero:=.agg #[.int .i64 0,.int .i64 0,.int .i64 0,.int .i64 0]
 enc:=Ins.cells
 ht:=Tryz.underlying64
 info:=by kernel_rfl
 hzs:=rfl
 hsz:=by decide
 hby:=by decide
 henc:=fun _=>rfl
 hone:=fun x u h=>by simp[Ins.cells] at h;rcases h with rfl | rfl | rfl | rfl <;> rfl
theorem u8_map (l:List Int):l.flatMap u8E.enc=l.map (Value.int .u8):=by
 induction l with
 | nil=>rfl
 | cons x l ih=>rw[List.flatMap_cons,ih];rfl
theorem own_str {w:World} {B:Nat} {v:Value} {l:List Int} (h:Own u8E w B v l):(convert 30 9 v).run Tryz.prog w=.ok (.string (bytesS l)) w:=by
 have hc:=fun g hg=>World.ownsRow.cells (g:=g) h hg
 obtain⟨h1,h2⟩:=h
 rcases h2 with⟨rfl,h0⟩ | ⟨g,cap,cur,rfl,hg,hh,hr⟩
 ·have:l=[]:=List.length_eq_zero_iff.1 h0
  subst this;rw[run_convert_bytes_string w 30 9 5 _ _ _ Tryz.underlying30 Tryz.underlying5 Tryz.underlying9]
  rfl
 ·exact run_str w 30 9 5 ⟨g,0,none⟩ cap l Tryz.underlying30 Tryz.underlying5 Tryz.underlying9 (by
   have:=hc g rfl;rw[u8_map] at this;exact this)
def InsAt (w:World) (b o:Nat) (x:Ins):Prop:=w.cell? ⟨b,o,none⟩=some (.int .i64 x.op)∧w.cell? ⟨b,o+1,none⟩=some (.int .i64 x.a)∧w.cell? ⟨b,o+2,none⟩=some (.int .i64 x.b)∧w.cell? ⟨b,o+3,none⟩=some (.int .i64 x.c)
def InsSl (w:World) (a:Option Addr) (l:List Ins):Prop:=∀ j (hj:j<l.length),∃ b o,a=some ⟨b,o,none⟩∧InsAt w b (o+j * 4) l[j]
theorem InsAt.below {w w':World} {b o:Nat} {x:Ins} (h:InsAt w b o x) (hb:Below w.heap.size w w'):InsAt w' b o x :=
 ⟨below_cell hb h.1,below_cell hb h.2.1,below_cell hb h.2.2.1,below_cell hb h.2.2.2⟩
theorem InsSl.below {w w':World} {a:Option Addr} {l:List Ins} (h:InsSl w a l) (hb:Below w.heap.size w w'):InsSl w' a l:=fun j hj=>by
 obtain⟨b,o,h1,h2⟩:=h j hj;exact⟨b,o,h1,h2.below hb⟩
theorem take_snoc {α:Type} (l:List α) (k:Nat) (h:k<l.length):l.take (k+1)=l.take k ++ [l[k]]:=by
 rw[List.take_succ_eq_append_getElem h]
theorem flat_cells (l:List Ins) (j r:Nat) (hj:j<l.length) (hr:r<4):(l.flatMap Ins.cells)[j * 4+r]?=(l[j].cells)[r]?:=by
 induction l generalizing j with
 | nil=>cases hj
 | cons x l ih =>
   rw[List.flatMap_cons]
   cases j with
   | zero =>
     rw[List.getElem?_append_left (by simpa[Ins.cells] using hr)];simp
   | succ j =>
     rw[List.getElem?_append_right (by simp[Ins.cells];omega)];have:(j+1) * 4+r - x.cells.length=j * 4+r:=by simp[Ins.cells];omega
     rw[this,ih j (by simpa using hj)]
     rfl
theorem own_ins {w:World} {B:Nat} {v:Value} {l:List Ins} (h:Own insE w B v l):∃ a c,v=.slice a l.length c∧InsSl w a l:=by
 have hc:=fun g hg=>World.ownsRow.cells (g:=g) h hg
 obtain⟨h1,h2⟩:=h
 rcases h2 with⟨rfl,h0⟩ | ⟨g,cap,cur,rfl,hg,hh,hr⟩
 ·have:l=[]:=List.length_eq_zero_iff.1 h0
  subst this;exact⟨none,0,rfl,fun j hj=>by cases hj⟩
 ·refine⟨_,cap,rfl,fun j hj=>⟨g,0,rfl,?_⟩⟩
  have hg:=hc g rfl;have hf:=flat_cells l j;have hadd:∀ n,(⟨g,0,none⟩:Addr).add n=⟨g,n,none⟩:=fun n=>by
   unfold Addr.add;split
   ·subst n;rfl
   ·simp
  have q:∀ r (hr:r<4) u,(l[j].cells)[r]?=some u→w.cell? ⟨g,j * 4+r,none⟩=some u:=fun r hr u hu=>by
   have:=hg (j * 4+r) u (by rw[← hu];exact hf r hj hr);rw[hadd] at this;exact this
  have e:(0:Nat)+j * 4=j * 4:=by omega
  rw[e];exact⟨q 0 (by omega) _ rfl,q 1 (by omega) _ rfl,q 2 (by omega) _ rfl,q 3 (by omega) _ rfl⟩
def Ins.wf (x:Ins):Prop:=(-9223372036854775808≤x.op∧x.op≤9223372036854775807)∧(-9223372036854775808≤x.a∧x.a≤9223372036854775807)∧(-9223372036854775808≤x.b∧x.b≤9223372036854775807)∧(-9223372036854775808≤x.c∧x.c≤9223372036854775807)
instance : Inhabited Ins := ⟨⟨0, 0, 0, 0⟩⟩
variable {H:Type} {enc:TypeId × Value→H}
theorem cells_ints:Tryz.prog.cellsOf 3=1∧Tryz.prog.cellsOf 63=4:=⟨by kernel_rfl,by kernel_rfl⟩
theorem trod_one {w:World} {base:Nat} {sp:Nat→Bool} {hd:Bool} {n:Nat} {u:Value} {x:DataW H × List MemPlace} (h:DataW.trod enc Tryz.prog w base sp hd n 3 [u]=some x):∃ z,u=.int .i64 z∧-9223372036854775808≤z∧z≤9223372036854775807:=by
 obtain⟨z,h1,_,h3⟩:=DataW.trod_int Tryz.underlying3 h;simp only[List.cons.injEq,and_true] at h1;have:=bounds_i64 h3;exact⟨z,h1,this⟩
theorem plain_addr {w:World} {a:Addr} {v:Value} (h:w.cell? a=some v):a=⟨a.block,a.off,none⟩:=by
 obtain⟨b,o,s⟩:=a
 cases s with
 | none=>rfl
 | some s =>
   unfold World.cell? at h
   split at h
   ·cases h
   ·cases h
theorem addr_add (a:Addr) (hs:a.spot=none) (n:Nat):a.add n=⟨a.block,a.off+n,none⟩:=by
 unfold Addr.add
 split
 ·subst n;obtain⟨b,o,s⟩:=a;dsimp only at hs;subst hs;rfl
 ·obtain⟨b,o,s⟩:=a;dsimp only at hs;subst hs;rfl
end Go.Proofs.YtlofbhoicbemnaaGreatDoor
namespace Go.Proofs.YtlofbhoicbemnaaGreatDoor
open Go.ChangeShapes Go.WideShapes Go.ChangeAt Go.RowKit
def layI (x:Ins):List Int:=[x.op % 256,x.a % 256,x.c % 256,byteOf x.b 0,byteOf x.b 1,byteOf x.b 2,byteOf x.b 3]
def layL (l:List Ins):List Int:=l.flatMap layI
def laid (l:List Ins):Bool:=l.all rightB
def layRes (l:List Ins):Value:=if laid l then .tuple #[.string (bytesS (layL l)),.int .i64 0] else .tuple #[.string ⟨#[]⟩,.int .i64 1]
theorem layRes_no (l:List Ins) (k:Nat) (hk:k<l.length) (h:rightB l[k]=false):layRes l=.tuple #[.string ⟨#[]⟩,.int .i64 1]:=by
 have:laid l=false:=by
  unfold laid;rw[List.all_eq_false];exact⟨l[k],List.getElem_mem hk,by simp[h]⟩
 simp[layRes,this]
theorem layL_snoc (l:List Ins) (x:Ins):layL (l ++ [x])=layL l ++ layI x:=by simp[layL]
theorem laid_snoc (l:List Ins) (x:Ins):laid (l ++ [x])=(laid l && rightB x):=by simp[laid]
theorem layL_len (l:List Ins):(layL l).length=7 * l.length:=by
 induction l with
 | nil=>rfl
 | cons x l ih=>simp[layL,layI] at *;omega
theorem lay_any (l:List Ins) (a:Option Addr) (c:Nat) (w:World) (hl:l.length≤100000) (hc:InsSl w a l) :
  Calls Tryz.prog 90 #[.slice a l.length c] w fun e w'=>e=.returned (layRes l)∧Below w.heap.size w w':=by
 have HC:=k_ hc;clear hc;have hby:=bytes_any
 have HBY:=k_ hby;clear hby
 go_enter Tryz.func90,Tryz.ntmps90
 go_wp2_with fail
 go_loopw [4,9] (fun v i wr=>∃ k:Nat,k≤l.length∧i=.int .i64 k∧Own u8E wr w.heap.size v (layL (l.take k))∧Below w.heap.size w wr∧laid (l.take k)=true) (fun _ i _=>l.length - (intOf i).toNat)
 case atStart=>exact⟨0,Nat.zero_le _,rfl,Own.nil _ _ _,Below.refl _ _,rfl⟩
 case round =>
  obtain⟨k,hk,rfl,hown,hB,hlaid⟩:=hrel
  by_cases hlt:k<l.length
  ·have hx:=HC.out.below hB k hlt
   obtain⟨b,o,rfl,hx0,hx1,hx2,hx3⟩:=hx;have HB:=k_ hB;clear hB;have HL:=k_ hlaid;clear hlaid;have HO:=k_ hown;clear hown;obtain⟨x,hxe⟩:∃ x,x=l[k]:=⟨_,rfl⟩;rw[← hxe] at hx0 hx1 hx2 hx3;have HXE:=k_ hxe;clear hxe;have hr:=right_any x;obtain⟨xop,xa,xb,xc⟩:=x;have hr:∀ w,Calls Tryz.prog 111 #[.agg #[.int .i64 xop,.int .i64 xa,.int .i64 xb,.int .i64 xc]] w fun e w'=>e=.returned (.bool (rightB ⟨xop,xa,xb,xc⟩))∧Below w.heap.size w w':=hr
   obtain⟨rb,hrb⟩:∃ rb,rb=rightB ⟨xop,xa,xb,xc⟩:=⟨_,rfl⟩;rw[← hrb] at hr;have HRB:=k_ hrb;clear hrb;have HR:=k_ hr;clear hr
   dsimp only at hx0 hx1 hx2 hx3
   go_wp2_with fail;refine(HR.out _).mono ?_;rintro e w1 ⟨rfl,hb1⟩
   cases rb
   ·clear hx0 hx1 hx2 hx3
    go_wp2_with fail
    go_ret2
    exact⟨by rw[layRes_no l k hlt (by rw[← HXE.out,← HRB.out])];rfl,(HB.out.alloc HB.out.size _).trans (hb1.mono (by have:=HB.out.size;simp;omega))⟩
   ·have hown1:=Own.below (HO.out.alloc (.cells #[.int .i64 xop,.int .i64 xa,.int .i64 xb,.int .i64 xc] 63)) hb1
    have q0:=below_cell hb1 (cell_new wr #[.int .i64 xop,.int .i64 xa,.int .i64 xb,.int .i64 xc] 63 (0,0) 0);have q1:=below_cell hb1 (cell_new wr #[.int .i64 xop,.int .i64 xa,.int .i64 xb,.int .i64 xc] 63 (0,0) 1);have q2:=below_cell hb1 (cell_new wr #[.int .i64 xop,.int .i64 xa,.int .i64 xb,.int .i64 xc] 63 (0,0) 2);have q3:=below_cell hb1 (cell_new wr #[.int .i64 xop,.int .i64 xa,.int .i64 xb,.int .i64 xc] 63 (0,0) 3);have hB1:Below w.heap.size w w1:=(HB.out.alloc HB.out.size _).trans (hb1.mono (by have:=HB.out.size;simp;omega));have HB1:=k_ hB1;clear hB1;have HO1:=k_ hown1;clear hown1;clear hb1
    go_wp2_with (at_builtin;refine append_own u8E rfl (.tmp 16) (.tmp 26) rfl w.heap.size (layL (l.take k)) [xop % 256,xa % 256,xc % 256] _ rfl (HO1.out.alloc _) w1.heap.size 0 3 rfl (CellsAt.new _ _ _ _) ?c1 ?c2 ?_)
    case c1=>rw[layL_len];simp;omega
    case c2=>have:=HB1.out.size;simp;omega
    intro v2 w2 hown2 hg2;have hB2:=k_ (below_grown (HB1.out.alloc HB1.out.size _) (HO1.out.alloc _) hg2 (by have:=HB1.out.size;simp;omega) (Nat.le_refl _));have r2:=cell_grown hg2 ((cell_under _ (.cells #[.int .u8 (xop % 256),.int .u8 (xa % 256),.int .u8 (xc % 256)] 5) (World.block_lt q2)).trans q2) (fun e=>absurd (World.ownsRow.lt HO.out _ e).2 (Nat.lt_irrefl _));have HO2:=k_ hown2;clear hown2;clear q0 q1 q2 q3 hg2 hx0 hx1 hx2 hx3;go_wp2_with fail;refine(HBY.out _ _).mono ?_;rintro e w3 ⟨rfl,rfl⟩
    go_wp2_with (at_builtin;refine append_own u8E rfl (.tmp 28) (.tmp 31) rfl w.heap.size (layL (l.take k) ++ [xop % 256,xa % 256,xc % 256]) [byteOf xb 0,byteOf xb 1,byteOf xb 2,byteOf xb 3] _ rfl (HO2.out.alloc _) w2.heap.size 0 4 rfl (CellsAt.new _ _ _ _) ?d1 ?d2 ?_)
    case d1=>rw[List.length_append,layL_len];simp;omega
    case d2=>have:=hB2.out.size;simp;omega
    intro v3 w3 hown3 hg3;have hB3:=k_ (below_grown (hB2.out.alloc hB2.out.size _) (HO2.out.alloc _) hg3 (by have:=hB2.out.size;simp;omega) (Nat.le_refl _));have HO3:=k_ hown3;clear hown3;clear hg3 r2;go_wp2_with fail
    go_roundw
    case rel =>
     refine⟨k+1,by omega,by go_num,?_,hB3.out,?_⟩
     ·rw[take_snoc l k hlt,layL_snoc,← HXE.out]
      exact HO3.out
     ·rw[take_snoc l k hlt,laid_snoc,← HXE.out,← HRB.out,HL.out];rfl
    case measure=>simp[intOf];omega
  ·have hk':k=l.length:=by omega
   subst hk';rw[List.take_length] at hown hlaid;have hcv:=own_str hown;have hres:layRes l=.tuple #[.string (bytesS (layL l)),.int .i64 0]:=by simp[layRes,hlaid]
   have HR:=k_ hres;have HB:=k_ hB;clear hres hB hown hlaid;go_wp2_with fail
   go_ret2
   exact⟨by rw[HR.out];rfl,HB.out⟩
end Go.Proofs.YtlofbhoicbemnaaGreatDoor
