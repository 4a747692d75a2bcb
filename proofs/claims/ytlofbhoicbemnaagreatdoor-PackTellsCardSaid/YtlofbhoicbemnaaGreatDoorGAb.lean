/- Walks: the bytes of a number (package word and the reference). The element types: bytes, numbers, instructions. Walk: instr.Lay. Walk: .. -/
import Derived.Test.YtlofbhoicbemnaaGreatDoorGAa
import Derived.Laws.IdiomStrings
import Derived.RegionTactic
import Derived.ChangeAlike
import Derived.Deep.Slices
set_option linter.unusedVariables false
set_option linter.unusedSimpArgs false
set_option maxRecDepth 100000
set_option maxHeartbeats 1600000
namespace Go.Proofs.YtlofbhoicbemnaaGreatDoor
open Go.ChangeShapes Go.WideShapes Go.ChangeAt Go.RowKit
def byteOf (v:Int) (k:Nat):Int:=v / 256 ^ k % 256
def bv (n:Int):Value:=.int .u8 n
def nD (v:Int) (k:Nat):Array Value:=#[if 0<k then bv (byteOf v 0) else bv 0,if 1<k then bv (byteOf v 1) else bv 0,if 2<k then bv (byteOf v 2) else bv 0,if 3<k then bv (byteOf v 3) else bv 0]
theorem JA (v:Int):nD v 0=#[.int .u8 0,.int .u8 0,.int .u8 0,.int .u8 0]:=rfl
theorem Gi (v:Int):nD v 1=#[.int .u8 (byteOf v 0),.int .u8 0,.int .u8 0,.int .u8 0]:=rfl
theorem Gg (v:Int):nD v 2=#[.int .u8 (byteOf v 0),.int .u8 (byteOf v 1),.int .u8 0,.int .u8 0]:=rfl
theorem D6 (v:Int):nD v 3=#[.int .u8 (byteOf v 0),.int .u8 (byteOf v 1),.int .u8 (byteOf v 2),.int .u8 0]:=rfl
theorem EK (v:Int):nD v 4=#[.int .u8 (byteOf v 0),.int .u8 (byteOf v 1),.int .u8 (byteOf v 2),.int .u8 (byteOf v 3)]:=rfl
theorem Jj (v:Int):byteOf v 0=wrap32 v % 256:=by unfold byteOf wrap32;omega
theorem JL (v:Int):byteOf v 1=wrap32 v % 4294967296 / 256 % 256:=by unfold byteOf wrap32;omega
theorem Jk (v:Int):byteOf v 2=wrap32 v % 4294967296 / 65536 % 256:=by unfold byteOf wrap32;omega
theorem JH (v:Int):byteOf v 3=wrap32 v % 4294967296 / 16777216:=by unfold byteOf wrap32;omega
theorem qg (v:Int) (w:World) :
  Calls Tryz.prog 48 #[.int .i64 v] w fun e w'=>e=.returned (.slice (some ⟨w.heap.size,0,none⟩) 4 4)∧w'=w.alloc (.cells (nD v 4) 5):=by
 have hb:=zR v;have hmk:∀ w,(Instr.makeSlice 30 (.int .i64 4) (.int .i64 4)).run Tryz.prog w=.ok (.slice (some ⟨w.heap.size,0,none⟩) 4 4) (w.alloc (.cells #[.int .u8 0,.int .u8 0,.int .u8 0,.int .u8 0] 5)):=fun _=>by kernel_rfl
 go_enter Tryz.func48,Tryz.ntmps48
 go_wp2_with (first | (go_at_call 73;refine(A7 _ _).mono ?_;rintro e w' ⟨rfl,rfl⟩))
 go_loopw [13] (fun i wr=>∃ k:Nat,k≤4∧i=.int .i64 k∧wr=w.alloc (.cells (nD v k) 5)) (fun i _=>4 - (intOf i).toNat)
 case atStart=>exact⟨0,by omega,rfl,rfl⟩
 case round =>
  obtain⟨k,hk,rfl,rfl⟩:=hrel;have hc:k=0∨k=1∨k=2∨k=3∨k=4:=by omega
  rcases hc with rfl | rfl | rfl | rfl | rfl
  ·rw[JA]
   go_wp2
   go_roundw
   case rel=>exact⟨1,by omega,rfl,by rw[Gi,Jj]⟩
   case measure=>simp[intOf]
  ·rw[Gi]
   go_wp2
   go_roundw
   case rel=>exact⟨2,by omega,rfl,by rw[Gg,JL]⟩
   case measure=>simp[intOf]
  ·rw[Gg]
   go_wp2
   go_roundw
   case rel=>exact⟨3,by omega,rfl,by rw[D6,Jk]⟩
   case measure=>simp[intOf]
  ·rw[D6]
   go_wp2
   go_roundw
   case rel=>exact⟨4,by omega,rfl,by rw[EK,JH]⟩
   case measure=>simp[intOf]
  ·go_wp2
   go_ret
   exact⟨rfl,rfl⟩
def iX (v:Int):ByteArray:=ah [byteOf v 0,byteOf v 1,byteOf v 2,byteOf v 3]
theorem Kt (v:Int):byteOf v 0=v % 256:=by unfold byteOf;omega
theorem Kj (v:Int):byteOf v 1=v % 4294967296 / 256 % 256:=by unfold byteOf;omega
theorem Ky (v:Int):byteOf v 2=v % 4294967296 / 65536 % 256:=by unfold byteOf;omega
theorem J9 (v:Int):byteOf v 3=v % 4294967296 / 16777216 % 256:=by unfold byteOf;omega
def uq (v:Int):Obj:=.cells #[.int .u8 (byteOf v 0),.int .u8 (byteOf v 1),.int .u8 (byteOf v 2),.int .u8 (byteOf v 3)] 5
theorem rQ (v:Int) (w:World) :
  Calls Tryz.prog 18 #[.int .i64 v] w fun e w'=>e=.returned (.string (iX v))∧w'=w.alloc (uq v):=by
 have h32:=ut v;have h0:0≤v % 4294967296:=by omega
 have hcv:=fun (w:World) x0 x1 x2 x3=>Es (P:=Tryz.prog) w 30 9 5 4 x0 x1 x2 x3 5 Tryz.underlying30 Tryz.underlying5 Tryz.underlying9
 go_enter Tryz.func18,Tryz.ntmps18
 go_wp2
 go_ret
 exact⟨by unfold iX;rw[Kt,Kj,Ky,J9];rfl,by unfold uq;rw[Kt,Kj,Ky,J9]⟩
theorem qW (x y:Int) (i:Nat) (hx0:0≤x) (hx:x<2 ^ i) (hx1:x<2 ^ 32) (hy0:0≤y) (hy:y % 2 ^ i=0) (hy1:y<2 ^ 32):bits .or .u32 x y=x+y:=by
 have hc:bits .or .u32 x y=bits .or .u32 y x:=by simp only[bits,BitVec.or_comm]
 rw[hc,bits_join .u32 32 (by decide) (fun n h0 h1=>by rw[IntKind.wrap_u32];omega) i y x hy0 hy hy1 hx0 hx hx1]
 omega
def iN (b0 b1 b2 b3:Int):Int:=wrap32 (b0+256 * b1+65536 * b2+16777216 * b3)
def ve (b0 b1 b2 b3:Int) (k:Nat):Int:=if k=0 then 0 else if k=1 then b0 else if k=2 then b0+256 * b1 else if k=3 then b0+256 * b1+65536 * b2 else b0+256 * b1+65536 * b2+16777216 * b3
theorem zf (b o n c:Nat) (w:World) (b0 b1 b2 b3:Int) (hn:4≤n) (hn2:n≤9223372036854775807)
  (hb:0≤b0∧b0<256∧0≤b1∧b1<256∧0≤b2∧b2<256∧0≤b3∧b3<256)
  (c0:w.cell? ⟨b,o,none⟩=some (.int .u8 b0)) (c1:w.cell? ⟨b,o+1,none⟩=some (.int .u8 b1)) (c2:w.cell? ⟨b,o+2,none⟩=some (.int .u8 b2)) (c3:w.cell? ⟨b,o+3,none⟩=some (.int .u8 b3)) :
  Calls Tryz.prog 80 #[.slice (some ⟨b,o,none⟩) n c] w fun e w'=>e=.returned (.tuple #[.int .i64 (iN b0 b1 b2 b3),.bool true])∧w=w':=by
 have j0:bits .or .u32 0 b0=b0:=by rw[qW 0 b0 0 (by omega) (by omega) (by omega) (by omega) (by omega) (by omega)];omega
 have j1:bits .or .u32 b0 (b1 * 256)=b0+256 * b1:=by rw[qW b0 _ 8 (by omega) (by omega) (by omega) (by omega) (by omega) (by omega)];omega
 have j2:bits .or .u32 (b0+256 * b1) (b2 * 65536)=b0+256 * b1+65536 * b2:=by rw[qW _ _ 16 (by omega) (by omega) (by omega) (by omega) (by omega) (by omega)];omega
 have j3:bits .or .u32 (b0+256 * b1+65536 * b2) (b3 * 16777216)=b0+256 * b1+65536 * b2+16777216 * b3:=by rw[qW _ _ 24 (by omega) (by omega) (by omega) (by omega) (by omega) (by omega)];omega
 go_enter Tryz.func80,Tryz.ntmps80
 go_wp2
 go_loop [4,9] (fun u i=>∃ k:Nat,k≤4∧i=.int .i64 k∧u=.int .u32 (ve b0 b1 b2 b3 k)) (fun _ i=>4 - (intOf i).toNat)
 case atStart=>exact⟨0,by omega,rfl,rfl⟩
 case round =>
  obtain⟨k,hk,rfl,rfl⟩:=hrel;have hc:k=0∨k=1∨k=2∨k=3∨k=4:=by omega
  rcases hc with rfl | rfl | rfl | rfl | rfl
  ·rw[show ve b0 b1 b2 b3 0=0 from rfl]
   go_wp2
   go_round
   case rel=>exact⟨1,by omega,rfl,rfl⟩
   case measure=>simp[intOf]
  ·rw[show ve b0 b1 b2 b3 1=b0 from rfl]
   go_wp2
   go_round
   case rel=>exact⟨2,by omega,rfl,rfl⟩
   case measure=>simp[intOf]
  ·rw[show ve b0 b1 b2 b3 2=b0+256 * b1 from rfl]
   go_wp2
   go_round
   case rel=>exact⟨3,by omega,rfl,rfl⟩
   case measure=>simp[intOf]
  ·rw[show ve b0 b1 b2 b3 3=b0+256 * b1+65536 * b2 from rfl]
   go_wp2
   go_round
   case rel=>exact⟨4,by omega,rfl,rfl⟩
   case measure=>simp[intOf]
  ·rw[show ve b0 b1 b2 b3 4=b0+256 * b1+65536 * b2+16777216 * b3 from rfl]
   go_wp2
   go_ret2
   exact⟨by simp[iN,Ic],rfl⟩
theorem tX (v:Int):iN (byteOf v 0) (byteOf v 1) (byteOf v 2) (byteOf v 3)=wrap32 v:=by
 unfold iN byteOf
 unfold wrap32
 omega
theorem uL (s:ByteArray) (h4:s.size=4) (w:World) :
  Calls Tryz.prog 55 #[.string s] w fun e w'=>e=.returned (.int .i64 (iN (s[0].toNat) (s[1].toNat) (s[2].toNat) (s[3].toNat)))∧∃ n,w'=w.drewN n:=by
 have b0:=s[0].toNat_lt;have b1:=s[1].toNat_lt;have b2:=s[2].toNat_lt;have b3:=s[3].toNat_lt;have l0:0<s.size:=by omega
 have l1:1<s.size:=by omega
 have l2:2<s.size:=by omega
 have l3:3<s.size:=by omega
 have h4:=k_ h4
 go_enter Tryz.func55,Tryz.ntmps55
 go_wp2_with fail
 go_quiet ((go_at_call 75;exact Calls.quiet_of_same ((Bl _ _).mono fun _ _ ⟨a,b⟩=>⟨a,b.symm⟩)))
 go_wp2
 go_ret
 exact⟨rfl,nq,rfl⟩
theorem wJ (s:ByteArray) (cap j:Nat) (h:j<s.size):(bytesRow s cap)[j]?=some (.int .u8 (s[j]).toNat):=by
 unfold bytesRow
 rw[Array.getElem?_append_left (by simpa using h)]
 simp[h]
 rfl
theorem AB (w:World) (s:ByteArray):∃ c W1,(convert 9 30 (.string s)).run Tryz.prog w=.ok (.slice (some ⟨w.heap.size,0,none⟩) s.size c) W1
  ∧ Below w.heap.size w W1∧∀ j (h:j<s.size),W1.cell? ⟨w.heap.size,j,none⟩=some (.int .u8 (s[j]).toNat):=by
 refine⟨_,_,run_bytes_of_string w 9 30 5 s Tryz.underlying9 Tryz.underlying30 Tryz.underlying5,?_,fun j h=>?_⟩
 ·exact((Below.refl _ _).drew).alloc (Nat.le_refl _) _
 ·have e:w.heap.size=w.drew.heap.size:=rfl
  rw[e,aI];exact wJ s _ j h
def u8E:Elem Tryz.prog Int where
 e:=5
 t:=30
 size:=1
 bytes:=1
 zero:=.int .u8 0
 enc:=fun n=>[.int .u8 n]
 ht:=Tryz.underlying30
 info:=by kernel_rfl
 hzs:=rfl
 hsz:=by decide
 hby:=by decide
 henc:=fun _=>rfl
 hone:=fun x u h=>by simp at h;subst h;rfl
def aG:Elem Tryz.prog Int where
 e:=3
 t:=44
 size:=1
 bytes:=8
 zero:=.int .i64 0
 enc:=fun n=>[.int .i64 n]
 ht:=Tryz.underlying44
 info:=by kernel_rfl
 hzs:=rfl
 hsz:=by decide
 hby:=by decide
 henc:=fun _=>rfl
 hone:=fun x u h=>by simp at h;subst h;rfl
def ig:Elem Tryz.prog Ins where
 e:=63
 t:=64
 size:=4
 bytes:=32
 zero:=.agg #[.int .i64 0,.int .i64 0,.int .i64 0,.int .i64 0]
 enc:=Ins.cells
 ht:=Tryz.underlying64
 info:=by kernel_rfl
 hzs:=rfl
 hsz:=by decide
 hby:=by decide
 henc:=fun _=>rfl
 hone:=fun x u h=>by simp[Ins.cells] at h;rcases h with rfl | rfl | rfl | rfl <;> rfl
theorem En (l:List Int):l.flatMap u8E.enc=l.map (Value.int .u8):=by
 induction l with
 | nil=>rfl
 | cons x l ih=>rw[List.flatMap_cons,ih];rfl
theorem ni {w:World} {B:Nat} {v:Value} {l:List Int} (h:Own u8E w B v l):(convert 30 9 v).run Tryz.prog w=.ok (.string (ah l)) w:=by
 have hc:=fun g hg=>World.ownsRow.cells (g:=g) h hg
 obtain⟨h1,h2⟩:=h
 rcases h2 with⟨rfl,h0⟩ | ⟨g,cap,cur,rfl,hg,hh,hr⟩
 ·have:l=[]:=List.length_eq_zero_iff.1 h0
  subst this;rw[run_convert_bytes_string w 30 9 5 _ _ _ Tryz.underlying30 Tryz.underlying5 Tryz.underlying9]
  rfl
 ·exact ou w 30 9 5 ⟨g,0,none⟩ cap l Tryz.underlying30 Tryz.underlying5 Tryz.underlying9 (by
   have:=hc g rfl;rw[En] at this;exact this)
def xI (w:World) (b o:Nat) (x:Ins):Prop:=w.cell? ⟨b,o,none⟩=some (.int .i64 x.op)∧w.cell? ⟨b,o+1,none⟩=some (.int .i64 x.a)∧w.cell? ⟨b,o+2,none⟩=some (.int .i64 x.b)∧w.cell? ⟨b,o+3,none⟩=some (.int .i64 x.c)
def rH (w:World) (a:Option Addr) (l:List Ins):Prop:=∀ j (hj:j<l.length),∃ b o,a=some ⟨b,o,none⟩∧xI w b (o+j * 4) l[j]
theorem xI.below {w w':World} {b o:Nat} {x:Ins} (h:xI w b o x) (hb:Below w.heap.size w w'):xI w' b o x :=
 ⟨ae hb h.1,ae hb h.2.1,ae hb h.2.2.1,ae hb h.2.2.2⟩
theorem rH.below {w w':World} {a:Option Addr} {l:List Ins} (h:rH w a l) (hb:Below w.heap.size w w'):rH w' a l:=fun j hj=>by
 obtain⟨b,o,h1,h2⟩:=h j hj;exact⟨b,o,h1,h2.below hb⟩
theorem aK {α:Type} (l:List α) (k:Nat) (h:k<l.length):l.take (k+1)=l.take k ++ [l[k]]:=by
 rw[List.take_succ_eq_append_getElem h]
theorem sG (l:List Ins) (j r:Nat) (hj:j<l.length) (hr:r<4):(l.flatMap Ins.cells)[j * 4+r]?=(l[j].cells)[r]?:=by
 induction l generalizing j with
 | nil=>cases hj
 | cons x l ih =>
   rw[List.flatMap_cons]
   cases j with
   | zero =>
     rw[List.getElem?_append_left (by simpa[Ins.cells] using hr)];simp
   | succ j =>
     rw[List.getElem?_append_right (by simp[Ins.cells];omega)];have:(j+1) * 4+r - x.cells.length=j * 4+r:=by simp[Ins.cells];omega
     rw[this,ih j (by simpa using hj)]
     rfl
theorem Iz {w:World} {B:Nat} {v:Value} {l:List Ins} (h:Own ig w B v l):∃ a c,v=.slice a l.length c∧rH w a l:=by
 have hc:=fun g hg=>World.ownsRow.cells (g:=g) h hg
 obtain⟨h1,h2⟩:=h
 rcases h2 with⟨rfl,h0⟩ | ⟨g,cap,cur,rfl,hg,hh,hr⟩
 ·have:l=[]:=List.length_eq_zero_iff.1 h0
  subst this;exact⟨none,0,rfl,fun j hj=>by cases hj⟩
 ·refine⟨_,cap,rfl,fun j hj=>⟨g,0,rfl,?_⟩⟩
  have hg:=hc g rfl;have hf:=sG l j;have hadd:∀ n,(⟨g,0,none⟩:Addr).add n=⟨g,n,none⟩:=fun n=>by
   unfold Addr.add;split
   ·subst n;rfl
   ·simp
  have q:∀ r (hr:r<4) u,(l[j].cells)[r]?=some u→w.cell? ⟨g,j * 4+r,none⟩=some u:=fun r hr u hu=>by
   have:=hg (j * 4+r) u (by rw[← hu];exact hf r hj hr);rw[hadd] at this;exact this
  have e:(0:Nat)+j * 4=j * 4:=by omega
  rw[e];exact⟨q 0 (by omega) _ rfl,q 1 (by omega) _ rfl,q 2 (by omega) _ rfl,q 3 (by omega) _ rfl⟩
def nk (x:Ins):List Int:=[x.op % 256,x.a % 256,x.c % 256,byteOf x.b 0,byteOf x.b 1,byteOf x.b 2,byteOf x.b 3]
def dR (l:List Ins):List Int:=l.flatMap nk
def laid (l:List Ins):Bool:=l.all cB
def lJ (l:List Ins):Value:=if laid l then .tuple #[.string (ah (dR l)),.int .i64 0] else .tuple #[.string ⟨#[]⟩,.int .i64 1]
theorem CR (l:List Ins) (k:Nat) (hk:k<l.length) (h:cB l[k]=false):lJ l=.tuple #[.string ⟨#[]⟩,.int .i64 1]:=by
 have:laid l=false:=by
  unfold laid;rw[List.all_eq_false];exact⟨l[k],List.getElem_mem hk,by simp[h]⟩
 simp[lJ,this]
theorem uX (l:List Ins) (x:Ins):dR (l ++ [x])=dR l ++ nk x:=by simp[dR]
theorem uA (l:List Ins) (x:Ins):laid (l ++ [x])=(laid l && cB x):=by simp[laid]
theorem fZ (l:List Ins):(dR l).length=7 * l.length:=by
 induction l with
 | nil=>rfl
 | cons x l ih=>simp[dR,nk] at *;omega
theorem GY (l:List Ins) (a:Option Addr) (c:Nat) (w:World) (hl:l.length≤100000) (hc:rH w a l) :
  Calls Tryz.prog 90 #[.slice a l.length c] w fun e w'=>e=.returned (lJ l)∧Below w.heap.size w w':=by
 have HC:=k_ hc;clear hc;have hby:=qg;have HBY:=k_ hby;clear hby
 go_enter Tryz.func90,Tryz.ntmps90
 go_wp2_with fail
 go_loopw [4,9] (fun v i wr=>∃ k:Nat,k≤l.length∧i=.int .i64 k∧Own u8E wr w.heap.size v (dR (l.take k))∧Below w.heap.size w wr∧laid (l.take k)=true) (fun _ i _=>l.length - (intOf i).toNat)
 case atStart=>exact⟨0,Nat.zero_le _,rfl,Own.nil _ _ _,Below.refl _ _,rfl⟩
 case round =>
  obtain⟨k,hk,rfl,hown,hB,hlaid⟩:=hrel
  by_cases hlt:k<l.length
  ·have hx:=HC.out.below hB k hlt
   obtain⟨b,o,rfl,hx0,hx1,hx2,hx3⟩:=hx;have HB:=k_ hB;clear hB;have HL:=k_ hlaid;clear hlaid;have HO:=k_ hown;clear hown;obtain⟨x,hxe⟩:∃ x,x=l[k]:=⟨_,rfl⟩;rw[← hxe] at hx0 hx1 hx2 hx3;have HXE:=k_ hxe;clear hxe;have hr:=jZ x;obtain⟨xop,xa,xb,xc⟩:=x;have hr:∀ w,Calls Tryz.prog 111 #[.agg #[.int .i64 xop,.int .i64 xa,.int .i64 xb,.int .i64 xc]] w fun e w'=>e=.returned (.bool (cB ⟨xop,xa,xb,xc⟩))∧Below w.heap.size w w':=hr
   obtain⟨rb,hrb⟩:∃ rb,rb=cB ⟨xop,xa,xb,xc⟩:=⟨_,rfl⟩;rw[← hrb] at hr;have HRB:=k_ hrb;clear hrb;have HR:=k_ hr;clear hr
   dsimp only at hx0 hx1 hx2 hx3
   go_wp2_with fail;refine(HR.out _).mono ?_;rintro e w1 ⟨rfl,hb1⟩
   cases rb
   ·clear hx0 hx1 hx2 hx3
    go_wp2_with fail
    go_ret2
    exact⟨by rw[CR l k hlt (by rw[← HXE.out,← HRB.out])];rfl,(HB.out.alloc HB.out.size _).trans (hb1.mono (by have:=HB.out.size;simp;omega))⟩
   ·have hown1:=Own.below (HO.out.alloc (.cells #[.int .i64 xop,.int .i64 xa,.int .i64 xb,.int .i64 xc] 63)) hb1
    have q0:=ae hb1 (aI wr #[.int .i64 xop,.int .i64 xa,.int .i64 xb,.int .i64 xc] 63 (0,0) 0);have q1:=ae hb1 (aI wr #[.int .i64 xop,.int .i64 xa,.int .i64 xb,.int .i64 xc] 63 (0,0) 1);have q2:=ae hb1 (aI wr #[.int .i64 xop,.int .i64 xa,.int .i64 xb,.int .i64 xc] 63 (0,0) 2);have q3:=ae hb1 (aI wr #[.int .i64 xop,.int .i64 xa,.int .i64 xb,.int .i64 xc] 63 (0,0) 3);have hB1:Below w.heap.size w w1:=(HB.out.alloc HB.out.size _).trans (hb1.mono (by have:=HB.out.size;simp;omega));have HB1:=k_ hB1;clear hB1;have HO1:=k_ hown1;clear hown1;clear hb1
    go_wp2_with (at_builtin;refine bJ u8E rfl (.tmp 16) (.tmp 26) rfl w.heap.size (dR (l.take k)) [xop % 256,xa % 256,xc % 256] _ rfl (HO1.out.alloc _) w1.heap.size 0 3 rfl (aA.new _ _ _ _) ?c1 ?c2 ?_)
    case c1=>rw[fZ];simp;omega
    case c2=>have:=HB1.out.size;simp;omega
    intro v2 w2 hown2 hg2;have hB2:=k_ (below_grown (HB1.out.alloc HB1.out.size _) (HO1.out.alloc _) hg2 (by have:=HB1.out.size;simp;omega) (Nat.le_refl _));have r2:=cell_grown hg2 ((aY _ (.cells #[.int .u8 (xop % 256),.int .u8 (xa % 256),.int .u8 (xc % 256)] 5) (World.block_lt q2)).trans q2) (fun e=>absurd (World.ownsRow.lt HO.out _ e).2 (Nat.lt_irrefl _));have HO2:=k_ hown2;clear hown2;clear q0 q1 q2 q3 hg2 hx0 hx1 hx2 hx3;go_wp2_with fail;refine(HBY.out _ _).mono ?_;rintro e w3 ⟨rfl,rfl⟩
    go_wp2_with (at_builtin;refine bJ u8E rfl (.tmp 28) (.tmp 31) rfl w.heap.size (dR (l.take k) ++ [xop % 256,xa % 256,xc % 256]) [byteOf xb 0,byteOf xb 1,byteOf xb 2,byteOf xb 3] _ rfl (HO2.out.alloc _) w2.heap.size 0 4 rfl (aA.new _ _ _ _) ?d1 ?d2 ?_)
    case d1=>rw[List.length_append,fZ];simp;omega
    case d2=>have:=hB2.out.size;simp;omega
    intro v3 w3 hown3 hg3;have hB3:=k_ (below_grown (hB2.out.alloc hB2.out.size _) (HO2.out.alloc _) hg3 (by have:=hB2.out.size;simp;omega) (Nat.le_refl _));have HO3:=k_ hown3;clear hown3;clear hg3 r2;go_wp2_with fail
    go_roundw
    case rel =>
     refine⟨k+1,by omega,by go_num,?_,hB3.out,?_⟩
     ·rw[aK l k hlt,uX,← HXE.out]
      exact HO3.out
     ·rw[aK l k hlt,uA,← HXE.out,← HRB.out,HL.out];rfl
    case measure=>simp[intOf];omega
  ·have hk':k=l.length:=by omega
   subst hk';rw[List.take_length] at hown hlaid;have hcv:=ni hown;have hres:lJ l=.tuple #[.string (ah (dR l)),.int .i64 0]:=by simp[lJ,hlaid]
   have HR:=k_ hres;have HB:=k_ hB;clear hres hB hown hlaid;go_wp2_with fail
   go_ret2
   exact⟨by rw[HR.out];rfl,HB.out⟩
def gb (b:ByteArray) (i:Nat):Int:=(b.data.getD i 0).toNat
theorem fV (b:ByteArray) (i:Nat) (h:i<b.size):((b[i]).toNat:Int)=gb b i:=by
 unfold gb;rw[Array.getD_eq_getD_getElem?,Array.getElem?_eq_getElem h]
 rfl
theorem fM (b:ByteArray) (i:Nat):0≤gb b i∧gb b i<256:=by
 unfold gb;have:=(b.data.getD i 0).toNat_lt
 omega
def nA (b:ByteArray) (i:Nat):Ins:=⟨gb b i,gb b (i+1),iN (gb b (i+3)) (gb b (i+4)) (gb b (i+5)) (gb b (i+6)),gb b (i+2)⟩
def eP (b:ByteArray) (n:Nat):List Ins:=(List.range n).map fun k=>nA b (7 * k)
theorem lm (b:ByteArray) (n:Nat):eP b (n+1)=eP b n ++ [nA b (7 * n)]:=by
 simp[eP,List.range_succ]
theorem mP (b:ByteArray) (n:Nat):(eP b n).length=n:=by simp[eP]
def bV (b:ByteArray):Bool:=b.size % 7 == 0 && (eP b (b.size / 7)).all cB
def eQ (b:ByteArray):List Ins:=if bV b then eP b (b.size / 7) else []
theorem Ev (b:ByteArray) (i:Nat):cB (nA b i)=(dh (gb b i) && jb (nA b i)):=by
 have h1:=fM b (i+1);have h2:=fM b (i+2);have h3:wrap32 (nA b i).b=(nA b i).b:=by
  show wrap32 (iN _ _ _ _)=iN _ _ _ _
  unfold iN;rw[Hl]
 unfold cB;rw[h3]
 show (dh (gb b i) && decide (0≤gb b (i+1)) && decide (gb b (i+1)≤255) && decide (0≤gb b (i+2)) && decide (gb b (i+2)≤255) && _ && _)=_
 simp[h1.1,h2.1,show gb b (i+1)≤255 from by omega,show gb b (i+2)≤255 from by omega]
theorem vw (b:ByteArray) (k:Nat) (hk:7 * k<b.size) (h7:b.size % 7=0) (h:cB (nA b (7 * k))=false):bV b=false:=by
 unfold bV;have:(eP b (b.size / 7)).all cB=false:=by
  rw[List.all_eq_false];exact⟨nA b (7 * k),List.mem_map.2 ⟨k,List.mem_range.2 (by omega),rfl⟩,by simp[h]⟩
 rw[this,Bool.and_false]
def lM (b:ByteArray) (w:World) (e:Ending) (w':World):Prop :=
 ∃ v,e=.returned (.tuple #[v,.int .i64 (if bV b then 0 else 2)])∧Own ig w' w.heap.size v (eQ b)∧Below w.heap.size w w'
def jk (b:ByteArray) (w:World) (e:Ending) (w':World):Prop :=
 ∃ v,e=.returned (.tuple #[v,.bool (bV b)])∧Own ig w' w.heap.size v (eQ b)∧Below w.heap.size w w'
theorem J8 (b:ByteArray) (i:Nat) (h:i+7≤b.size):(b.extract (i+3) (i+7)).size=4∧∀ j (hj:j<(b.extract (i+3) (i+7)).size),(((b.extract (i+3) (i+7))[j]).toNat:Int)=gb b (i+3+j):=by
 have hs:(b.extract (i+3) (i+7)).size=4:=by simp;omega
 refine⟨hs,fun j hj=>?_⟩;rw[ByteArray.getElem_extract,← fV b _ (by omega)]
theorem BJ (b:ByteArray) (w:World) (hb:b.size≤1000000) :
  Calls Tryz.prog 94 #[.string b] w (lM b w):=by
 by_cases h7:b.size % 7=0
 case neg =>
  have h7':((b.size:Int) % 7 != 0)=true:=by rw[bne_iff_ne];omega
  have hok:bV b=false:=by
   unfold bV;rw[show (b.size % 7 == 0)=false from by simpa using h7,Bool.false_and]
  have hP:lM b w (.returned (.tuple #[.slice none 0 0,.int .i64 2])) w:=⟨_,by rw[hok];rfl,by unfold eQ;rw[hok];exact Own.nil _ _ _,Below.refl _ _⟩;clear hok h7;have HP:=k_ hP;clear hP
  go_enter Tryz.func94,Tryz.ntmps94
  go_wp2_with fail
  go_ret2
  exact HP.out
 have h7':((b.size:Int) % 7 != 0)=false:=by rw[bne_eq_false_iff_eq];omega
 go_enter Tryz.func94,Tryz.ntmps94
 go_wp2_with fail;clear h7'
 go_loopw [4,5] (fun v i wr=>∃ at_ k:Nat,at_=7 * k∧at_≤b.size∧i=.int .i64 at_∧Own ig wr w.heap.size v (eP b k)∧Below w.heap.size w wr∧(eP b k).all cB=true) (fun _ i _=>b.size - (intOf i).toNat)
 case atStart=>exact⟨0,0,rfl,Nat.zero_le _,rfl,Own.nil _ _ _,Below.refl _ _,rfl⟩
 case round =>
  obtain⟨at_,k,hak,hle,rfl,hown,hB,hall⟩:=hrel
  by_cases hlt:at_<b.size
  ·have h7le:at_+7≤b.size:=by omega
   obtain⟨c,W1,hcv,hB1,hcells⟩:=AB wr (b.extract (at_+3) (at_+7));obtain⟨hs4,hg4⟩:=J8 b at_ h7le;rw[hs4] at hcv;have hrd:=zf wr.heap.size 0 4 c W1 (gb b (at_+3)) (gb b (at_+4)) (gb b (at_+5)) (gb b (at_+6)) (by omega) (by omega)
    (by have:=fM b (at_+3);have:=fM b (at_+4);have:=fM b (at_+5);have:=fM b (at_+6);omega)
    (by rw[hcells 0 (by omega),hg4 0 (by omega)]) (by rw[hcells 1 (by omega),hg4 1 (by omega)]) (by rw[hcells 2 (by omega),hg4 2 (by omega)]) (by rw[hcells 3 (by omega),hg4 3 (by omega)])
   have l1:at_+1<b.size:=by omega
   have l2:at_+2<b.size:=by omega
   have g0:=fV b at_ hlt;have g1:=fV b (at_+1) l1;have g2:=fV b (at_+2) l2;have hx:nA b at_=⟨gb b at_,gb b (at_+1),iN (gb b (at_+3)) (gb b (at_+4)) (gb b (at_+5)) (gb b (at_+6)),gb b (at_+2)⟩:=rfl;generalize gb b (at_+3)=y3 at *;generalize gb b (at_+4)=y4 at *;generalize gb b (at_+5)=y5 at *;generalize gb b (at_+6)=y6 at *;generalize iN y3 y4 y5 y6=xb at *;have hbd0:=fM b at_;have hbd1:=fM b (at_+1);have hbd2:=fM b (at_+2);clear hcells hg4 hs4;have hr:=jZ (nA b at_);rw[hx] at hr;have hr:∀ w,Calls Tryz.prog 111 #[.agg #[.int .i64 (gb b at_),.int .i64 (gb b (at_+1)),.int .i64 xb,.int .i64 (gb b (at_+2))]] w fun e w'=>e=.returned (.bool (cB ⟨gb b at_,gb b (at_+1),xb,gb b (at_+2)⟩))∧Below w.heap.size w w':=hr
   generalize gb b at_=xop at *;generalize gb b (at_+1)=xa at *;generalize gb b (at_+2)=xc at *;obtain⟨rb,hrb⟩:∃ rb,rb=cB ⟨xop,xa,xb,xc⟩:=⟨_,rfl⟩;rw[← hrb] at hr;rw[← hx] at hrb;have hB2:=hB.trans (hB1.mono hB.size);have hown1:=hown.below hB1;have HRD:=k_ hrd;clear hrd;have HRB:=k_ hrb;clear hrb;have HR:=k_ hr;clear hr;have HB1:=k_ hB1;clear hB1;have HB2:=k_ hB2;clear hB2;have HOWN1:=k_ hown1;clear hown1;have HX:=k_ hx;clear hx;clear hown hB;have HAK:=k_ hak;clear hak;have HALL:=k_ hall;clear hall;go_wp2_with fail;refine HRD.out.mono ?_;rintro e w1 ⟨rfl,rfl⟩;go_wp2_with fail;have n1:(0:Int)≤(at_:Int)+1:=by omega
   have n2:(0:Int)≤(at_:Int)+2:=by omega
   have m0:(at_:Int)<b.size:=by omega
   have m1:(at_:Int)+1<b.size:=by omega
   have m2:(at_:Int)+2<b.size:=by omega
   have t1:((at_:Int)+1).toNat=at_+1:=by omega
   have t2:((at_:Int)+2).toNat=at_+2:=by omega
   have i1:IntKind.i64.wrap ((at_:Int)+1)=(at_:Int)+1:=IntWalk.i64_in _ (by omega);have i2:IntKind.i64.wrap ((at_:Int)+2)=(at_:Int)+2:=IntWalk.i64_in _ (by omega)
   go_region
   clear n1 n2 m0 m1 m2 t1 t2 i1 i2 g0 g1 g2 hcv;go_wp2_with fail;refine(HR.out _).mono ?_;rintro e w2 ⟨rfl,hb2⟩;have hW1:W1.heap.size≤w2.heap.size:=by have:=hb2.size;simp at this;omega
   have hB3:Below w.heap.size w w2:=by
    refine((HB2.out.alloc HB2.out.size (.cells #[.int .i64 xop,.int .i64 xa,.int .i64 xb,.int .i64 xc] 63)).drew).trans (hb2.mono ?_);have:=HB2.out.size;simp;omega
   cases rb
   ·have hno:bV b=false:=vw b k (by rw[← HAK.out];exact hlt) h7 (by rw[← HAK.out];exact HRB.out.symm)
    have hP:lM b w (.returned (.tuple #[.slice none 0 0,.int .i64 2])) w2:=⟨_,by rw[hno];rfl,by unfold eQ;rw[hno];exact Own.nil _ _ _,hB3⟩;clear hno hB3 hW1 hb2;have HP:=k_ hP;clear hP;go_wp2_with fail
    go_ret2
    exact HP.out
   ·have q0:w2.cell? ⟨W1.heap.size,0,none⟩=some (.int .i64 xop):=ae hb2 (aI W1 #[.int .i64 xop,.int .i64 xa,.int .i64 xb,.int .i64 xc] 63 (0,0) 0)
    have q1:w2.cell? ⟨W1.heap.size,1,none⟩=some (.int .i64 xa):=ae hb2 (aI W1 #[.int .i64 xop,.int .i64 xa,.int .i64 xb,.int .i64 xc] 63 (0,0) 1);have q2:w2.cell? ⟨W1.heap.size,2,none⟩=some (.int .i64 xb):=ae hb2 (aI W1 #[.int .i64 xop,.int .i64 xa,.int .i64 xb,.int .i64 xc] 63 (0,0) 2);have q3:w2.cell? ⟨W1.heap.size,3,none⟩=some (.int .i64 xc):=ae hb2 (aI W1 #[.int .i64 xop,.int .i64 xa,.int .i64 xb,.int .i64 xc] 63 (0,0) 3);have hown2:Own ig w2 w.heap.size _ (eP b k):=Own.below ((HOWN1.out.alloc (.cells #[.int .i64 xop,.int .i64 xa,.int .i64 xb,.int .i64 xc] 63)).drew) hb2;have HB3:=k_ hB3;have HO2:=k_ hown2;clear hown2 hB3 hW1 hb2
    go_wp2_with (at_builtin;refine bJ ig rfl (.tmp 49) (.tmp 51) rfl w.heap.size (eP b k) [⟨xop,xa,xb,xc⟩] _ rfl (HO2.out.alloc _) w2.heap.size 0 1 rfl (aA.new _ _ _ _) ?c1 ?c2 ?_)
    case c1=>rw[mP];have:=HAK.out;simp;omega
    case c2=>have:=HB3.out.size;simp;omega
    intro v3 w3 hown3 hg3;have hB4:=k_ (below_grown (HB3.out.alloc HB3.out.size _) (HO2.out.alloc _) hg3 (by have:=HB3.out.size;simp;omega) (Nat.le_refl _));have HO3:=k_ hown3;clear hown3;clear hg3 q0 q1 q2 q3;go_wp2_with fail
    go_roundw
    case rel =>
     refine⟨at_+7,k+1,by have:=HAK.out;omega,h7le,by go_num,?_,hB4.out,?_⟩
     ·have hsn:eP b (k+1)=eP b k ++ [⟨xop,xa,xb,xc⟩]:=by rw[lm,← HAK.out,HX.out]
      rw[hsn];exact HO3.out
     ·rw[lm,List.all_append,HALL.out,← HAK.out];simp[← HRB.out]
    case measure=>simp[intOf];omega
  ·have hk':at_=b.size:=by omega
   have hkk:b.size / 7=k:=by omega
   have hok:bV b=true:=by
    unfold bV;rw[hkk,hall,h7];rfl
   have hP:∀ v,Own ig wr w.heap.size v (eP b k)→lM b w (.returned (.tuple #[v,.int .i64 0])) wr:=fun v hv=>⟨v,by rw[hok];rfl,by unfold eQ;rw[hok,if_pos rfl,hkk];exact hv,hB⟩
   have HP:=k_ (hP _ hown);clear hok hkk hall hown hB hak hP;go_wp2_with fail
   go_ret2
   exact HP.out
def Ins.wf (x:Ins):Prop:=(-9223372036854775808≤x.op∧x.op≤9223372036854775807)∧(-9223372036854775808≤x.a∧x.a≤9223372036854775807)∧(-9223372036854775808≤x.b∧x.b≤9223372036854775807)∧(-9223372036854775808≤x.c∧x.c≤9223372036854775807)
instance : Inhabited Ins := ⟨⟨0, 0, 0, 0⟩⟩
variable {H:Type} {enc:TypeId × Value→H}
theorem gJ:Tryz.prog.cellsOf 3=1∧Tryz.prog.cellsOf 63=4:=⟨by kernel_rfl,by kernel_rfl⟩
theorem dD {w:World} {base:Nat} {sp:Nat→Bool} {hd:Bool} {n:Nat} {u:Value} {x:DataW H × List MemPlace} (h:DataW.trod enc Tryz.prog w base sp hd n 3 [u]=some x):∃ z,u=.int .i64 z∧-9223372036854775808≤z∧z≤9223372036854775807:=by
 obtain⟨z,h1,_,h3⟩:=DataW.trod_int Tryz.underlying3 h;simp only[List.cons.injEq,and_true] at h1;have:=bounds_i64 h3;exact⟨z,h1,this⟩
theorem EW {w:World} {base:Nat} {sp:Nat→Bool} {hd:Bool} {n:Nat} {cs:List Value} {x:DataW H × List MemPlace} (h:DataW.trod enc Tryz.prog w base sp hd n 63 cs=some x):∃ y:Ins,cs=y.cells∧y.wf:=by
 obtain⟨xs,m,_,_,hl,hlen,hf⟩:=DataW.trod_struct Tryz.underlying63 h;rw[gJ.2] at hl
 match cs,hl,xs,hlen with
 | [c0,c1,c2,c3],_,[y0,y1,y2,y3],_ =>
   have f0:DataW.trod enc Tryz.prog w base sp hd m 3 (([c0,c1,c2,c3].drop 0).take (Tryz.prog.cellsOf 3))=some y0:=hf 0 _ rfl;have f1:DataW.trod enc Tryz.prog w base sp hd m 3 (([c0,c1,c2,c3].drop 1).take (Tryz.prog.cellsOf 3))=some y1:=hf 1 _ rfl;have f2:DataW.trod enc Tryz.prog w base sp hd m 3 (([c0,c1,c2,c3].drop 2).take (Tryz.prog.cellsOf 3))=some y2:=hf 2 _ rfl;have f3:DataW.trod enc Tryz.prog w base sp hd m 3 (([c0,c1,c2,c3].drop 3).take (Tryz.prog.cellsOf 3))=some y3:=hf 3 _ rfl;rw[gJ.1] at f0 f1 f2 f3;obtain⟨z0,rfl,b0⟩:=dD f0;obtain⟨z1,rfl,b1⟩:=dD f1;obtain⟨z2,rfl,b2⟩:=dD f2;obtain⟨z3,rfl,b3⟩:=dD f3;exact⟨⟨z0,z1,z2,z3⟩,rfl,b0,b1,b2,b3⟩
theorem lg {w:World} {a:Addr} {v:Value} (h:w.cell? a=some v):a=⟨a.block,a.off,none⟩:=by
 obtain⟨b,o,s⟩:=a
 cases s with
 | none=>rfl
 | some s =>
   unfold World.cell? at h
   split at h
   ·cases h
   ·cases h
theorem addr_add (a:Addr) (hs:a.spot=none) (n:Nat):a.add n=⟨a.block,a.off+n,none⟩:=by
 unfold Addr.add
 split
 ·subst n;obtain⟨b,o,s⟩:=a;dsimp only at hs;subst hs;rfl
 ·obtain⟨b,o,s⟩:=a;dsimp only at hs;subst hs;rfl
end Go.Proofs.YtlofbhoicbemnaaGreatDoor
namespace Go.Proofs.YtlofbhoicbemnaaGreatDoor
open Go.ChangeShapes Go.WideShapes Go.ChangeAt Go.RowKit
theorem aM (l:List Int):(ah l).size=l.length:=by
 show (List.map _ l).toArray.size=_
 simp
theorem jl (l:List Int) (i:Nat) (h:i<l.length) (hb:0≤l[i]∧l[i]<256):gb (ah l) i=l[i]:=by
 unfold gb ah
 simp[Array.getD_eq_getD_getElem?,h]
 omega
theorem eY (b:ByteArray) (k i:Nat) (h:i<k) (hk:k≤b.size):gb (b.extract 0 k) i=gb b i:=by
 have hs:i<(b.extract 0 k).size:=by simp;omega
 rw[← fV _ i hs,← fV b i (by omega),ByteArray.getElem_extract]
 simp
theorem EZ (l:List Ins) (j:Nat) (hj:j<l.length) (r:Nat) (hr:r<7):(dR l)[7 * j+r]?=(nk l[j])[r]?:=by
 induction l generalizing j with
 | nil=>cases hj
 | cons x l ih =>
   have e:dR (x :: l)=nk x ++ dR l:=rfl;rw[e]
   cases j with
   | zero =>
     rw[Nat.mul_zero,Nat.zero_add,List.getElem?_append_left (by simpa[nk] using hr)];rfl
   | succ j =>
     rw[List.getElem?_append_right (by simp[nk];omega)];have:7 * (j+1)+r - (nk x).length=7 * j+r:=by simp[nk];omega
     rw[this,ih j (by simpa using hj)]
     rfl
theorem Bj (x:Ins) (hx:cB x=true):∀ y ∈ nk x,0≤y∧y<256:=by
 intro y hy;simp only[nk,List.mem_cons,List.not_mem_nil,or_false] at hy
 rcases hy with rfl | rfl | rfl | rfl | rfl | rfl | rfl <;> (try unfold byteOf) <;> omega
theorem JN (l:List Ins) (hl:laid l=true) (j:Nat) (hj:j<l.length) (r:Nat) (hr:r<7):gb (ah (dR l)) (7 * j+r)=(nk l[j])[r]'(by simpa[nk] using hr):=by
 have h1:=EZ l j hj r hr;have hr':r<(nk l[j]).length:=by simpa[nk] using hr
 rw[List.getElem?_eq_getElem hr'] at h1;obtain⟨hlt,h2⟩:=List.getElem?_eq_some_iff.1 h1;have hx:cB l[j]=true:=by
  unfold laid at hl;exact List.all_eq_true.1 hl _ (List.getElem_mem hj)
 rw[jl _ _ hlt (by rw[h2];exact Bj _ hx _ (List.getElem_mem hr')),h2]
theorem yM {x:Ins} (h:cB x=true):(0≤x.op∧x.op≤29)∧(0≤x.a∧x.a≤255)∧(0≤x.c∧x.c≤255)∧wrap32 x.b=x.b:=by
 simp[cB,dh] at h
 omega
theorem Je (l:List Ins) (hl:laid l=true) (j:Nat) (hj:j<l.length):nA (ah (dR l)) (7 * j)=l[j]:=by
 have hx:cB l[j]=true:=by
  unfold laid at hl;exact List.all_eq_true.1 hl _ (List.getElem_mem hj)
 obtain⟨h1,h2,h3,h4⟩:=yM hx;have g:=JN l hl j hj;have g0:=g 0 (by omega);have g1:=g 1 (by omega);have g2:=g 2 (by omega);have g3:=g 3 (by omega);have g4:=g 4 (by omega);have g5:=g 5 (by omega);have g6:=g 6 (by omega);simp only[nk,List.getElem_cons_zero,List.getElem_cons_succ,Nat.add_zero] at g0 g1 g2 g3 g4 g5 g6;unfold nA;rw[g0,g1,g2,g3,g4,g5,g6,tX,h4];have e:∀ x:Ins,(0≤x.op∧x.op≤29)→(0≤x.a∧x.a≤255)→(0≤x.c∧x.c≤255)→(⟨x.op % 256,x.a % 256,x.b,x.c % 256⟩:Ins)=x:=by
  rintro⟨op,a,b,c⟩ h1 h2 h3
  dsimp only at h1 h2 h3
  simp
  omega
 exact e _ h1 h2 h3
theorem Cu (b:ByteArray) (k j:Nat) (hk:k≤b.size) (hj:7 * j+7≤k):nA (b.extract 0 k) (7 * j)=nA b (7 * j):=by
 unfold nA;rw[eY b k _ (by omega) hk,eY b k _ (by omega) hk,eY b k _ (by omega) hk,eY b k _ (by omega) hk,eY b k _ (by omega) hk,eY b k _ (by omega) hk,eY b k _ (by omega) hk]
theorem oZ (l:List Ins) (hl:laid l=true) (k n:Nat) (hk:k≤7 * l.length) (hn:7 * n≤k):eP ((ah (dR l)).extract 0 k) n=l.take n:=by
 apply List.ext_getElem
 ·rw[mP,List.length_take];omega
 ·intro i h1 h2
  rw[mP] at h1;simp only[eP,List.getElem_map,List.getElem_range,List.getElem_take];rw[Cu _ k i (by rw[aM,fZ];exact hk) (by omega),Je l hl i (by omega)]
theorem Da (l:List Ins) (hl:laid l=true) (n:Nat):(l.take n).all cB=true:=by
 rw[List.all_eq_true] at *;unfold laid at hl;rw[List.all_eq_true] at hl;exact fun x hx=>hl x (List.mem_of_mem_take hx)
theorem yL (l:List Ins) (hl:laid l=true) (k:Nat) (hk:k≤7 * l.length) :
  bV ((ah (dR l)).extract 0 k)=(k % 7 == 0)∧(k % 7=0→eQ ((ah (dR l)).extract 0 k)=l.take (k / 7)):=by
 have hs:((ah (dR l)).extract 0 k).size=k:=by
  rw[ByteArray.size_extract,aM,fZ];omega
 have hok:bV ((ah (dR l)).extract 0 k)=(k % 7 == 0):=by
  unfold bV;rw[hs,oZ l hl k (k / 7) hk (by omega),Da l hl,Bool.and_true]
 refine⟨hok,fun h7=>?_⟩;unfold eQ;rw[hok,hs,oZ l hl k (k / 7) hk (by omega),if_pos (by simpa using h7)]
theorem extract_all (b:ByteArray):b.extract 0 b.size=b:=by
 apply ByteArray.ext
 simp
theorem Gw (l:List Ins) (hl:laid l=true):bV (ah (dR l))=true∧eQ (ah (dR l))=l:=by
 have h:=yL l hl (7 * l.length) (Nat.le_refl _);have e:(ah (dR l)).extract 0 (7 * l.length)=ah (dR l):=by
  have:=extract_all (ah (dR l));rw[aM,fZ] at this;exact this
 rw[e] at h;refine⟨by rw[h.1];simp,?_⟩;have:=h.2 (by omega);rw[this,show 7 * l.length / 7=l.length from by omega,List.take_length]
end Go.Proofs.YtlofbhoicbemnaaGreatDoor
namespace Go.Proofs.YtlofbhoicbemnaaGreatDoor
open Go.RowKit
theorem kL (w:World) (cs:Array Value) (t:TypeId) (wr:World) (h:Below (w.heap.size+1) (w.alloc (.cells cs t)) wr) :
  (∀ j u,cs[j]?=some u→wr.cell? ⟨w.heap.size,j,none⟩=some u)∧Below w.heap.size w wr∧w.heap.size+1≤wr.heap.size:=by
 refine⟨fun j u hj=>?_,((Below.refl _ _).alloc (Nat.le_refl _) _).trans (h.mono (by simp)),by have:=h.size;simpa using this⟩;rw[h.cell (by simp),aI];exact hj
theorem nz (w:World) (cs cs':Array Value) (t t':TypeId) (wr:World) (h:Below (w.heap.size+2) ((w.alloc (.cells cs t)).alloc (.cells cs' t')) wr) :
  (∀ j u,cs[j]?=some u→wr.cell? ⟨w.heap.size,j,none⟩=some u)∧(∀ j u,cs'[j]?=some u→wr.cell? ⟨w.heap.size+1,j,none⟩=some u)∧Below w.heap.size w wr∧w.heap.size+2≤wr.heap.size:=by
 refine⟨fun j u hj=>?_,fun j u hj=>?_,(((Below.refl _ _).alloc (Nat.le_refl _) _).alloc (by simp) _).trans (h.mono (by simp)),by have:=h.size;simpa using this⟩
 ·rw[h.cell (by simp),aY _ _ (by simp),aI];exact hj
 ·rw[h.cell (by simp)]
  have:=aI (w.alloc (.cells cs t)) cs' t' (0,0) j;rw[show (w.alloc (.cells cs t)).heap.size=w.heap.size+1 from by simp] at this;rw[this];exact hj
theorem J5 (w:World) (cs cs':Array Value) (t t':TypeId):(∀ j u,cs[j]?=some u→(((w.alloc (.cells cs t)).alloc (.cells cs' t')).drew).cell? ⟨w.heap.size,j,none⟩=some u) ∧
  (∀ j u,cs'[j]?=some u→(((w.alloc (.cells cs t)).alloc (.cells cs' t')).drew).cell? ⟨w.heap.size+1,j,none⟩=some u)∧Below w.heap.size w (((w.alloc (.cells cs t)).alloc (.cells cs' t')).drew) :=
 have h:=nz w cs cs' t t' _ (Below.refl _ _)
 ⟨h.1,h.2.1,h.2.2.1.drew⟩
theorem Below.ofDrew {W W':World} (h:∃ n,W'=W.drewN n):Below W.heap.size W W':=by
 obtain⟨n,rfl⟩:=h;exact below_drewN (Below.refl _ _) n
theorem Calls.drawn {P:Program} {f:FuncId} {args:Array Value} {w:World} {v:Value} (h:Calls P f args w fun e w'=>e=.returned v∧∃ n,w'=w.drewN n):Calls P f args w fun e w'=>e=.returned v∧Below w.heap.size w w' :=
 h.mono fun _ _ ⟨he,hn⟩=>⟨he,Below.ofDrew hn⟩
theorem kH {P:Program} {α:Type} (E:Elem P α) (w:World) (l:List α) (cs:Array Value) (h:cs.toList=l.flatMap E.enc) (hl:l.length≤maxLen):Own E (w.alloc (.cells cs E.e)) w.heap.size (.slice (some ⟨w.heap.size,0,none⟩) l.length l.length) l:=by
 refine⟨E.len l,.inr ⟨w.heap.size,l.length,cs,rfl,Nat.le_refl _,ai w _,Nat.le_refl _,hl,?_,?_⟩⟩
 ·rw[← E.len l,← h];simp
 ·rw[h,List.take_of_length_le];rw[E.len l];exact Nat.le_refl _
end Go.Proofs.YtlofbhoicbemnaaGreatDoor
