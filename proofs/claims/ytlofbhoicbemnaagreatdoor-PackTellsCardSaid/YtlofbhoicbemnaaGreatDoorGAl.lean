/- What may be: kinds, shapes, instructions, functions, programs; the two ways to tell it come to the same. Nothing of the program's text .. -/
import Derived.Test.YtlofbhoicbemnaaGreatDoorGAj
import Derived.Test.YtlofbhoicbemnaaGreatDoorGAk
import Derived.Maps.Keyed
import Derived.DeepKeys4
import Derived.Test.YtlofbhoicbemnaaGreatDoorChecked
set_option linter.unusedVariables false
set_option linter.unusedSimpArgs false
set_option maxRecDepth 100000
set_option maxHeartbeats 1600000
namespace Go.Proofs.YtlofbhoicbemnaaGreatDoor
def au (n m:Int):Bool:=decide (0≤n) && decide (n<m)
def cK (kind:Int) (shapes:Nat):Bool:=decide (shapes≤16) && (kind == 1 || (decide (16≤kind) && decide (kind<16+shapes)))
def iV (kind:Int) (shapes:Nat):Bool:=cK kind shapes || (decide (shapes≤16) && (decide (64≤kind) && decide (kind<64+shapes)))
def zy (kind:Int):Bool:=decide (64≤kind) && decide (kind<80)
def dn (f:Nat→Int) (n:Nat):Int × Nat:=match (List.range n).find? fun i=>f i != 0 with | some i=>(f i,i) | none=>(0,0)
theorem jd {f:Nat→Int} {n:Nat} (h:∀ j,j<n→f j=0):dn f n=(0,0):=by
 unfold dn;have:(List.range n).find? (fun i=>f i != 0)=none:=by
  rw[List.find?_eq_none];intro x hx
  simp[h x (List.mem_range.1 hx)]
 rw[this]
theorem mf {f:Nat→Int} {n k:Nat} (hk:k<n) (h:∀ j,j<k→f j=0) (hh:f k≠0):dn f n=(f k,k):=by
 unfold dn;have:(List.range n).find? (fun i=>f i != 0)=some k:=by
  rw[List.find?_range_eq_some];exact⟨by simpa using hh,List.mem_range.2 hk,fun j hj=>by simp[h j hj]⟩
 rw[this]
theorem pF {f:Nat→Int} {n:Nat}:(dn f n).1=0↔∀ j,j<n→f j=0:=by
 constructor
 ·intro h j hj
  by_cases hz:∃ k,k<n∧f k≠0
  ·exfalso
   unfold dn at h
   cases hf:(List.range n).find? fun i=>f i != 0 with
   | none =>
     obtain⟨k,hk,hk2⟩:=hz;rw[List.find?_eq_none] at hf;have:=hf k (List.mem_range.2 hk)
     simp at this
     exact hk2 this
   | some k =>
     rw[hf] at h;have:=List.find?_some hf
     simp at this
     exact this h
  ·exact Classical.byContradiction fun hne=>hz ⟨j,hj,hne⟩
 ·intro h
  rw[jd h]
def jO (n:Nat) (x:List Int):Int:=if x.length<1∨16<x.length then 1 else if x.all (cK · n) then 0 else 3
def bU (l:List (List Int)):Int:=if 16<l.length then 1 else (dn (fun i=>jO l.length (l[i]?.getD [])) l.length).1
def bF (p:Prg) (i:Ins):Option Fun:=if (i.op=21∨i.op=23∨i.op=24)∧au i.b p.funcs.length=true then p.funcs[i.b.toNat]? else none
def Bv (g:Option Fun):Nat:=match g with | some g=>g.args.length | none=>0
def kU (p:Prg) (f:Fun) (i:Ins):Bool :=
 (i.op == 22 && f.result == 0) || (i.op == 21 && (match bF p i with | some g=>g.result == 0 | none=>false))
def tC (p:Prg) (f:Fun) (i:Ins):Bool:=dh i.op && jQ i.a ((cO i.op).1 && !kU p f i) && jQ i.b (cO i.op).2.1 && jQ i.c (cO i.op).2.2
def tN (p:Prg) (f:Fun) (i:Ins):List Int :=
 jJ i (Bv (bF p i)) ++ (if dF i.op && !kU p f i then [i.a] else []) ++ (if i.op == 26 then [i.b] else []) ++ (if i.op == 22 && !kU p f i then [i.a] else [])
def Bi (f:Fun) (c:Int) (n:Nat):Bool:=decide (0≤c) && decide ((n:Int)≤f.slots) && decide (c≤f.slots - n)
def nS (p:Prg) (f:Fun) (i:Ins):Bool:=(match bF p i with | some g=>Bi f i.c g.args.length | none=>true) && (tN p f i).all (au · f.slots)
def gB (p:Prg) (f:Fun) (i:Ins):Bool :=
 if i.op=9∨i.op=10 then au i.b f.code.length
 else if i.op=21∨i.op=23∨i.op=24 then au i.b p.funcs.length
 else if i.op=13∨i.op=11 then au i.b p.shapes.length
 else if i.op=16 then au i.b p.globals.length
 else if i.op=17 then au i.a p.globals.length
 else if i.op=18 then au i.b f.objects.length
 else if i.op=14∨i.op=19 then au i.c 16
 else if i.op=15∨i.op=20 then au i.b 16
 else true
def pW (p:Prg) (i:Ins):Bool :=
 if i.op=23∨i.op=24 then (match bF p i with | some g=>g.result == 0 && !g.args.any zy | none=>true)
 else if i.op=25∨i.op=26 then decide (0<p.shapes.length)
 else true
def il (p:Prg) (f:Fun) (i:Ins):Int:=if tC p f i=false then 2 else if (gB p f i && nS p f i)=false then 4 else if pW p i=false then 3 else 0
open Go.ChangeShapes Go.WideShapes Go.ChangeAt Go.RowKit Go.Maps
def aJ (x:Int):Prop:=-9223372036854775808≤x∧x≤9223372036854775807
theorem qj {x:Int} (h:aJ x):(Lit.int .i64 x).wf=true:=by
 obtain⟨h1,h2⟩:=h
 simp[Lit.wf,IntKind.min,IntKind.max,IntKind.signed,IntKind.bits]
 omega
def Cq:KeyTy Tryz.prog Int where
 k:=3
 law:=int_keyed Tryz.underlying3
 key:=.int .i64
 lit:=Lit.int .i64
 wf:=aJ
 hkey:=fun a h=>keyOf_int_mk Tryz.underlying3 (qj h)
 inj:=fun a b h=>by injection h
theorem dQ (w:World):(zeroValue 3).run Tryz.prog w=.ok (.int .i64 0) w:=by
 kernel_rfl
def kF (n:Nat) (pl:Bool) (x:Int):Option Int:=if x=1∨(16≤x∧x<16+n)∨(pl=true∧64≤x∧x<64+n) then some 1 else none
theorem Hu (pl:Bool) (x:Int):upd (fun _=>none) 1 (some 1) x=kF 0 pl x:=by
 unfold upd kF
 by_cases h:x=1
 ·rw[if_pos h,if_pos (.inl h)]
 ·rw[if_neg h,if_neg (by rintro (h1 | h1 | h1) <;> omega)]
theorem Fu (n:Nat) (x:Int):upd (kF n false) (16+n) (some 1) x=kF (n+1) false x:=by
 unfold upd kF
 by_cases h:x=16+n
 ·rw[if_pos h,if_pos (.inr (.inl (by omega)))]
 ·rw[if_neg h]
  by_cases h1:x=1∨16≤x∧x<16+n
  ·rw[if_pos (by rcases h1 with h1 | h1;exact .inl h1;exact .inr (.inl h1)),if_pos (by rcases h1 with h1 | h1;exact .inl h1;exact .inr (.inl (by omega)))]
  ·rw[if_neg (by rintro (h2 | h2 | h2);exact h1 (.inl h2);exact h1 (.inr h2);exact absurd h2.1 (by decide)),if_neg (by rintro (h2 | h2 | h2);exact h1 (.inl h2);exact h1 (.inr (by omega));exact absurd h2.1 (by decide))]
theorem IR (n:Nat) (hn:n<16) (x:Int):upd (upd (kF n true) (16+n) (some 1)) (64+n) (some 1) x=kF (n+1) true x:=by
 unfold upd kF
 by_cases h:x=64+n
 ·rw[if_pos h,if_pos (.inr (.inr ⟨rfl,by omega⟩))]
 ·rw[if_neg h]
  by_cases h2:x=16+n
  ·rw[if_pos h2,if_pos (.inr (.inl (by omega)))]
  ·rw[if_neg h2]
   by_cases h1:x=1∨(16≤x∧x<16+n)∨(64≤x∧x<64+n)
   ·rw[if_pos (by rcases h1 with h1 | h1 | h1;exact .inl h1;exact .inr (.inl h1);exact .inr (.inr ⟨rfl,h1⟩)),if_pos (by rcases h1 with h1 | h1 | h1;exact .inl h1;exact .inr (.inl (by omega));exact .inr (.inr ⟨rfl,by omega⟩))]
   ·rw[if_neg (by rintro (h3 | h3 | h3);exact h1 (.inl h3);exact h1 (.inr (.inl h3));exact h1 (.inr (.inr h3.2))),if_neg (by rintro (h3 | h3 | h3);exact h1 (.inl h3);exact h1 (.inr (.inl (by omega)));exact h1 (.inr (.inr (by omega))))]
def dZ (n:Nat) (pl:Bool):Int→Option Int:=if n≤16 then kF n pl else fun _=>none
def mJ (w:World) (b m:Nat) (f:Int→Option Int):Prop:=bf Cq (Value.int .i64) w b m f
theorem lU (kind:Int) (n:Nat):(dZ n false kind).isSome=cK kind n:=by
 unfold dZ cK
 by_cases h:n≤16
 ·rw[if_pos h]
  unfold kF
  by_cases h1:kind=1
  ·simp[h,h1]
  ·by_cases h2:16≤kind∧kind<16+n
   ·rw[if_pos (.inr (.inl h2))];simp[h,h2]
   ·rw[if_neg (by rintro (h3 | h3 | h3);exact h1 h3;exact h2 h3;exact absurd h3.1 (by decide))]
    have:¬ (16≤kind∧kind<16+(n:Int)):=h2
    simp[h1]
    omega
 ·rw[if_neg h];simp[h]
theorem yC (kind:Int) (n:Nat):(dZ n true kind).isSome=iV kind n:=by
 unfold dZ iV cK
 by_cases h:n≤16
 ·rw[if_pos h]
  unfold kF
  by_cases h1:kind=1
  ·simp[h,h1]
  ·by_cases h2:16≤kind∧kind<16+n
   ·rw[if_pos (.inr (.inl h2))];simp[h,h2]
   ·by_cases h4:64≤kind∧kind<64+n
    ·rw[if_pos (.inr (.inr ⟨rfl,h4⟩))];simp[h,h4]
    ·rw[if_neg (by rintro (h3 | h3 | h3);exact h1 h3;exact h2 h3;exact h4 h3.2)]
     simp[h1]
     omega
 ·rw[if_neg h];simp[h]
theorem dG (w:World) (n m:Int) :
  Calls Tryz.prog 222 #[.int .i64 n,.int .i64 m] w fun e w'=>e=.returned (.bool (au n m))∧w=w':=by
 unfold au
 by_cases h:0≤n
 ·by_cases h2:n<m
  ·rw[decide_eq_true h,decide_eq_true h2]
   go_enter Tryz.func222,Tryz.ntmps222
   go_wp2_with fail
   go_ret
   exact⟨rfl,rfl⟩
  ·rw[decide_eq_true h,decide_eq_false h2]
   go_enter Tryz.func222,Tryz.ntmps222
   go_wp2_with fail
   go_ret
   exact⟨rfl,rfl⟩
 ·have h0:decide (0≤n)=false:=by simpa using h
  rw[h0,Bool.false_and]
  go_enter Tryz.func222,Tryz.ntmps222
  go_wp2_with fail
  go_ret
  exact⟨rfl,rfl⟩
theorem qo (w:World) (n:Nat) (pl:Bool) (hn:n≤100000) :
  Calls Tryz.prog 165 #[.int .i64 n,.bool pl] w fun e w'=>∃ b m,e=.returned (.map (some b))∧mJ w' b m (dZ n pl)∧w.heap.size≤b∧Below w.heap.size w w':=by
 have hmk:mJ (w.alloc (.map #[] 0)) w.heap.size 0 (fun _=>none):=bf.made Cq _ w;have hb0:=(Below.refl w.heap.size w).alloc (Nat.le_refl _) (.map #[] 0);have hmake:∀ w,(Instr.makeMap 258 none).run Tryz.prog w=.ok (.map (some w.heap.size)) (w.alloc (.map #[] 0)):=fun w=>run_makeMap _ w
 by_cases h16:n≤16
 case neg =>
  have h16':(16:Int)<n:=by omega
  have hk:dZ n pl=fun _=>none:=by unfold dZ;rw[if_neg h16]
  rw[hk];clear hk;have HMK:=k_ hmk;clear hmk;have HB0:=k_ hb0;clear hb0
  go_enter Tryz.func165,Tryz.ntmps165
  go_wp2_with fail
  go_ret
  exact⟨_,0,rfl,HMK.out,Nat.le_refl _,HB0.out⟩
 have h16':¬ (16:Int)<n:=by omega
 have hk:dZ n pl=kF n pl:=by unfold dZ;rw[if_pos h16]
 rw[hk];clear hk;have ht:Tryz.prog.underlying 258=some (.map Cq.k 3):=Tryz.underlying258;have HMK:=k_ hmk;clear hmk;have HB0:=k_ hb0;clear hb0;have HT:=k_ ht;clear ht
 go_enter Tryz.func165,Tryz.ntmps165
 go_upto_region 4 with fail
 have HLM:=k_ (show (0:Nat)<100 by omega)
 go_wp2_with (first | (refine iF rfl (.tmp 15) (.const (.int .i64 1)) 258 3 rfl HMK.out HT.out (dQ _) (1) ⟨by omega,by omega⟩ rfl rfl rfl ?_) | (refine gU rfl (.tmp 15) (.const (.int .i64 1)) (.tmp 17) 258 3 rfl HMK.out HT.out (by have:=HLM.out;unfold maxLen;omega) (1) ⟨by omega,by omega⟩ 1 rfl rfl rfl ?_;intro w1 hm1 ht1))
 have hm2:mJ w1 w.heap.size 1 (kF 0 pl):=hm1.congr (fun a _=>Hu pl a);have hb1:Below w.heap.size w w1:=HB0.out.trans ((bi ht1).below (by simp) (fun k hk=>by omega));clear hm1 ht1 HLM;have HM2:=k_ hm2;clear hm2;have HB1:=k_ hb1;clear hb1;go_wp2_with fail
 go_loopw [19] (fun i wr=>∃ j m:Nat,j≤n∧i=.int .i64 j∧mJ wr w.heap.size m (kF j pl)∧m≤1+2 * j∧Below w.heap.size w wr) (fun i _=>n - (intOf i).toNat)
 case atStart=>exact⟨0,1,Nat.zero_le _,rfl,HM2.out,by omega,HB1.out⟩
 case round =>
  obtain⟨j,m,hj,rfl,hm,hmj,hB⟩:=hrel
  by_cases hlt:j<n
  ·have i1:IntKind.i64.wrap (16+(j:Int))=16+(j:Int):=IntWalk.i64_in _ (by omega)
   have i2:IntKind.i64.wrap (64+(j:Int))=64+(j:Int):=IntWalk.i64_in _ (by omega);have n1:kF j pl (16+(j:Int))=none:=by unfold kF;rw[if_neg (by rintro (h | h | h) <;> omega)]
   have HLM:=k_ (show m<100 by omega);have hz:=hB.size
   cases pl
   ·have HN1:=k_ n1
    clear n1;have HM:=k_ hm;clear hm;have HB:=k_ hB;clear hB
    go_upto_region 8 with fail
    go_wp2_with (first | (refine iF rfl (.tmp 22) (.tmp 24) 258 3 rfl HM.out HT.out (dQ _) (16+(j:Int)) ⟨by omega,by omega⟩ rfl rfl HN1.out ?_) | (refine gU rfl (.tmp 22) (.tmp 24) (.tmp 26) 258 3 rfl HM.out HT.out (by have:=HLM.out;unfold maxLen;omega) (16+(j:Int)) ⟨by omega,by omega⟩ 1 rfl rfl rfl ?_;intro w1 hm1 ht1))
    have hm3:mJ w1 w.heap.size _ (kF (j+1) false):=hm1.congr (fun a _=>Fu j a);have hn3:(if (kF j false (16+(j:Int))).isSome then m else m+1)≤1+2 * (j+1):=by split <;> omega
    have hb3:Below w.heap.size w w1:=HB.out.trans ((bi ht1).below hz (fun k hk=>by omega));clear hm1 ht1;have HM3:=k_ hm3;clear hm3;have HB3:=k_ hb3;clear hb3;have HN3:=k_ hn3;clear hn3;go_wp2_with fail
    go_roundw
    case rel=>exact⟨j+1,_,by omega,by go_num,HM3.out,HN3.out,HB3.out⟩
    case measure=>simp[intOf];omega
   ·have HN1:=k_ n1
    clear n1;have HM:=k_ hm;clear hm;have HB:=k_ hB;clear hB
    go_upto_region 8 with fail
    go_upto_region 10 with (first | (refine iF rfl (.tmp 22) (.tmp 24) 258 3 rfl HM.out HT.out (dQ _) (16+(j:Int)) ⟨by omega,by omega⟩ rfl rfl HN1.out ?_) | (refine gU rfl (.tmp 22) (.tmp 24) (.tmp 26) 258 3 rfl HM.out HT.out (by have:=HLM.out;unfold maxLen;omega) (16+(j:Int)) ⟨by omega,by omega⟩ 1 rfl rfl rfl ?_;intro w1 hm1 ht1))
    have hn3:(if (kF j true (16+(j:Int))).isSome then m else m+1)≤m+1:=by split <;> omega
    generalize (if (kF j true (16+(j:Int))).isSome then m else m+1)=m1 at *;have hb3:Below w.heap.size w w1:=HB.out.trans ((bi ht1).below hz (fun k hk=>by omega));have n2:upd (kF j true) (16+(j:Int)) (some 1) (64+(j:Int))=none:=by
     unfold upd;rw[if_neg (by omega)];unfold kF;rw[if_neg (by rintro (h | h | h) <;> omega)]
    have hz3:=hb3.size;have HN2:=k_ n2;have HM4:=k_ hm1;have HLN:=k_ (show m1<100 by omega);clear hm1 ht1 n2;have HB3:=k_ hb3;clear hb3
    go_wp2_with (first | (refine iF rfl (.tmp 28) (.tmp 30) 258 3 rfl HM4.out HT.out (dQ _) (64+(j:Int)) ⟨by omega,by omega⟩ rfl rfl HN2.out ?_) | (refine gU rfl (.tmp 28) (.tmp 30) (.tmp 32) 258 3 rfl HM4.out HT.out (by have:=HLN.out;unfold maxLen;omega) (64+(j:Int)) ⟨by omega,by omega⟩ 1 rfl rfl rfl ?_;intro w2 hm2' ht2))
    have hm3:mJ w2 w.heap.size _ (kF (j+1) true):=hm2'.congr (fun a _=>IR j (by omega) a);have hn4:(if (upd (kF j true) (16+(j:Int)) (some 1) (64+(j:Int))).isSome then m1 else m1+1)≤1+2 * (j+1):=by split <;> omega
    have hb4:Below w.heap.size w w2:=HB3.out.trans ((bi ht2).below hz3 (fun k hk=>by omega));clear hm2' ht2;have HM3:=k_ hm3;clear hm3;have HB4:=k_ hb4;clear hb4;have HN4:=k_ hn4;clear hn4;go_wp2_with fail
    go_roundw
    case rel=>exact⟨j+1,_,by omega,by go_num,HM3.out,HN4.out,HB4.out⟩
    case measure=>simp[intOf];omega
  ·have hk':j=n:=by omega
   subst hk';have HM:=k_ hm;clear hm;have HB:=k_ hB;clear hB;go_wp2_with fail
   go_ret
   exact⟨_,_,rfl,HM.out,Nat.le_refl _,HB.out⟩
theorem qz {n:Nat} {pl:Bool} {kind x:Int} (h:dZ n pl kind=some x):x=1:=by
 unfold dZ at h
 by_cases hn:n≤16
 ·rw[if_pos hn] at h
  unfold kF at h
  split at h
  ·injection h with h;exact h.symm
  ·cases h
 ·rw[if_neg hn] at h;cases h
theorem vG (w:World) (kind:Int) (n:Nat) (hn:n≤100000) (hkd:aJ kind) :
  Calls Tryz.prog 221 #[.int .i64 kind,.int .i64 n] w fun e w'=>e=.returned (.bool (cK kind n))∧Below w.heap.size w w':=by
 have kn:=qo w n false hn;have ht:Tryz.prog.underlying 258=some (.map Cq.k 3):=Tryz.underlying258;rw[← lU];have KN:=k_ kn;clear kn;have HT:=k_ ht;clear ht
 go_enter Tryz.func221,Tryz.ntmps221
 go_wp2_with fail;refine KN.out.mono ?_;rintro e w1 ⟨b,m,rfl,hm,hb,hB⟩;have HM:=k_ hm;clear hm;have HB:=k_ hB;clear hB
 cases hk:dZ n false kind with
 | none =>
   have HK:=k_ hk;clear hk
   go_wp2_with (refine iF rfl (.tmp 6) (.tmp 7) 258 3 rfl HM.out HT.out (dQ _) kind hkd rfl rfl HK.out ?_)
   go_ret
   exact⟨by rw[HK.out];rfl,HB.out⟩
 | some x =>
   have hx:=qz hk;subst hx;have HK:=k_ hk;clear hk
   go_wp2_with (refine pU rfl (.tmp 6) (.tmp 7) 258 3 rfl HM.out HT.out (dQ _) kind hkd rfl rfl 1 HK.out ?_)
   go_ret
   exact⟨by rw[HK.out];rfl,HB.out⟩
theorem BH (w:World) (kind:Int) (n:Nat) (hn:n≤100000) (hkd:aJ kind) :
  Calls Tryz.prog 290 #[.int .i64 kind,.int .i64 n] w fun e w'=>e=.returned (.bool (iV kind n))∧Below w.heap.size w w':=by
 have kn:=qo w n true hn;have ht:Tryz.prog.underlying 258=some (.map Cq.k 3):=Tryz.underlying258;rw[← yC];have KN:=k_ kn;clear kn;have HT:=k_ ht;clear ht
 go_enter Tryz.func290,Tryz.ntmps290
 go_wp2_with fail;refine KN.out.mono ?_;rintro e w1 ⟨b,m,rfl,hm,hb,hB⟩;have HM:=k_ hm;clear hm;have HB:=k_ hB;clear hB
 cases hk:dZ n true kind with
 | none =>
   have HK:=k_ hk;clear hk
   go_wp2_with (refine iF rfl (.tmp 6) (.tmp 7) 258 3 rfl HM.out HT.out (dQ _) kind hkd rfl rfl HK.out ?_)
   go_ret
   exact⟨by rw[HK.out];rfl,HB.out⟩
 | some x =>
   have hx:=qz hk;subst hx;have HK:=k_ hk;clear hk
   go_wp2_with (refine pU rfl (.tmp 6) (.tmp 7) 258 3 rfl HM.out HT.out (dQ _) kind hkd rfl rfl 1 HK.out ?_)
   go_ret
   exact⟨by rw[HK.out];rfl,HB.out⟩
theorem lW:laidOutB Tryz.prog=true:=by kernel_rfl
theorem J2:(147:TypeId)<Tryz.prog.types.size:=of_decide_eq_true (by kernel_rfl)
theorem Ke:(match Tryz.prog.underlying 147 with | some (.array _ _) | some (.struct _)=>true | _=>false)=true:=by kernel_rfl
theorem EL:Keyed Tryz.prog 147:=Keyed.of_law (deep_law_laid lW (m:=2) (by omega) J2 (by kernel_rfl) Ke)
theorem JX (a b:Int) (ha:aJ a) (hb:aJ b):∃ l,keyOf Tryz.prog 147 (.agg #[.int .i64 a,.int .i64 b])=some l:=by
 have hc:Tryz.prog.cellsOf 147=2:=by kernel_rfl
 have hk:Tryz.prog.keyType 147=true:=by kernel_rfl
 have hf:(Value.agg #[.int .i64 a,.int .i64 b]).formed Tryz.prog 147=true:=by simp[Value.formed,Tryz.underlying147,hc]
 have h1:∀ d x,aJ x→Tryz.prog.keyLits (d+1) 3 [.int .i64 x]=some [.int .i64 x]:=fun d x hx=>by
  unfold Program.keyLits
  simp[Tryz.underlying3,qj hx]
 have hci:Tryz.prog.cellsOf 3=1:=by kernel_rfl
 have h2:∀ d,Tryz.prog.keyLits (d+2) 147 [.int .i64 a,.int .i64 b]=some [.int .i64 a,.int .i64 b]:=fun d=>by
  unfold Program.keyLits
  simp[Tryz.underlying147,hc,hci,h1 d a ha,h1 d b hb]
 obtain⟨n,hn⟩:∃ n,Tryz.prog.types.size+1=n+2:=⟨Tryz.prog.types.size - 1,by have:0<Tryz.prog.types.size:=Nat.lt_of_le_of_lt (Nat.zero_le _) J2;omega⟩;unfold keyOf;rw[Tryz.underlying147];simp only[hk,hf,Bool.and_self,if_true];refine⟨.string (keyBytes [.int .i64 a,.int .i64 b]),?_⟩;rw[hn]
 show Option.map (fun ls=>Lit.string (keyBytes ls)) (Tryz.prog.keyLits (n+2) 147 [.int .i64 a,.int .i64 b])=_
 rw[h2]
 rfl
noncomputable def plK:KeyTy Tryz.prog { x:Int × Int // aJ x.1∧aJ x.2 } where
 k:=147
 law:=EL
 key:=fun x=>.agg #[.int .i64 x.1.1,.int .i64 x.1.2]
 lit:=fun x=>(keyOf Tryz.prog 147 (.agg #[.int .i64 x.1.1,.int .i64 x.1.2])).getD (.bool true)
 wf:=fun _=>True
 hkey:=fun x _=>by
  obtain⟨l,h⟩:=JX x.1.1 x.1.2 x.2.1 x.2.2;rw[h];rfl
 inj:=fun x y h=>by
  obtain⟨l,h1⟩:=JX x.1.1 x.1.2 x.2.1 x.2.2;obtain⟨m,h2⟩:=JX y.1.1 y.1.2 y.2.1 y.2.2;rw[h1,h2] at h;have e:l=m:=h;subst e;have h3:=EL.inj h1 h2;obtain⟨⟨x1,x2⟩,_⟩:=x;obtain⟨⟨y1,y2⟩,_⟩:=y
  simp at h3
  obtain⟨rfl,rfl⟩:=h3
  rfl
end Go.Proofs.YtlofbhoicbemnaaGreatDoor
namespace Go.Proofs.YtlofbhoicbemnaaGreatDoor.Tk
open Go.ChangeShapes Go.WideShapes Go.ChangeAt Go.RowKit Go.Maps
theorem IY:(119:TypeId)<Tryz.prog.types.size:=of_decide_eq_true (by kernel_rfl)
theorem Jq:(match Tryz.prog.underlying 119 with | some (.array _ _) | some (.struct _)=>true | _=>false)=true:=by kernel_rfl
theorem Bo:Keyed Tryz.prog 119:=Keyed.of_law (deep_law_laid lW (m:=2) (by omega) IY (by kernel_rfl) Jq)
theorem IZ:(178:TypeId)<Tryz.prog.types.size:=of_decide_eq_true (by kernel_rfl)
theorem Jr:(match Tryz.prog.underlying 178 with | some (.array _ _) | some (.struct _)=>true | _=>false)=true:=by kernel_rfl
theorem Bu:Keyed Tryz.prog 178:=Keyed.of_law (deep_law_laid lW (m:=2) (by omega) IZ (by kernel_rfl) Jr)
theorem FW (a b:Int) (ha:aJ a) (hb:aJ b):∃ l,keyOf Tryz.prog 119 (.agg #[.int .i64 a,.int .i64 b])=some l:=by
 have hc:Tryz.prog.cellsOf 119=2:=by kernel_rfl
 have hk:Tryz.prog.keyType 119=true:=by kernel_rfl
 have hf:(Value.agg #[.int .i64 a,.int .i64 b]).formed Tryz.prog 119=true:=by simp[Value.formed,Tryz.underlying119,hc]
 have h1:∀ d x,aJ x→Tryz.prog.keyLits (d+1) 3 [.int .i64 x]=some [.int .i64 x]:=fun d x hx=>by
  unfold Program.keyLits
  simp[Tryz.underlying3,qj hx]
 have hci:Tryz.prog.cellsOf 3=1:=by kernel_rfl
 have h2:∀ d,Tryz.prog.keyLits (d+2) 119 [.int .i64 a,.int .i64 b]=some [.int .i64 a,.int .i64 b]:=fun d=>by
  unfold Program.keyLits
  simp[Tryz.underlying119,hc,hci,h1 d a ha,h1 d b hb,List.range_succ]
 obtain⟨n,hn⟩:∃ n,Tryz.prog.types.size+1=n+2:=⟨Tryz.prog.types.size - 1,by have:0<Tryz.prog.types.size:=Nat.lt_of_le_of_lt (Nat.zero_le _) IY;omega⟩;unfold keyOf;rw[Tryz.underlying119];simp only[hk,hf,Bool.and_self,if_true];refine⟨.string (keyBytes [.int .i64 a,.int .i64 b]),?_⟩;rw[hn]
 show Option.map (fun ls=>Lit.string (keyBytes ls)) (Tryz.prog.keyLits (n+2) 119 [.int .i64 a,.int .i64 b])=_
 rw[h2]
 rfl
noncomputable def prK:KeyTy Tryz.prog { x:Int × Int // aJ x.1∧aJ x.2 } where
 k:=119
 law:=Bo
 key:=fun x=>.agg #[.int .i64 x.1.1,.int .i64 x.1.2]
 lit:=fun x=>(keyOf Tryz.prog 119 (.agg #[.int .i64 x.1.1,.int .i64 x.1.2])).getD (.bool true)
 wf:=fun _=>True
 hkey:=fun x _=>by
  obtain⟨l,h⟩:=FW x.1.1 x.1.2 x.2.1 x.2.2;rw[h];rfl
 inj:=fun x y h=>by
  obtain⟨l,h1⟩:=FW x.1.1 x.1.2 x.2.1 x.2.2;obtain⟨m,h2⟩:=FW y.1.1 y.1.2 y.2.1 y.2.2;rw[h1,h2] at h;have e:l=m:=h;subst e;have h3:=Bo.inj h1 h2;obtain⟨⟨x1,x2⟩,_⟩:=x;obtain⟨⟨y1,y2⟩,_⟩:=y
  simp at h3
  obtain⟨rfl,rfl⟩:=h3
  rfl
theorem FZ (a:Int) (ha:aJ a):∃ l,keyOf Tryz.prog 178 (.agg #[.int .i64 a])=some l:=by
 have hc:Tryz.prog.cellsOf 178=1:=by kernel_rfl
 have hk:Tryz.prog.keyType 178=true:=by kernel_rfl
 have hf:(Value.agg #[.int .i64 a]).formed Tryz.prog 178=true:=by simp[Value.formed,Tryz.underlying178,hc]
 have h1:∀ d x,aJ x→Tryz.prog.keyLits (d+1) 3 [.int .i64 x]=some [.int .i64 x]:=fun d x hx=>by
  unfold Program.keyLits
  simp[Tryz.underlying3,qj hx]
 have hci:Tryz.prog.cellsOf 3=1:=by kernel_rfl
 have h2:∀ d,Tryz.prog.keyLits (d+2) 178 [.int .i64 a]=some [.int .i64 a]:=fun d=>by
  unfold Program.keyLits
  simp[Tryz.underlying178,hc,hci,h1 d a ha,List.range_succ]
 obtain⟨n,hn⟩:∃ n,Tryz.prog.types.size+1=n+2:=⟨Tryz.prog.types.size - 1,by have:0<Tryz.prog.types.size:=Nat.lt_of_le_of_lt (Nat.zero_le _) IZ;omega⟩;unfold keyOf;rw[Tryz.underlying178];simp only[hk,hf,Bool.and_self,if_true];refine⟨.string (keyBytes [.int .i64 a]),?_⟩;rw[hn]
 show Option.map (fun ls=>Lit.string (keyBytes ls)) (Tryz.prog.keyLits (n+2) 178 [.int .i64 a])=_
 rw[h2]
 rfl
noncomputable def acK:KeyTy Tryz.prog { x:Int // aJ x } where
 k:=178
 law:=Bu
 key:=fun x=>.agg #[.int .i64 x.1]
 lit:=fun x=>(keyOf Tryz.prog 178 (.agg #[.int .i64 x.1])).getD (.bool true)
 wf:=fun _=>True
 hkey:=fun x _=>by
  obtain⟨l,h⟩:=FZ x.1 x.2;rw[h];rfl
 inj:=fun x y h=>by
  obtain⟨l,h1⟩:=FZ x.1 x.2;obtain⟨m,h2⟩:=FZ y.1 y.2;rw[h1,h2] at h;have e:l=m:=h;subst e;have h3:=Bu.inj h1 h2;obtain⟨x1,_⟩:=x;obtain⟨y1,_⟩:=y
  simp at h3
  subst h3
  rfl
def gy (s g:Int):Int × Bool:=if s=0∧g=0 then (1,true) else if s=1∧g=1 then (2,true) else if s=1∧g=2 then (3,true) else if s=2∧g=3 then (0,true) else if s=3∧g=3 then (0,true) else (0,false)
abbrev I2:={ x:Int × Int // aJ x.1∧aJ x.2 }
theorem JV (n:Int) (h:0≤n∧n≤100):aJ n:=by unfold aJ;omega
def i2 (a b:Int) (h:(0≤a∧a≤100)∧(0≤b∧b≤100)):I2:=⟨(a,b),JV a h.1,JV b h.2⟩
def zu:List (Nat × I2 × Int):=[(2,i2 0 0 (by omega),1),(4,i2 1 1 (by omega),2),(6,i2 1 2 (by omega),3),(8,i2 2 3 (by omega),0),(10,i2 3 3 (by omega),0)]
theorem EH {g:I2→Option Int} (h1:∀ x ∈ zu,g x.2.1=some x.2.2) (h2:∀ k,(∀ x ∈ zu,x.2.1≠k)→g k=none) (s d:Int) (hk:aJ s∧aJ d) :
  (g ⟨(s,d),hk⟩=some (gy s d).1∧(gy s d).2=true)∨(g ⟨(s,d),hk⟩=none∧gy s d=(0,false)):=by
 have e:∀ x y:I2,x.1=y.1→x=y:=fun x y h=>Subtype.ext h
 by_cases c0:s=0∧d=0
 ·left
  have:=h1 _ (List.mem_cons_self ..);rw[show (⟨(s,d),hk⟩:I2)=i2 0 0 (by omega) from e _ _ (by show (s,d)=((0:Int),(0:Int));rw[c0.1,c0.2])];exact⟨by rw[this,c0.1,c0.2];rfl,by rw[c0.1,c0.2];rfl⟩
 by_cases c1:s=1∧d=1
 ·left
  have:=h1 _ (List.mem_cons_of_mem _ (List.mem_cons_self ..));rw[show (⟨(s,d),hk⟩:I2)=i2 1 1 (by omega) from e _ _ (by show (s,d)=((1:Int),(1:Int));rw[c1.1,c1.2])];exact⟨by rw[this,c1.1,c1.2];rfl,by rw[c1.1,c1.2];rfl⟩
 by_cases c2:s=1∧d=2
 ·left
  have:=h1 _ (List.mem_cons_of_mem _ (List.mem_cons_of_mem _ (List.mem_cons_self ..)));rw[show (⟨(s,d),hk⟩:I2)=i2 1 2 (by omega) from e _ _ (by show (s,d)=((1:Int),(2:Int));rw[c2.1,c2.2])];exact⟨by rw[this,c2.1,c2.2];rfl,by rw[c2.1,c2.2];rfl⟩
 by_cases c3:s=2∧d=3
 ·left
  have:=h1 _ (List.mem_cons_of_mem _ (List.mem_cons_of_mem _ (List.mem_cons_of_mem _ (List.mem_cons_self ..))));rw[show (⟨(s,d),hk⟩:I2)=i2 2 3 (by omega) from e _ _ (by show (s,d)=((2:Int),(3:Int));rw[c3.1,c3.2])];exact⟨by rw[this,c3.1,c3.2];rfl,by rw[c3.1,c3.2];rfl⟩
 by_cases c4:s=3∧d=3
 ·left
  have:=h1 _ (List.mem_cons_of_mem _ (List.mem_cons_of_mem _ (List.mem_cons_of_mem _ (List.mem_cons_of_mem _ (List.mem_cons_self ..)))));rw[show (⟨(s,d),hk⟩:I2)=i2 3 3 (by omega) from e _ _ (by show (s,d)=((3:Int),(3:Int));rw[c4.1,c4.2])];exact⟨by rw[this,c4.1,c4.2];rfl,by rw[c4.1,c4.2];rfl⟩
 right
 refine⟨h2 _ (fun x hx he=>?_),by unfold gy;rw[if_neg c0,if_neg c1,if_neg c2,if_neg c3,if_neg c4]⟩;simp only[zu,List.mem_cons,List.not_mem_nil,or_false] at hx;have hv:x.2.1.1=(s,d):=by rw[he]
 rcases hx with rfl | rfl | rfl | rfl | rfl <;> (simp only[i2,Prod.mk.injEq] at hv;omega)
theorem yS (w:World) (s d:Int) (hk:aJ s∧aJ d) :
  Calls Tryz.prog 235 #[.int .i64 s,.int .i64 d] w fun e w'=>e=.returned (.tuple #[.int .i64 (gy s d).1,.bool (gy s d).2])∧Below w.heap.size w w':=by
 have hz:∀ w,(zeroValue 3).run Tryz.prog w=.ok (.int .i64 0) w:=fun w=>by kernel_rfl
 obtain⟨⟨r,is⟩,hr⟩:∃ r,r=gy s d:=⟨_,rfl⟩;have hin:∀ g:I2→Option Int,(∀ x ∈ zu,g x.2.1=some x.2.2)→(∀ k,(∀ x ∈ zu,x.2.1≠k)→g k=none)→(g ⟨(s,d),hk⟩=some r∧is=true)∨(g ⟨(s,d),hk⟩=none∧r=0∧is=false):=fun g h1 h2=>by
  rcases EH h1 h2 s d hk with⟨h3,h4⟩ | ⟨h3,h4⟩
  ·exact .inl ⟨by rw[h3,← hr],by rw[← h4,← hr]⟩
  ·rw[h4] at hr;injection hr with e1 e2;exact .inr ⟨h3,e1,e2⟩
 rw[← hr];have HIN:=k_ hin;clear hin hr
 go_enter Tryz.func235,Tryz.ntmps235
 go_upto_region 1 with fail
 refine wp_region_noPanic ?_;refine wp_region_held_drew (S:=fun w'=>Below w.heap.size w w') (by kernel_rfl) (Below.refl _ _).drew (fun _=>?_);have HR1:=k_ (Below.refl w.heap.size w).drew;have hs1:w.drew.heap.size=w.heap.size:=rfl;have HS1:=k_ hs1;clear hs1;generalize w.drew=r1 at *;refine tk_ (i:=1) (v:=?_) rfl (by kernel_rfl) (fun _ _ _ h=>h) ?tq1 HR1.out ?_
 case tq1=>(intro wq hq;go_simp;first | done | with_reducible rfl)
 refine tk_ (i:=3) (v:=?_) rfl (by kernel_rfl) (fun _ _ _ h=>h) ?tq2 HR1.out ?_
 case tq2=>(intro wq hq;go_simp;first | done | with_reducible rfl)
 refine tk_ (i:=5) (v:=?_) rfl (by kernel_rfl) (fun _ _ _ h=>h) ?tq3 HR1.out ?_
 case tq3=>(intro wq hq;go_simp;first | done | with_reducible rfl)
 refine tk_ (i:=7) (v:=?_) rfl (by kernel_rfl) (fun _ _ _ h=>h) ?tq4 HR1.out ?_
 case tq4=>(intro wq hq;go_simp;first | done | with_reducible rfl)
 refine tk_ (i:=9) (v:=?_) rfl (by kernel_rfl) (fun _ _ _ h=>h) ?tq5 HR1.out ?_
 case tq5=>(intro wq hq;go_simp;first | done | with_reducible rfl)
 refine rd_ (i:=0) (by kernel_rfl) rfl fun K hK=>?_
 go_simp;have hb2:Below w.heap.size w (r1.alloc (.map #[] 0)):=HR1.out.alloc HR1.out.size _;refine hK.out _ _ hb2 (fun _=>?_);clear hK K;refine rV (K:=prK) (val:=Value.int .i64) Tryz.underlying363 _ r1.heap.size (fun w'=>Below w.heap.size w w') (fun _ h=>h) (fun w1 w2 h1 h2=>h1.trans ((bi h2).below (N:=w.heap.size) h1.size (fun q hq=>by have:=HS1.out;have hq:q=r1.heap.size:=hq;omega))) 2 5 zu rfl _ _ (by kernel_rfl) (fun x hx=>?_) (by decide) (by decide) (by kernel_rfl) (bf.made prK _ r1) (by decide) hb2 (fun w3 n g hn hm h1 h2 hb3=>?_)
 ·simp only[zu,List.mem_cons,List.not_mem_nil,or_false] at hx
  rcases hx with rfl | rfl | rfl | rfl | rfl <;> exact⟨⟨_,_,_,rfl,rfl,rfl,rfl⟩,trivial⟩
 have hlk:=HIN.out g h1 h2;have HM:=k_ hm;have HB3:=k_ hb3;clear hm h1 h2 hb3;refine tk_ (i:=11) (v:=?_) rfl (by kernel_rfl) (fun _ _ _ h=>h) ?tq6 HB3.out ?_
 case tq6=>(intro wq hq;go_simp;first | done | with_reducible rfl)
 refine tk_ (i:=12) (v:=?_) rfl (by kernel_rfl) (fun _ _ _ h=>h) ?tq7 HB3.out ?_
 case tq7=>(intro wq hq;go_simp;first | done | with_reducible rfl)
 refine wpAnyH_done (by kernel_rfl) ?_ _;refine NoPanic.normal ?_
 rcases hlk with⟨hg,rfl⟩ | ⟨hg,rfl,rfl⟩
 ·go_wp2_with (refine kC rfl (.tmp 17) (.tmp 20) 363 3 rfl HM.out Tryz.underlying363 (hz _) ⟨(s,d),hk⟩ trivial rfl rfl _ hg ?_)
  go_ret2
  exact⟨rfl,HB3.out⟩
 ·go_wp2_with (refine wB rfl (.tmp 17) (.tmp 20) 363 3 rfl HM.out Tryz.underlying363 (hz _) ⟨(s,d),hk⟩ trivial rfl rfl hg ?_)
  go_ret2
  exact⟨rfl,HB3.out⟩
def takeA (s g:Int):Int × Bool:=(if (gy s g).2 then (gy s g).1 else s,(gy s g).2)
theorem wV (w:World) (s:Int) (b:Bool) (g:Int) (hk:aJ s∧aJ g) :
  Calls Tryz.prog 168 #[.agg #[.int .i64 s,.bool b],.int .i64 g] w fun e w'=>e=.returned (.tuple #[.agg #[.int .i64 (takeA s g).1,.bool b],.bool (takeA s g).2])∧Below w.heap.size w w':=by
 have st:=fun w=>yS w s g hk
 unfold takeA;generalize (gy s g).1=r at *;generalize (gy s g).2=is at *;clear hk;have hb0:=((Below.refl w.heap.size w).alloc (Nat.le_refl _) (.cells #[.int .i64 s,.bool b] 213));have hb1:=hb0.alloc hb0.size (.cells #[.int .i64 0,.bool false] 213);have hr0:=aU (ai w (.cells #[.int .i64 s,.bool b] 213)) (.cells #[.int .i64 0,.bool false] 213);have hr1:=ai (w.alloc (.cells #[.int .i64 s,.bool b] 213)) (.cells #[.int .i64 0,.bool false] 213);obtain⟨W,hW⟩:∃ W,W=(w.alloc (.cells #[.int .i64 s,.bool b] 213)).alloc (.cells #[.int .i64 0,.bool false] 213):=⟨_,rfl⟩;rw[← hW] at hb1 hr0 hr1;obtain⟨z0,hz0⟩:∃ z0,z0=w.heap.size:=⟨_,rfl⟩;obtain⟨z1,hz1⟩:∃ z1,z1=w.heap.size+1:=⟨_,rfl⟩;rw[show (w.alloc (.cells #[.int .i64 s,.bool b] 213)).heap.size=z1 from by rw[hz1];simp] at hr1;rw[← hz0] at hr0;have hne:¬ z0=z1:=by omega
 have hne':¬ z1=z0:=by omega
 have HW:=k_ hW;have HZ0:=k_ hz0;have HZ1:=k_ hz1;clear hb0 hW hz0 hz1;have HB1:=k_ hb1;clear hb1;have HR0:=k_ hr0;clear hr0;have HR1:=k_ hr1;clear hr1;have ST:=k_ st;clear st
 go_enter Tryz.func168,Tryz.ntmps168
 go_upto_region 1 with fail
 rw[← HW.out,← HZ1.out,← HZ0.out];have k0:=(aa ((Fr.of_below (Below.refl _ _) (fun _=>False)).heap HR0.out (fun h=>h)) 0).1;have k1:=(aa ((Fr.of_below (Below.refl _ _) (fun _=>False)).heap HR0.out (fun h=>h)) 1).1;have f0:=(aa ((Fr.of_below (Below.refl _ _) (fun _=>False)).heap HR0.out (fun h=>h)) 0).2;have f1:=(aa ((Fr.of_below (Below.refl _ _) (fun _=>False)).heap HR0.out (fun h=>h)) 1).2;have l0:=(aa ((Fr.of_below (Below.refl _ _) (fun _=>False)).heap HR1.out (fun h=>h)) 0).1;have l1:=(aa ((Fr.of_below (Below.refl _ _) (fun _=>False)).heap HR1.out (fun h=>h)) 1).1;have g0:=(aa ((Fr.of_below (Below.refl _ _) (fun _=>False)).heap HR1.out (fun h=>h)) 0).2;have g1:=(aa ((Fr.of_below (Below.refl _ _) (fun _=>False)).heap HR1.out (fun h=>h)) 1).2;simp only[List.getElem?_toArray,List.getElem?_cons_zero,List.getElem?_cons_succ] at k0 k1 l0 l1;go_wp2_with fail;refine(ST.out _).mono ?_;rintro e w1 ⟨rfl,hb⟩;clear k0 k1 l0 l1 f0 f1 g0 g1;have k0:=(aa ((fb_ hb).heap HR0.out (fun h=>h)) 0).1;have k1:=(aa ((fb_ hb).heap HR0.out (fun h=>h)) 1).1;have f0:=(aa ((fb_ hb).heap HR0.out (fun h=>h)) 0).2;have f1:=(aa ((fb_ hb).heap HR0.out (fun h=>h)) 1).2;have l0:=(aa ((fb_ hb).heap HR1.out (fun h=>h)) 0).1;have l1:=(aa ((fb_ hb).heap HR1.out (fun h=>h)) 1).1;have g0:=(aa ((fb_ hb).heap HR1.out (fun h=>h)) 0).2;have g1:=(aa ((fb_ hb).heap HR1.out (fun h=>h)) 1).2;simp only[List.getElem?_toArray,List.getElem?_cons_zero,List.getElem?_cons_succ] at k0 k1 l0 l1;have HB:=k_ (HB1.out.trans (hb.mono HB1.out.size));have hr1:=(fb_ hb).heap HR1.out (fun h=>h);have hle0:w.heap.size≤z0:=Nat.le_of_eq HZ0.out.symm;have hle1:w.heap.size≤z1:=by have:=HZ1.out;omega
 cases is
 ·have hf:Fr (fun k=>k=z1) w1 _:=((Fr.refl (fun k=>k=z1) w1).setCell (p:=⟨z1,0,none⟩) (fun _=>rfl) (.int .i64 s)).setCell (p:=⟨z1,1,none⟩) (fun _=>rfl) (.bool b)
  have hb2:=HB.out.trans (hf.below HB.out.size (fun k hk=>by have hk:k=z1:=hk;omega));have hrs:=ag (ag hr1 0 (.int .i64 s)) 1 (.bool b);have HB2:=k_ hb2;clear hb2;have HRS:=k_ hrs;clear hrs;clear hf hr1;go_wp2_with fail;refine bodyPost_ret ?_ rfl (And.intro rfl HB2.out);have q0:=(aa HRS.out 0).1;have q1:=(aa HRS.out 1).1
  simp at q0 q1
  simp[results,Tryz.results168,go_sem,q0,q1]
 ·have hf:Fr (fun k=>k=z0∨k=z1) w1 _:=(((Fr.refl (fun k=>k=z0∨k=z1) w1).setCell (p:=⟨z0,0,none⟩) (fun _=>.inl rfl) (.int .i64 r)).setCell (p:=⟨z1,0,none⟩) (fun _=>.inr rfl) (.int .i64 r)).setCell (p:=⟨z1,1,none⟩) (fun _=>.inr rfl) (.bool b)
  have hb2:=HB.out.trans (hf.below HB.out.size (fun k hk=>by rcases hk with h | h <;> omega));have hra:=((Fr.refl (fun k=>k=z0) w1).setCell (p:=⟨z0,0,none⟩) (fun _=>rfl) (.int .i64 r)).heap hr1 hne';have hrs:=ag (ag hra 0 (.int .i64 r)) 1 (.bool b);have HB2:=k_ hb2;clear hb2;have HRS:=k_ hrs;clear hrs;clear hf hr1 hra;go_wp2_with fail;refine bodyPost_ret ?_ rfl (And.intro rfl HB2.out);have q0:=(aa HRS.out 0).1;have q1:=(aa HRS.out 1).1
  simp at q0 q1
  simp[results,Tryz.results168,go_sem,q0,q1]
def sD (s:Int) (a:Bool):Int × Bool:=if a then takeA s 1 else (s,false)
theorem Cm (w:World) (s:Int) (b a:Bool) (hk:aJ s) :
  Calls Tryz.prog 124 #[.agg #[.int .i64 s,.bool b],.bool a] w fun e w'=>e=.returned (.tuple #[.agg #[.int .i64 (sD s a).1,.bool b],.bool (sD s a).2])∧Below w.heap.size w w':=by
 have st:=fun w=>wV w s b 1 ⟨hk,by unfold aJ;omega⟩
 clear hk;have hb0:=((Below.refl w.heap.size w).alloc (Nat.le_refl _) (.cells #[.int .i64 s,.bool b] 213));have hb1:=hb0.alloc hb0.size (.cells #[.int .i64 0,.bool false] 213);have hr0:=aU (ai w (.cells #[.int .i64 s,.bool b] 213)) (.cells #[.int .i64 0,.bool false] 213);have hr1:=ai (w.alloc (.cells #[.int .i64 s,.bool b] 213)) (.cells #[.int .i64 0,.bool false] 213);obtain⟨W,hW⟩:∃ W,W=(w.alloc (.cells #[.int .i64 s,.bool b] 213)).alloc (.cells #[.int .i64 0,.bool false] 213):=⟨_,rfl⟩;rw[← hW] at hb1 hr0 hr1;obtain⟨z0,hz0⟩:∃ z0,z0=w.heap.size:=⟨_,rfl⟩;obtain⟨z1,hz1⟩:∃ z1,z1=w.heap.size+1:=⟨_,rfl⟩;rw[show (w.alloc (.cells #[.int .i64 s,.bool b] 213)).heap.size=z1 from by rw[hz1];simp] at hr1;rw[← hz0] at hr0;have hne:¬ z0=z1:=by omega
 have hne':¬ z1=z0:=by omega
 have HW:=k_ hW;have HZ0:=k_ hz0;have HZ1:=k_ hz1;clear hb0 hW hz0 hz1;have HB1:=k_ hb1;clear hb1;have HR0:=k_ hr0;clear hr0;have HR1:=k_ hr1;clear hr1;have ST:=k_ st;clear st;have hle1:w.heap.size≤z1:=by have:=HZ1.out;omega
 cases a
 ·unfold sD
  simp only[Bool.false_eq_true,if_false]
  go_enter Tryz.func124,Tryz.ntmps124
  go_upto_region 1 with fail
  rw[← HW.out,← HZ1.out,← HZ0.out];have k0:=(aa ((Fr.of_below (Below.refl _ _) (fun _=>False)).heap HR0.out (fun h=>h)) 0).1;have k1:=(aa ((Fr.of_below (Below.refl _ _) (fun _=>False)).heap HR0.out (fun h=>h)) 1).1;have f0:=(aa ((Fr.of_below (Below.refl _ _) (fun _=>False)).heap HR0.out (fun h=>h)) 0).2;have f1:=(aa ((Fr.of_below (Below.refl _ _) (fun _=>False)).heap HR0.out (fun h=>h)) 1).2;have l0:=(aa ((Fr.of_below (Below.refl _ _) (fun _=>False)).heap HR1.out (fun h=>h)) 0).1;have l1:=(aa ((Fr.of_below (Below.refl _ _) (fun _=>False)).heap HR1.out (fun h=>h)) 1).1;have g0:=(aa ((Fr.of_below (Below.refl _ _) (fun _=>False)).heap HR1.out (fun h=>h)) 0).2;have g1:=(aa ((Fr.of_below (Below.refl _ _) (fun _=>False)).heap HR1.out (fun h=>h)) 1).2;simp only[List.getElem?_toArray,List.getElem?_cons_zero,List.getElem?_cons_succ] at k0 k1 l0 l1;have hf:Fr (fun k=>k=z1) W _:=((Fr.refl (fun k=>k=z1) W).setCell (p:=⟨z1,0,none⟩) (fun _=>rfl) (.int .i64 s)).setCell (p:=⟨z1,1,none⟩) (fun _=>rfl) (.bool b);have hb2:=HB1.out.trans (hf.below HB1.out.size (fun k hk=>by have hk:k=z1:=hk;omega));have hrs:=ag (ag HR1.out 0 (.int .i64 s)) 1 (.bool b);have HB2:=k_ hb2;clear hb2;have HRS:=k_ hrs;clear hrs;clear hf;go_wp2_with fail;refine bodyPost_ret ?_ rfl (And.intro rfl HB2.out);have q0:=(aa HRS.out 0).1;have q1:=(aa HRS.out 1).1
  simp at q0 q1
  simp[results,Tryz.results124,go_sem,q0,q1]
 ·unfold sD
  simp only[if_true];generalize (takeA s 1).1=r at *;generalize (takeA s 1).2=is at *
  go_enter Tryz.func124,Tryz.ntmps124
  go_upto_region 1 with fail
  rw[← HW.out,← HZ1.out,← HZ0.out];have k0:=(aa ((Fr.of_below (Below.refl _ _) (fun _=>False)).heap HR0.out (fun h=>h)) 0).1;have k1:=(aa ((Fr.of_below (Below.refl _ _) (fun _=>False)).heap HR0.out (fun h=>h)) 1).1;have f0:=(aa ((Fr.of_below (Below.refl _ _) (fun _=>False)).heap HR0.out (fun h=>h)) 0).2;have f1:=(aa ((Fr.of_below (Below.refl _ _) (fun _=>False)).heap HR0.out (fun h=>h)) 1).2;have l0:=(aa ((Fr.of_below (Below.refl _ _) (fun _=>False)).heap HR1.out (fun h=>h)) 0).1;have l1:=(aa ((Fr.of_below (Below.refl _ _) (fun _=>False)).heap HR1.out (fun h=>h)) 1).1;have g0:=(aa ((Fr.of_below (Below.refl _ _) (fun _=>False)).heap HR1.out (fun h=>h)) 0).2;have g1:=(aa ((Fr.of_below (Below.refl _ _) (fun _=>False)).heap HR1.out (fun h=>h)) 1).2;simp only[List.getElem?_toArray,List.getElem?_cons_zero,List.getElem?_cons_succ] at k0 k1 l0 l1;go_wp2_with fail;refine(ST.out _).mono ?_;rintro e w1 ⟨rfl,hb⟩;clear k0 k1 l0 l1 f0 f1 g0 g1;have k0:=(aa ((fb_ hb).heap HR0.out (fun h=>h)) 0).1;have k1:=(aa ((fb_ hb).heap HR0.out (fun h=>h)) 1).1;have f0:=(aa ((fb_ hb).heap HR0.out (fun h=>h)) 0).2;have f1:=(aa ((fb_ hb).heap HR0.out (fun h=>h)) 1).2;have l0:=(aa ((fb_ hb).heap HR1.out (fun h=>h)) 0).1;have l1:=(aa ((fb_ hb).heap HR1.out (fun h=>h)) 1).1;have g0:=(aa ((fb_ hb).heap HR1.out (fun h=>h)) 0).2;have g1:=(aa ((fb_ hb).heap HR1.out (fun h=>h)) 1).2;simp only[List.getElem?_toArray,List.getElem?_cons_zero,List.getElem?_cons_succ] at k0 k1 l0 l1;have HB:=k_ (HB1.out.trans (hb.mono HB1.out.size));have hr1:=(fb_ hb).heap HR1.out (fun h=>h);have hf:Fr (fun k=>k=z1) w1 _:=((Fr.refl (fun k=>k=z1) w1).setCell (p:=⟨z1,0,none⟩) (fun _=>rfl) (.int .i64 r)).setCell (p:=⟨z1,1,none⟩) (fun _=>rfl) (.bool b);have hb2:=HB.out.trans (hf.below HB.out.size (fun k hk=>by have hk:k=z1:=hk;omega));have hrs:=ag (ag hr1 0 (.int .i64 r)) 1 (.bool b);have HB2:=k_ hb2;clear hb2;have HRS:=k_ hrs;clear hrs;clear hf hr1;go_wp2_with fail;refine bodyPost_ret ?_ rfl (And.intro rfl HB2.out);have q0:=(aa HRS.out 0).1;have q1:=(aa HRS.out 1).1
  simp at q0 q1
  simp[results,Tryz.results124,go_sem,q0,q1]
theorem Eu (w:World) (s:Int) (b:Bool) :
  Calls Tryz.prog 123 #[.agg #[.int .i64 s,.bool b]] w fun e w'=>e=.returned (.bool (decide (s=0∨s=1)))∧Below w.heap.size w w':=by
 by_cases h0:s=0
 ·subst h0
  go_enter Tryz.func123,Tryz.ntmps123
  go_wp2_with fail
  go_ret
  exact⟨rfl,(Below.refl _ _).alloc (Nat.le_refl _) _⟩
 ·by_cases h1:s=1
  ·subst h1
   go_enter Tryz.func123,Tryz.ntmps123
   go_wp2_with fail
   go_ret
   exact⟨rfl,(Below.refl _ _).alloc (Nat.le_refl _) _⟩
  ·have d1:(s == 0)=false:=by rw[beq_eq_false_iff_ne];exact h0
   have d2:(s == 1)=false:=by rw[beq_eq_false_iff_ne];exact h1
   rw[decide_eq_false (by omega)]
   go_enter Tryz.func123,Tryz.ntmps123
   go_wp2_with fail
   go_ret
   exact⟨by rfl,(Below.refl _ _).alloc (Nat.le_refl _) _⟩
end Go.Proofs.YtlofbhoicbemnaaGreatDoor.Tk
namespace Go.Proofs.YtlofbhoicbemnaaGreatDoor
open Go.ChangeShapes Go.WideShapes Go.ChangeAt Go.RowKit
def Js (f:Fun):Prop:=(∀ x ∈ f.args,aJ x)∧aJ f.result∧aJ f.slots∧(∀ x ∈ f.objects,aJ x)∧∀ i ∈ f.code,i.wf
def pM (p:Prg):Prop:=(∀ x ∈ p.globals,aJ x)∧(∀ s ∈ p.shapes,∀ x ∈ s,aJ x)∧∀ f ∈ p.funcs,Js f
variable {H:Type} {enc:TypeId × Value→H}
end Go.Proofs.YtlofbhoicbemnaaGreatDoor
