/- A machine as it lies in memory; what is asked of it. Walks: shape.Check, the reference's Shapes. Walks: check.look's callee, quiet. .. -/
import Derived.Test.YtlofbhoicbemnaaGreatDoorDAl
set_option linter.unusedVariables false
set_option linter.unusedSimpArgs false
set_option maxRecDepth 100000
set_option maxHeartbeats 1600000
namespace Go.Proofs.YtlofbhoicbemnaaGreatDoor.Tk
open Go.ChangeShapes Go.WideShapes Go.ChangeAt Go.RowKit Go.Maps
structure WoD where (c0 c1 c2:Value) (n3 n4 n5 n6 n7:Int) (mb hb pb:Nat) (br ph cy si:Int) (tk hd gl ot:Value) (sr st cd:Int)
def WoD.cells (X:WoD):Array Value:=#[X.c0,X.c1,X.c2,.int .i64 X.n3,.int .i64 X.n4,.int .i64 X.n5,.int .i64 X.n6,.int .i64 X.n7,.pointer (some ⟨X.mb,0,none⟩),.pointer (some ⟨X.hb,0,none⟩),.pointer (some ⟨X.pb,0,none⟩),.int .u64 X.br,.int .i64 X.ph,.int .i64 X.cy,.int .i64 X.si,X.tk,X.hd,X.gl,X.ot,.int .i64 X.sr,.int .i64 X.st,.int .i64 X.cd]
def WoAt (w:World) (wb:Nat) (X:WoD):Prop:=w.heap[wb]?=some (.cells X.cells 175)
theorem WoAt.fr {F:Nat→Prop} {w w':World} {wb:Nat} {X:WoD} (h:WoAt w wb X) (hf:Fr F w w') (hn:¬ F wb):WoAt w' wb X:=hf.heap h hn
theorem WoAt.below {w w':World} {wb:Nat} {X:WoD} (h:WoAt w wb X) (hb:Below w.heap.size w w'):WoAt w' wb X:=h.fr (Fr.of_below hb (fun _=>False)) (fun h=>h)
theorem WoAt.lt {w:World} {wb:Nat} {X:WoD} (h:WoAt w wb X):wb<w.heap.size:=by
 rcases Nat.lt_or_ge wb w.heap.size with h1 | h1
 ·exact h1
 ·unfold WoAt at h;rw[Array.getElem?_eq_none h1] at h;cases h
theorem WoAt.cell {w:World} {wb:Nat} {X:WoD} (h:WoAt w wb X) (j:Nat):w.cell? ⟨wb,j,none⟩=X.cells[j]?∧w.frozen? ⟨wb,j,none⟩=false:=row_cell h j
theorem next_any (w:World) (wb:Nat) (X:WoD) (h:WoAt w wb X) (hs:0≤X.sr∧X.sr≤1000000) :
  Calls Tryz.prog 122 #[.pointer (some ⟨wb,0,none⟩)] w fun e w'=>e=.returned (.int .i64 X.sr)∧WoAt w' wb { X with sr:=X.sr+1 }∧Fr (fun k=>k=wb) w w':=by
 have f:=(h.cell 19).2;have c:w.cell? ⟨wb,19,none⟩=some (.int .i64 X.sr):=(h.cell 19).1;obtain⟨s,hs1⟩:∃ s,s=X.sr:=⟨_,rfl⟩;obtain⟨s1,hs2⟩:∃ s1,s1=s+1:=⟨_,rfl⟩;have i1:IntKind.i64.wrap (s+1)=s1:=by rw[hs2];exact IntWalk.i64_in _ (by omega)
 have i2:IntKind.i64.wrap (s1 - 1)=s:=by rw[show s1 - 1=s from by omega];exact IntWalk.i64_in _ (by omega)
 have hf:Fr (fun k=>k=wb) w (w.setCell ⟨wb,19,none⟩ (.int .i64 s1)):=(Fr.refl (fun k=>k=wb) w).setCell (p:=⟨wb,19,none⟩) (fun _=>rfl) _;have hr:WoAt (w.setCell ⟨wb,19,none⟩ (.int .i64 s1)) wb { X with sr:=s+1 }:=by rw[← hs2];exact row_set h 19 (.int .i64 s1)
 rw[← hs1] at c ⊢;have HP:=k_ (And.intro hr hf);clear hr hf hs2 hs1 hs h
 go_enter Tryz.func122,Tryz.ntmps122
 go_wp2_with fail
 go_ret
 exact⟨rfl,HP.out⟩
theorem none_any (w:World) (wb:Nat) (X:WoD) (h:WoAt w wb X) :
  Calls Tryz.prog 101 #[.pointer (some ⟨wb,0,none⟩)] w fun e w'=>e=.returned (.bool false)∧w=w':=by
 have c:w.cell? ⟨wb,9,none⟩=some (.pointer (some ⟨X.hb,0,none⟩)):=(h.cell 9).1;clear h
 go_enter Tryz.func101,Tryz.ntmps101
 go_wp2_with fail
 go_ret
 exact⟨rfl,rfl⟩
theorem status_any (w:World) (wb:Nat) (X:WoD) (h:WoAt w wb X) :
  Calls Tryz.prog 86 #[.pointer (some ⟨wb,0,none⟩)] w fun e w'=>e=.returned (.int .i64 X.st)∧w=w':=by
 have nn:=none_any w wb X h;have c:w.cell? ⟨wb,20,none⟩=some (.int .i64 X.st):=(h.cell 20).1;clear h;have NN:=k_ nn;clear nn
 go_enter Tryz.func86,Tryz.ntmps86
 go_wp2_with fail;refine NN.out.mono ?_;rintro e w1 ⟨rfl,rfl⟩;go_wp2_with fail
 go_ret
 exact⟨rfl,rfl⟩
end Go.Proofs.YtlofbhoicbemnaaGreatDoor.Tk
namespace Go.Proofs.YtlofbhoicbemnaaGreatDoor
open Go.ChangeShapes Go.WideShapes Go.ChangeAt Go.RowKit Go.Maps
def ShOk (l:List (List Int)) (k:Nat):Prop:=∀ j,j<k→shErr l.length (l[j]?.getD [])=0
theorem shapes_hit (l:List (List Int)) (h16:¬ 16<l.length) (i:Nat) (hi:i<l.length) (hp:ShOk l i) (hne:shErr l.length l[i]≠0):shapesErr l=shErr l.length l[i]:=by
 unfold shapesErr;rw[if_neg h16];have e:shErr l.length (l[i]?.getD [])=shErr l.length l[i]:=by simp[hi]
 rw[firstAt_hit (k:=i) hi hp (by rw[e];exact hne),e]
theorem shapes_zero (l:List (List Int)) (h16:¬ 16<l.length) (hp:ShOk l l.length):shapesErr l=0:=by
 unfold shapesErr;rw[if_neg h16,firstAt_none hp]
theorem shOk_succ (l:List (List Int)) (k:Nat) (hk:k<l.length) (hp:ShOk l k) (h:shErr l.length l[k]=0):ShOk l (k+1):=fun j hj=>by
 by_cases he:j=k
 ·subst he
  simpa[hk] using h
 ·exact hp j (by omega)
theorem shErr_len {n:Nat} {x:List Int} (h:x.length<1∨16<x.length):shErr n x=1:=if_pos h
theorem shErr_no {n:Nat} {x:List Int} (h:¬ (x.length<1∨16<x.length)) (h2:x.all (fieldB · n)=false):shErr n x=3:=by unfold shErr;rw[if_neg h,if_neg (by rw[h2];simp)]
theorem shErr_ok {n:Nat} {x:List Int} (h:¬ (x.length<1∨16<x.length)) (h2:x.all (fieldB · n)=true):shErr n x=0:=by unfold shErr;rw[if_neg h,if_pos h2]
theorem allF_take {P:Int→Bool} {l:List Int} {k:Nat} (hk:k<l.length) (h:(l.take k).all P=true):(l.take (k+1)).all P=P l[k]:=by
 rw[take_snoc l k hk,List.all_append,h]
 simp
theorem allF_no {P:Int→Bool} {l:List Int} {k:Nat} (hk:k<l.length) (h:P l[k]=false):l.all P=false:=by
 rw[List.all_eq_false];exact⟨l[k],List.getElem_mem hk,by simp[h]⟩
theorem shapeCheck_any (w:World) (D:Nat→Prop) (hD:∀ k,D k→k<w.heap.size) (a:Option Addr) (l:List (List Int)) (c:Nat) (hl:ShSl w D a l) (hbd:∀ s ∈ l,∀ x ∈ s,i64B x) (hn:l.length≤3000) (hne:∀ s ∈ l,s.length≤3000) :
  Calls Tryz.prog 119 #[.slice a l.length c] w fun e w'=>e=.returned (.int .i64 (shapesErr l))∧Below w.heap.size w w':=by
 by_cases h16:16<l.length
 ·rw[show shapesErr l=1 from if_pos h16]
  have h17:(16:Int)<l.length:=by omega
  go_enter Tryz.func119,Tryz.ntmps119
  go_wp2_with fail
  go_ret
  exact⟨rfl,Below.refl _ _⟩
 have h17:¬ (16:Int)<l.length:=by omega
 obtain⟨E,hE⟩:∃ E,E=shapesErr l:=⟨_,rfl⟩;rw[← hE];have HIT:=fun i hi hp hne=>k_ (shapes_hit l h16 i hi hp hne)
 have OKK:=k_ (shapes_zero l h16);have kn:=kinds_any w l.length false (by omega);have hls:∀ wr,Below w.heap.size w wr→ShSl wr D a l:=fun wr h=>hl.fr (Fr.of_below h (fun _=>False)) (fun _ _ h=>h)
 have ht:Tryz.prog.underlying 258=some (.map intK.k 3):=Tryz.underlying258;have HE:=k_ hE;clear h16 hE hl;have HLS:=k_ hls;clear hls;have KN:=k_ kn;clear kn;have HT:=k_ ht;clear ht;have HNE:=k_ hne;clear hne;have HBD:=k_ hbd;clear hbd;have HD:=k_ hD;clear hD
 go_enter Tryz.func119,Tryz.ntmps119
 go_wp2_with fail;refine KN.out.mono ?_;rintro e w1 ⟨b,m,rfl,hm,hbb,hB⟩;have hm:∀ wr,Below w1.heap.size w1 wr→IntMap wr b m (kindsF l.length false):=fun wr h=>hm.below h
 have hB1:∀ wr,Below w1.heap.size w1 wr→Below w.heap.size w wr:=fun wr h=>hB.trans (h.mono hB.size)
 have HM:=k_ hm;clear hm;have HB:=k_ hB;clear hB;have HB1:=k_ hB1;clear hB1;go_wp2_with fail
 go_loopw [16] (fun i wr=>∃ k:Nat,k≤l.length∧i=.int .i64 k∧Below w1.heap.size w1 wr∧ShOk l k) (fun i _=>l.length - (intOf i).toNat)
 case atStart=>exact⟨0,Nat.zero_le _,rfl,Below.refl _ _,fun j hj=>absurd hj (by omega)⟩
 case round =>
  obtain⟨k,hk,rfl,hR,hall⟩:=hrel;generalize wr=wo at *
  by_cases hlt:k<l.length
  ·obtain⟨b0,o,rfl,_,a',c',hcell,hints⟩:=HLS.out wo (HB1.out wo hR) k hlt
   have hints:∀ wz,Below wo.heap.size wo wz→IntSl wz D a' l[k]:=fun wz h=>hints.fr (Fr.of_below h (fun _=>False)) (fun _ _ h=>h)
   have hx:=HNE.out l[k] (List.getElem_mem hlt);have hbx:=HBD.out l[k] (List.getElem_mem hlt);have hit:=fun hne=>(HIT k hlt hall hne).out
   have suc:=shOk_succ l k hlt hall;generalize l[k]=x at *;have hx0:(x.length:Int)≤3000:=by omega
   have hR2:∀ wz,Below (wo.heap.size+1) (wo.alloc (.cells #[.slice a' x.length c'] 82)) wz→Below w1.heap.size w1 wz:=fun wz h=>(hR.alloc hR.size _).trans (h.mono (by have:=hR.size;omega))
   have hR2':∀ wz,Below (wo.heap.size+1) (wo.alloc (.cells #[.slice a' x.length c'] 82)) wz→Below wo.heap.size wo wz:=fun wz h=>((Below.refl _ _).alloc (Nat.le_refl _) _).trans (h.mono (by omega))
   have hf0:=Below.refl (wo.heap.size+1) (wo.alloc (.cells #[.slice a' x.length c'] 82))
   by_cases c1:(x.length:Int)<1
   ·have e:=HE.out
    have e1:shErr l.length x=1:=shErr_len (by omega);rw[hit (by rw[e1];decide),e1] at e;subst e;have hbf:=HB1.out _ (hR2 _ hf0);clear hit suc hall hints e1 hR hR2 hR2' hf0 hbx;have HBF:=k_ hbf;clear hbf;go_wp2_with fail
    go_ret
    exact⟨rfl,HBF.out⟩
   by_cases c2:(16:Int)<x.length
   ·have e:=HE.out
    have e1:shErr l.length x=1:=shErr_len (by omega);rw[hit (by rw[e1];decide),e1] at e;subst e;have hbf:=HB1.out _ (hR2 _ hf0);clear hit suc hall hints e1 hR hR2 hR2' hf0 hbx;have HBF:=k_ hbf;clear hbf;go_wp2_with fail
    go_ret
    exact⟨rfl,HBF.out⟩
   have hno:=fun h=>shErr_no (n:=l.length) (x:=x) (by omega) h
   have hyes:=fun h=>shErr_ok (n:=l.length) (x:=x) (by omega) h
   have hbw2:=HB1.out _ (hR2 _ hf0);have hrr:=hR2 _ hf0;have hm2:=HM.out _ hrr;have hints:=hints _ (hR2' _ hf0);clear hR2 hR2' hf0;have HIT:=k_ hit;clear hit;have SUC:=k_ suc;clear suc;have HNO:=k_ hno;clear hno;have HYES:=k_ hyes;clear hyes;have HINTS:=k_ hints;clear hints;have HR:=k_ hR;clear hR;have HBW2:=k_ hbw2;clear hbw2;have HRR:=k_ hrr;clear hrr;have HM2:=k_ hm2;clear hm2;have HBX:=k_ hbx;clear hbx;have HALL:=k_ hall;clear hall;go_wp2_with fail
   go_loopw [33] (fun i wz=>∃ q:Nat,q≤x.length∧i=.int .i64 q∧wz=wo.alloc (.cells #[.slice a' x.length c'] 82)∧(x.take q).all (fieldB · l.length)=true) (fun i _=>x.length - (intOf i).toNat)
   case atStart=>exact⟨0,Nat.zero_le _,rfl,by first | rfl | trivial,rfl⟩
   case round =>
    obtain⟨q,hq,rfl,hwz,hall⟩:=hrel;have HWZ:=k_ hwz;clear hwz
    by_cases hlq:q<x.length
    ·obtain⟨b',o',rfl,_,hy⟩:=HINTS.out q hlq
     have hy:wr.cell? ⟨b',o'+q,none⟩=some (.int .i64 x[q]):=by rw[HWZ.out];exact hy
     have hsn:=allF_take hlq hall;have hn2:=allF_no (P:=(fieldB · l.length)) hlq
     try dsimp only at hsn hn2
     have hyb:=HBX.out x[q] (List.getElem_mem hlq);generalize x[q]=y at *;have hm3:IntMap wr b m (kindsF l.length false):=by rw[HWZ.out];exact HM2.out
     cases hf:fieldB y l.length
     ·have e1:=HNO.out (hn2 hf)
      have e:=HE.out;rw[HIT.out (by rw[e1];decide),e1] at e;subst e;have hkf:kindsF l.length false y=none:=by
       have:=field_kinds y l.length;rw[hf] at this
       cases hh:kindsF l.length false y with
       | none=>rfl
       | some v=>rw[hh] at this;cases this
      have hbw3:Below w.heap.size w wr:=by rw[HWZ.out];exact HBW2.out
      clear hsn hn2 hall hf e1;have HKF:=k_ hkf;clear hkf;have HM3:=k_ hm3;clear hm3;have HYB:=k_ hyb;clear hyb;have HBW3:=k_ hbw3;clear hbw3
      go_wp2_with (refine look_none rfl (.tmp 37) (.tmp 38) 258 3 rfl HM3.out HT.out (zero_int _) y HYB.out rfl rfl HKF.out ?_)
      go_ret
      exact⟨rfl,HBW3.out⟩
     ·rw[hf] at hsn
      obtain⟨v,hkf⟩:∃ v,kindsF l.length false y=some v:=by
       have:=field_kinds y l.length;rw[hf] at this
       cases hh:kindsF l.length false y with
       | none=>rw[hh] at this;cases this
       | some v=>exact⟨v,rfl⟩
      have hv:=kinds_one hkf;subst hv;clear hn2 hall hf;have HKF:=k_ hkf;clear hkf;have HM3:=k_ hm3;clear hm3;have HYB:=k_ hyb;clear hyb;have HSN:=k_ hsn;clear hsn
      go_wp2_with (refine look_some rfl (.tmp 37) (.tmp 38) 258 3 rfl HM3.out HT.out (zero_int _) y HYB.out rfl rfl 1 HKF.out ?_)
      go_roundw
      case rel=>exact⟨q+1,by omega,by go_num,HWZ.out,HSN.out⟩
      case measure=>simp[intOf];omega
    ·have hq':q=x.length:=by omega
     subst hq';rw[List.take_length] at hall;have hsu:=SUC.out (HYES.out hall);have hrz:Below w1.heap.size w1 wr:=by rw[HWZ.out];exact HRR.out
     clear hall;have HSU:=k_ hsu;clear hsu;have HRZ:=k_ hrz;clear hrz;go_wp2_with fail
     go_roundw
     case rel=>exact⟨k+1,by omega,by go_num,HRZ.out,HSU.out⟩
     case measure=>simp[intOf];omega
  ·have hk':k=l.length:=by omega
   subst hk';have e:=HE.out;rw[OKK.out hall] at e;subst e;have hbw2:=HB1.out _ hR;clear hall hR;have HBW2:=k_ hbw2;clear hbw2;go_wp2_with fail
   go_ret
   exact⟨rfl,HBW2.out⟩
end Go.Proofs.YtlofbhoicbemnaaGreatDoor
namespace Go.Proofs.YtlofbhoicbemnaaGreatDoor
open Go.ChangeShapes Go.WideShapes Go.ChangeAt Go.RowKit
def lookC (c0 c1 c2 d0 d3 d4:Value) (r s:Int) (i:Ins) (fn pc:Int):Array Value:=#[c0,c1,c2,d0,.int .i64 r,.int .i64 s,d3,d4,.int .i64 i.op,.int .i64 i.a,.int .i64 i.b,.int .i64 i.c,.int .i64 fn,.int .i64 pc]
def fun0:Fun:=⟨[],0,0,[],[]⟩
def calleeG (p:Prg) (i:Ins):Fun:=(calleeF p i).getD fun0
theorem fun0_val (w:World) (D:Nat→Prop):FunVal w D fun0 (.slice none 0 0) (.int .i64 0) (.int .i64 0) (.slice none 0 0) (.slice none 0 0) :=
 ⟨rfl,rfl,⟨none,0,rfl,fun j hj=>by cases hj⟩,⟨none,0,rfl,fun j hj=>by cases hj⟩,none,0,rfl,fun j hj=>by cases hj⟩
def CalleePost (p:Prg) (i:Ins) (D:Nat→Prop) (w:World) (e:Ending) (w':World):Prop :=
 ∃ d0 d3 d4,e=.returned (.tuple #[.agg #[d0,.int .i64 (calleeG p i).result,.int .i64 (calleeG p i).slots,d3,d4],.bool (calleeF p i).isSome])∧FunVal w' D (calleeG p i) d0 (.int .i64 (calleeG p i).result) (.int .i64 (calleeG p i).slots) d3 d4∧Below w.heap.size w w'
theorem calleeF_op (p:Prg) (i:Ins) (h:¬ (i.op=21∨i.op=23∨i.op=24)):calleeF p i=none:=by unfold calleeF;rw[if_neg (fun h2=>h h2.1)]
theorem calleeF_out (p:Prg) (i:Ins) (h:withinB i.b p.funcs.length=false):calleeF p i=none:=by unfold calleeF;rw[if_neg (fun h2=>by rw[h] at h2;cases h2.2)]
theorem calleeF_in (p:Prg) (i:Ins) (k:Nat) (hk:k<p.funcs.length) (hb:i.b=k) (h:i.op=21∨i.op=23∨i.op=24):calleeF p i=some p.funcs[k]:=by
 unfold calleeF;rw[if_pos ⟨h,by rw[hb];simp[withinB];omega⟩,hb]
 simp[hk]
theorem callee_none {p:Prg} {i:Ins} {D:Nat→Prop} {w w':World} (hn:calleeF p i=none) (hb:Below w.heap.size w w'):CalleePost p i D w (.returned (.tuple #[.agg #[.slice none 0 0,.int .i64 0,.int .i64 0,.slice none 0 0,.slice none 0 0],.bool false])) w':=by
 unfold CalleePost calleeG;rw[hn];exact⟨_,_,_,rfl,fun0_val _ _,hb⟩
theorem callee_some {p:Prg} {i:Ins} {g:Fun} {D:Nat→Prop} {w w':World} {d0 d3 d4:Value} (hn:calleeF p i=some g) (hv:FunVal w' D g d0 (.int .i64 g.result) (.int .i64 g.slots) d3 d4) (hb:Below w.heap.size w w'):CalleePost p i D w (.returned (.tuple #[.agg #[d0,.int .i64 g.result,.int .i64 g.slots,d3,d4],.bool true])) w':=by
 unfold CalleePost calleeG;rw[hn];exact⟨_,_,_,rfl,hv,hb⟩
theorem within_nat {b:Int} {n:Nat} (h:withinB b n=true):∃ k:Nat,b=k∧k<n:=by
 simp[withinB] at h
 exact⟨b.toNat,by omega,by omega⟩
theorem callee_any (w:World) (D:Nat→Prop) (hD:∀ k,D k→k<w.heap.size) (p:Prg) (c0 c1 c2 d0 d3 d4:Value) (r s:Int) (i:Ins) (fn pc:Int) (hv:PrgVal w D p c0 c1 c2) :
  Calls Tryz.prog 348 #[.agg (lookC c0 c1 c2 d0 d3 d4 r s i fn pc)] w (CalleePost p i D w):=by
 unfold lookC;obtain⟨⟨a0,m0,rfl,_⟩,⟨a1,m1,rfl,_⟩,a2,m2,rfl,hfs⟩:=hv;have hb:=((Below.refl w.heap.size w).alloc (Nat.le_refl _) (.cells #[.slice a0 p.globals.length m0,.slice a1 p.shapes.length m1,.slice a2 p.funcs.length m2,d0,.int .i64 r,.int .i64 s,d3,d4,.int .i64 i.op,.int .i64 i.a,.int .i64 i.b,.int .i64 i.c,.int .i64 fn,.int .i64 pc] 360)).alloc (by simp) (.cells #[.slice none 0 0,.int .i64 0,.int .i64 0,.slice none 0 0,.slice none 0 0] 66);have hbx:=box2 w #[.slice a0 p.globals.length m0,.slice a1 p.shapes.length m1,.slice a2 p.funcs.length m2,d0,.int .i64 r,.int .i64 s,d3,d4,.int .i64 i.op,.int .i64 i.a,.int .i64 i.b,.int .i64 i.c,.int .i64 fn,.int .i64 pc] #[.slice none 0 0,.int .i64 0,.int .i64 0,.slice none 0 0,.slice none 0 0] 360 66 _ (Below.refl _ _);have hl2:=heap_new (w.alloc (.cells #[.slice a0 p.globals.length m0,.slice a1 p.shapes.length m1,.slice a2 p.funcs.length m2,d0,.int .i64 r,.int .i64 s,d3,d4,.int .i64 i.op,.int .i64 i.a,.int .i64 i.b,.int .i64 i.c,.int .i64 fn,.int .i64 pc] 360)) (.cells #[.slice none 0 0,.int .i64 0,.int .i64 0,.slice none 0 0,.slice none 0 0] 66);rw[show (w.alloc (.cells #[.slice a0 p.globals.length m0,.slice a1 p.shapes.length m1,.slice a2 p.funcs.length m2,d0,.int .i64 r,.int .i64 s,d3,d4,.int .i64 i.op,.int .i64 i.a,.int .i64 i.b,.int .i64 i.c,.int .i64 fn,.int .i64 pc] 360)).heap.size=w.heap.size+1 from by simp] at hl2;obtain⟨W,hW⟩:∃ W,W=(w.alloc (.cells #[.slice a0 p.globals.length m0,.slice a1 p.shapes.length m1,.slice a2 p.funcs.length m2,d0,.int .i64 r,.int .i64 s,d3,d4,.int .i64 i.op,.int .i64 i.a,.int .i64 i.b,.int .i64 i.c,.int .i64 fn,.int .i64 pc] 360)).alloc (.cells #[.slice none 0 0,.int .i64 0,.int .i64 0,.slice none 0 0,.slice none 0 0] 66):=⟨_,rfl⟩;rw[← hW] at hb hl2 hbx;have q2:=hbx.1 2 _ rfl;have q8:=hbx.1 8 _ rfl;have q10:=hbx.1 10 _ rfl;have hfs:=hfs.fr (Fr.of_below hb (fun _=>False)) (fun _ _ h=>h);have hd:∀ k,D k→¬ onB (w.heap.size+1) k:=fun k hk h=>by have:=hD k hk;unfold onB at h;omega
 obtain⟨_,f0,f1,f2,f3,f4⟩:=five_cells hl2;clear hbx hD;have HW:=k_ hW;clear hW;have HB:=k_ hb;clear hb;have HL2:=k_ hl2;clear hl2;have HFS:=k_ hfs;clear hfs;have HD:=k_ hd;clear hd;obtain⟨op,a,b,c⟩:=i
 dsimp only at q8 q10 ⊢
 by_cases h21:op=21
 ·subst h21
  by_cases hw:withinB b p.funcs.length=true
  case neg =>
   have hw':withinB b p.funcs.length=false:=by simpa using hw
   have wi:=within_any W b p.funcs.length;rw[hw'] at wi;have hn:=calleeF_out p ⟨21,a,b,c⟩ hw';have hr:=row_set (row_set (row_set (row_set (row_set HL2.out 0 (.slice none 0 0)) 1 (.int .i64 0)) 2 (.int .i64 0)) 3 (.slice none 0 0)) 4 (.slice none 0 0);have hf:Fr (onB (w.heap.size+1)) W _:=(((((Fr.refl (onB (w.heap.size+1)) W).setCell (p:=⟨w.heap.size+1,0,none⟩) (fun _=>rfl) (.slice none 0 0)).setCell (p:=⟨w.heap.size+1,1,none⟩) (fun _=>rfl) (.int .i64 0)).setCell (p:=⟨w.heap.size+1,2,none⟩) (fun _=>rfl) (.int .i64 0)).setCell (p:=⟨w.heap.size+1,3,none⟩) (fun _=>rfl) (.slice none 0 0)).setCell (p:=⟨w.heap.size+1,4,none⟩) (fun _=>rfl) (.slice none 0 0);have hb:=HB.out.trans (hf.below HB.out.size (fun k hk=>by unfold onB at hk;omega));have hP:=callee_none (D:=D) hn hb;clear hf hb hn;have HR:=k_ hr;clear hr;have HP:=k_ hP;clear hP;clear hw hw';have WI:=k_ wi;clear wi
   go_enter Tryz.func348,Tryz.ntmps348
   go_upto_region 1 with fail
   rw[← HW.out];go_wp2_with fail;refine WI.out.mono ?_;rintro e w' ⟨rfl,rfl⟩
   go_wp2_with (with_reducible refine bodyPost_ret ?_ rfl HP.out;obtain⟨⟨k0,k1,k2,k3,k4⟩,_⟩:=five_cells HR.out;simp[results,Tryz.results348,go_sem,k0,k1,k2,k3,k4])
  have wi:=within_any W b p.funcs.length;rw[hw] at wi;obtain⟨k,hk,hkl⟩:=within_nat hw;subst hk;have hn:=calleeF_in p ⟨21,a,(k:Int),c⟩ k hkl rfl (by simp);have hfs:=HFS.out k hkl;generalize p.funcs[k]=g at *;obtain⟨bb,o,rfl,_,e0,e1,e2,e3,e4,h0,h1,h2,h3,h4,hfv⟩:=hfs;have hfw:=hfv;obtain⟨rfl,rfl,⟨g0,g1,rfl,_⟩,⟨g2,g3,rfl,_⟩,g4,g5,rfl,_⟩:=hfv;have hr:=row_set (row_set (row_set (row_set (row_set HL2.out 0 (.slice g0 g.args.length g1)) 1 (.int .i64 g.result)) 2 (.int .i64 g.slots)) 3 (.slice g2 g.objects.length g3)) 4 (.slice g4 g.code.length g5);have hf:Fr (onB (w.heap.size+1)) W _:=(((((Fr.refl (onB (w.heap.size+1)) W).setCell (p:=⟨w.heap.size+1,0,none⟩) (fun _=>rfl) (.slice g0 g.args.length g1)).setCell (p:=⟨w.heap.size+1,1,none⟩) (fun _=>rfl) (.int .i64 g.result)).setCell (p:=⟨w.heap.size+1,2,none⟩) (fun _=>rfl) (.int .i64 g.slots)).setCell (p:=⟨w.heap.size+1,3,none⟩) (fun _=>rfl) (.slice g2 g.objects.length g3)).setCell (p:=⟨w.heap.size+1,4,none⟩) (fun _=>rfl) (.slice g4 g.code.length g5);have hb:=HB.out.trans (hf.below HB.out.size (fun k hk=>by unfold onB at hk;omega));have hP:=callee_some hn (hfw.fr hf HD.out) hb;clear hf hb hn hfw hw;have HR:=k_ hr;clear hr;have HP:=k_ hP;clear hP;have WI:=k_ wi;clear wi;have hk1:(k:Int)<p.funcs.length:=by omega
  go_enter Tryz.func348,Tryz.ntmps348
  go_upto_region 1 with fail
  rw[← HW.out];go_wp2_with fail;refine WI.out.mono ?_;rintro e w' ⟨rfl,rfl⟩
  go_wp2_with (with_reducible refine bodyPost_ret ?_ rfl HP.out;obtain⟨⟨k0,k1,k2,k3,k4⟩,_⟩:=five_cells HR.out;simp[results,Tryz.results348,go_sem,k0,k1,k2,k3,k4])
 by_cases h23:op=23
 ·subst h23
  by_cases hw:withinB b p.funcs.length=true
  case neg =>
   have hw':withinB b p.funcs.length=false:=by simpa using hw
   have wi:=within_any W b p.funcs.length;rw[hw'] at wi;have hn:=calleeF_out p ⟨23,a,b,c⟩ hw';have hr:=row_set (row_set (row_set (row_set (row_set HL2.out 0 (.slice none 0 0)) 1 (.int .i64 0)) 2 (.int .i64 0)) 3 (.slice none 0 0)) 4 (.slice none 0 0);have hf:Fr (onB (w.heap.size+1)) W _:=(((((Fr.refl (onB (w.heap.size+1)) W).setCell (p:=⟨w.heap.size+1,0,none⟩) (fun _=>rfl) (.slice none 0 0)).setCell (p:=⟨w.heap.size+1,1,none⟩) (fun _=>rfl) (.int .i64 0)).setCell (p:=⟨w.heap.size+1,2,none⟩) (fun _=>rfl) (.int .i64 0)).setCell (p:=⟨w.heap.size+1,3,none⟩) (fun _=>rfl) (.slice none 0 0)).setCell (p:=⟨w.heap.size+1,4,none⟩) (fun _=>rfl) (.slice none 0 0);have hb:=HB.out.trans (hf.below HB.out.size (fun k hk=>by unfold onB at hk;omega));have hP:=callee_none (D:=D) hn hb;clear hf hb hn;have HR:=k_ hr;clear hr;have HP:=k_ hP;clear hP;clear hw hw';have WI:=k_ wi;clear wi
   go_enter Tryz.func348,Tryz.ntmps348
   go_upto_region 1 with fail
   rw[← HW.out];go_wp2_with fail;refine WI.out.mono ?_;rintro e w' ⟨rfl,rfl⟩
   go_wp2_with (with_reducible refine bodyPost_ret ?_ rfl HP.out;obtain⟨⟨k0,k1,k2,k3,k4⟩,_⟩:=five_cells HR.out;simp[results,Tryz.results348,go_sem,k0,k1,k2,k3,k4])
  have wi:=within_any W b p.funcs.length;rw[hw] at wi;obtain⟨k,hk,hkl⟩:=within_nat hw;subst hk;have hn:=calleeF_in p ⟨23,a,(k:Int),c⟩ k hkl rfl (by simp);have hfs:=HFS.out k hkl;generalize p.funcs[k]=g at *;obtain⟨bb,o,rfl,_,e0,e1,e2,e3,e4,h0,h1,h2,h3,h4,hfv⟩:=hfs;have hfw:=hfv;obtain⟨rfl,rfl,⟨g0,g1,rfl,_⟩,⟨g2,g3,rfl,_⟩,g4,g5,rfl,_⟩:=hfv;have hr:=row_set (row_set (row_set (row_set (row_set HL2.out 0 (.slice g0 g.args.length g1)) 1 (.int .i64 g.result)) 2 (.int .i64 g.slots)) 3 (.slice g2 g.objects.length g3)) 4 (.slice g4 g.code.length g5);have hf:Fr (onB (w.heap.size+1)) W _:=(((((Fr.refl (onB (w.heap.size+1)) W).setCell (p:=⟨w.heap.size+1,0,none⟩) (fun _=>rfl) (.slice g0 g.args.length g1)).setCell (p:=⟨w.heap.size+1,1,none⟩) (fun _=>rfl) (.int .i64 g.result)).setCell (p:=⟨w.heap.size+1,2,none⟩) (fun _=>rfl) (.int .i64 g.slots)).setCell (p:=⟨w.heap.size+1,3,none⟩) (fun _=>rfl) (.slice g2 g.objects.length g3)).setCell (p:=⟨w.heap.size+1,4,none⟩) (fun _=>rfl) (.slice g4 g.code.length g5);have hb:=HB.out.trans (hf.below HB.out.size (fun k hk=>by unfold onB at hk;omega));have hP:=callee_some hn (hfw.fr hf HD.out) hb;clear hf hb hn hfw hw;have HR:=k_ hr;clear hr;have HP:=k_ hP;clear hP;have WI:=k_ wi;clear wi;have hk1:(k:Int)<p.funcs.length:=by omega
  go_enter Tryz.func348,Tryz.ntmps348
  go_upto_region 1 with fail
  rw[← HW.out];go_wp2_with fail;refine WI.out.mono ?_;rintro e w' ⟨rfl,rfl⟩
  go_wp2_with (with_reducible refine bodyPost_ret ?_ rfl HP.out;obtain⟨⟨k0,k1,k2,k3,k4⟩,_⟩:=five_cells HR.out;simp[results,Tryz.results348,go_sem,k0,k1,k2,k3,k4])
 by_cases h24:op=24
 ·subst h24
  by_cases hw:withinB b p.funcs.length=true
  case neg =>
   have hw':withinB b p.funcs.length=false:=by simpa using hw
   have wi:=within_any W b p.funcs.length;rw[hw'] at wi;have hn:=calleeF_out p ⟨24,a,b,c⟩ hw';have hr:=row_set (row_set (row_set (row_set (row_set HL2.out 0 (.slice none 0 0)) 1 (.int .i64 0)) 2 (.int .i64 0)) 3 (.slice none 0 0)) 4 (.slice none 0 0);have hf:Fr (onB (w.heap.size+1)) W _:=(((((Fr.refl (onB (w.heap.size+1)) W).setCell (p:=⟨w.heap.size+1,0,none⟩) (fun _=>rfl) (.slice none 0 0)).setCell (p:=⟨w.heap.size+1,1,none⟩) (fun _=>rfl) (.int .i64 0)).setCell (p:=⟨w.heap.size+1,2,none⟩) (fun _=>rfl) (.int .i64 0)).setCell (p:=⟨w.heap.size+1,3,none⟩) (fun _=>rfl) (.slice none 0 0)).setCell (p:=⟨w.heap.size+1,4,none⟩) (fun _=>rfl) (.slice none 0 0);have hb:=HB.out.trans (hf.below HB.out.size (fun k hk=>by unfold onB at hk;omega));have hP:=callee_none (D:=D) hn hb;clear hf hb hn;have HR:=k_ hr;clear hr;have HP:=k_ hP;clear hP;clear hw hw';have WI:=k_ wi;clear wi
   go_enter Tryz.func348,Tryz.ntmps348
   go_upto_region 1 with fail
   rw[← HW.out];go_wp2_with fail;refine WI.out.mono ?_;rintro e w' ⟨rfl,rfl⟩
   go_wp2_with (with_reducible refine bodyPost_ret ?_ rfl HP.out;obtain⟨⟨k0,k1,k2,k3,k4⟩,_⟩:=five_cells HR.out;simp[results,Tryz.results348,go_sem,k0,k1,k2,k3,k4])
  have wi:=within_any W b p.funcs.length;rw[hw] at wi;obtain⟨k,hk,hkl⟩:=within_nat hw;subst hk;have hn:=calleeF_in p ⟨24,a,(k:Int),c⟩ k hkl rfl (by simp);have hfs:=HFS.out k hkl;generalize p.funcs[k]=g at *;obtain⟨bb,o,rfl,_,e0,e1,e2,e3,e4,h0,h1,h2,h3,h4,hfv⟩:=hfs;have hfw:=hfv;obtain⟨rfl,rfl,⟨g0,g1,rfl,_⟩,⟨g2,g3,rfl,_⟩,g4,g5,rfl,_⟩:=hfv;have hr:=row_set (row_set (row_set (row_set (row_set HL2.out 0 (.slice g0 g.args.length g1)) 1 (.int .i64 g.result)) 2 (.int .i64 g.slots)) 3 (.slice g2 g.objects.length g3)) 4 (.slice g4 g.code.length g5);have hf:Fr (onB (w.heap.size+1)) W _:=(((((Fr.refl (onB (w.heap.size+1)) W).setCell (p:=⟨w.heap.size+1,0,none⟩) (fun _=>rfl) (.slice g0 g.args.length g1)).setCell (p:=⟨w.heap.size+1,1,none⟩) (fun _=>rfl) (.int .i64 g.result)).setCell (p:=⟨w.heap.size+1,2,none⟩) (fun _=>rfl) (.int .i64 g.slots)).setCell (p:=⟨w.heap.size+1,3,none⟩) (fun _=>rfl) (.slice g2 g.objects.length g3)).setCell (p:=⟨w.heap.size+1,4,none⟩) (fun _=>rfl) (.slice g4 g.code.length g5);have hb:=HB.out.trans (hf.below HB.out.size (fun k hk=>by unfold onB at hk;omega));have hP:=callee_some hn (hfw.fr hf HD.out) hb;clear hf hb hn hfw hw;have HR:=k_ hr;clear hr;have HP:=k_ hP;clear hP;have WI:=k_ wi;clear wi;have hk1:(k:Int)<p.funcs.length:=by omega
  go_enter Tryz.func348,Tryz.ntmps348
  go_upto_region 1 with fail
  rw[← HW.out];go_wp2_with fail;refine WI.out.mono ?_;rintro e w' ⟨rfl,rfl⟩
  go_wp2_with (with_reducible refine bodyPost_ret ?_ rfl HP.out;obtain⟨⟨k0,k1,k2,k3,k4⟩,_⟩:=five_cells HR.out;simp[results,Tryz.results348,go_sem,k0,k1,k2,k3,k4])
 have hno:¬ (op=21∨op=23∨op=24):=by omega
 have e1:(op == 21)=false:=by simpa using h21
 have e2:(op == 23)=false:=by simpa using h23
 have e3:(op == 24)=false:=by simpa using h24
 have hn:=calleeF_op p ⟨op,a,b,c⟩ hno;have hr:=row_set (row_set (row_set (row_set (row_set HL2.out 0 (.slice none 0 0)) 1 (.int .i64 0)) 2 (.int .i64 0)) 3 (.slice none 0 0)) 4 (.slice none 0 0);have hf:Fr (onB (w.heap.size+1)) W _:=(((((Fr.refl (onB (w.heap.size+1)) W).setCell (p:=⟨w.heap.size+1,0,none⟩) (fun _=>rfl) (.slice none 0 0)).setCell (p:=⟨w.heap.size+1,1,none⟩) (fun _=>rfl) (.int .i64 0)).setCell (p:=⟨w.heap.size+1,2,none⟩) (fun _=>rfl) (.int .i64 0)).setCell (p:=⟨w.heap.size+1,3,none⟩) (fun _=>rfl) (.slice none 0 0)).setCell (p:=⟨w.heap.size+1,4,none⟩) (fun _=>rfl) (.slice none 0 0);have hb:=HB.out.trans (hf.below HB.out.size (fun k hk=>by unfold onB at hk;omega));have hP:=callee_none (D:=D) hn hb;clear hf hb hn;have HR:=k_ hr;clear hr;have HP:=k_ hP;clear hP;clear hno h21 h23 h24
 go_enter Tryz.func348,Tryz.ntmps348
 go_upto_region 1 with fail
 rw[← HW.out]
 go_wp2_with (with_reducible refine bodyPost_ret ?_ rfl HP.out;obtain⟨⟨k0,k1,k2,k3,k4⟩,_⟩:=five_cells HR.out;simp[results,Tryz.results348,go_sem,k0,k1,k2,k3,k4])
def Zi (i:Ins):Prop:=(∃ v,i=⟨1,0,v,0⟩)∨i=⟨29,0,0,0⟩∨i=⟨27,0,0,0⟩
def IsZ (p:Prg):Prop:=∀ f ∈ p.funcs,∀ i ∈ f.code,Zi i
theorem Zi.op {op a b c:Int} (h:Zi ⟨op,a,b,c⟩):op=1∨op=29∨op=27:=by
 rcases h with⟨v,h⟩ | h | h <;> injection h with h1 <;> simp[h1]
open Go.Maps
abbrev Pl:={ x:Int × Int // i64B x.1∧i64B x.2 }
def cF (fn:Int) (C:List Ins) (k:Nat) (x:Pl):Option Ins:=if x.1.1=fn∧0≤x.1.2∧x.1.2<k then C[x.1.2.toNat]? else none
def codeOf (p:Prg) (fn:Int):List Ins:=if withinB fn p.funcs.length=true then ((p.funcs[fn.toNat]?).map Fun.code).getD [] else []
theorem cF_zero (fn:Int) (C:List Ins) (x:Pl):(none:Option Ins)=cF fn C 0 x:=by
 unfold cF;rw[if_neg (by omega)]
theorem cF_succ (fn:Int) (C:List Ins) (k:Nat) (hk:k<C.length) (h:i64B fn∧i64B (k:Int)) (x:Pl):upd (cF fn C k) ⟨(fn,(k:Int)),h⟩ (some C[k]) x=cF fn C (k+1) x:=by
 unfold upd
 by_cases he:x=⟨(fn,(k:Int)),h⟩
 ·rw[if_pos he,he]
  unfold cF;rw[if_pos ⟨rfl,by simp,by show (k:Int)<((k+1:Nat):Int);omega⟩]
  simp[hk]
 ·rw[if_neg he]
  unfold cF
  by_cases h2:x.1.1=fn∧0≤x.1.2∧x.1.2<k
  ·rw[if_pos h2,if_pos ⟨h2.1,h2.2.1,by omega⟩]
  ·rw[if_neg h2,if_neg]
   rintro⟨h3,h4,h5⟩
   by_cases h6:x.1.2=k
   ·apply he
    obtain⟨⟨x1,x2⟩,hx⟩:=x
    simp at h3 h6
    subst h3 h6
    rfl
   ·exact h2 ⟨h3,h4,by omega⟩
def insVal (i:Ins):Value:=.agg #[.int .i64 i.op,.int .i64 i.a,.int .i64 i.b,.int .i64 i.c]
def CodeMap (w:World) (b m:Nat) (f:Pl→Option Ins):Prop:=MapIs plK insVal w b m f
def CodePost (p:Prg) (fn:Int) (w:World) (e:Ending) (w':World):Prop :=
 ∃ b m,e=.returned (.map (some b))∧CodeMap w' b m (cF fn (codeOf p fn) (codeOf p fn).length)∧w.heap.size≤b∧Below w.heap.size w w'
theorem code_any (w:World) (D:Nat→Prop) (p:Prg) (c0 c1 c2:Value) (fn:Int) (hD:∀ k,D k→k<w.heap.size) (hv:PrgVal w D p c0 c1 c2) (hfn:i64B fn) (hln:(codeOf p fn).length≤3000) :
  Calls Tryz.prog 291 #[.agg #[c0,c1,c2],.int .i64 fn] w (CodePost p fn w):=by
 obtain⟨⟨a0,m0,rfl,_⟩,⟨a1,m1,rfl,_⟩,a2,m2,rfl,hfs⟩:=hv;have hb0:=((Below.refl w.heap.size w).alloc (Nat.le_refl _) (.cells #[.slice a0 p.globals.length m0,.slice a1 p.shapes.length m1,.slice a2 p.funcs.length m2] 48));have hmk:CodeMap ((w.alloc (.cells #[.slice a0 p.globals.length m0,.slice a1 p.shapes.length m1,.slice a2 p.funcs.length m2] 48)).alloc (.map #[] 0)) (w.alloc (.cells #[.slice a0 p.globals.length m0,.slice a1 p.shapes.length m1,.slice a2 p.funcs.length m2] 48)).heap.size 0 (fun _=>none):=MapIs.made plK _ _;have hz1:(w.alloc (.cells #[.slice a0 p.globals.length m0,.slice a1 p.shapes.length m1,.slice a2 p.funcs.length m2] 48)).heap.size=w.heap.size+1:=by simp
 rw[hz1] at hmk;have hb1:=hb0.alloc (by simp) (.map #[] 0);have hmake:∀ w,(Instr.makeMap 357 none).run Tryz.prog w=.ok (.map (some w.heap.size)) (w.alloc (.map #[] 0)):=fun w=>run_makeMap _ w
 have ht:Tryz.prog.underlying 357=some (.map plK.k 63):=Tryz.underlying357;have q2:((w.alloc (.cells #[.slice a0 p.globals.length m0,.slice a1 p.shapes.length m1,.slice a2 p.funcs.length m2] 48)).alloc (.map #[] 0)).cell? ⟨w.heap.size,2,none⟩=some (.slice a2 p.funcs.length m2):=by
  rw[cell_under _ _ (by simp),cell_new];rfl
 obtain⟨W,hW⟩:∃ W,W=(w.alloc (.cells #[.slice a0 p.globals.length m0,.slice a1 p.shapes.length m1,.slice a2 p.funcs.length m2] 48)).alloc (.map #[] 0):=⟨_,rfl⟩;rw[← hW] at hmk hb1 q2;have hfs:=hfs.fr (Fr.of_below hb1 (fun _=>False)) (fun _ _ h=>h);have hm0:CodeMap W (w.heap.size+1) 0 (cF fn (codeOf p fn) 0):=hmk.congr (fun a _=>cF_zero fn (codeOf p fn) a);have HW:=k_ hW;clear hW hb0 hz1 hmk
 by_cases hin:withinB fn p.funcs.length=true
 case neg =>
  have hc:codeOf p fn=[]:=by unfold codeOf;rw[if_neg hin]
  have hP:CodePost p fn w (.returned (.map (some (w.heap.size+1)))) W:=by
   refine⟨_,0,rfl,?_,by omega,hb1⟩;rw[hc] at hm0 ⊢;exact hm0
  clear hm0 hc hfs hb1;have HP:=k_ hP;clear hP
  by_cases h0:0≤fn
  ·have h1:¬ fn<p.funcs.length:=fun h=>hin (by simp[withinB];omega)
   clear hin
   go_enter Tryz.func291,Tryz.ntmps291
   go_upto_region 2 with fail
   rw[← HW.out];go_wp2_with fail
   go_ret
   exact HP.out
  ·clear hin
   go_enter Tryz.func291,Tryz.ntmps291
   go_upto_region 2 with fail
   rw[← HW.out];go_wp2_with fail
   go_ret
   exact HP.out
 obtain⟨j,rfl,hj⟩:∃ j:Nat,fn=j∧j<p.funcs.length:=by
  simp[withinB] at hin
  exact⟨fn.toNat,by omega,by omega⟩
 have hc:codeOf p (j:Int)=p.funcs[j].code:=by unfold codeOf;rw[if_pos hin];simp[hj]
 obtain⟨b,o,rfl,_,y0,y1,y2,y3,y4,g0,g1,g2,g3,g4,hfv⟩:=hfs j hj;obtain⟨_,_,_,_,e0,e1,rfl,hsc⟩:=hfv;rw[hc] at hln hm0;unfold CodePost;rw[hc];clear hc hfs hin g0 g1 g2 g3;generalize p.funcs[j].code=C at *;have hj1:(j:Int)<p.funcs.length:=by omega
 have HM0:=k_ hm0;clear hm0;have HSC:=k_ hsc;clear hsc;have HT:=k_ ht;clear ht;have HB1:=k_ hb1;clear hb1;have HD:=k_ hD;clear hD
 go_enter Tryz.func291,Tryz.ntmps291
 go_upto_region 2 with fail
 rw[← HW.out];go_wp2_with fail
 go_loopw [25] (fun i wr=>∃ k m:Nat,k≤C.length∧i=.int .i64 k∧CodeMap wr (w.heap.size+1) m (cF j C k)∧m≤k∧Fr (fun q=>q=w.heap.size+1) W wr) (fun i _=>C.length - (intOf i).toNat)
 case atStart=>exact⟨0,0,Nat.zero_le _,rfl,HM0.out,Nat.le_refl _,Fr.refl _ _⟩
 case round =>
  obtain⟨k,m,hk,rfl,hm,hmk,hf⟩:=hrel
  by_cases hlt:k<C.length
  ·obtain⟨b',o',rfl,_,x0,x1,x2,x3⟩:=(HSC.out.fr hf (fun q hq e=>by have:=HD.out q hq;omega)) k hlt
   have hcs:=fun h=>cF_succ j C k hlt h
   have hk64:i64B (k:Int):=⟨by omega,by omega⟩;generalize C[k]=x at *;have hbs:=(Below.refl wr.heap.size wr).alloc (Nat.le_refl _) (.cells #[.int .i64 x.op,.int .i64 x.a,.int .i64 x.b,.int .i64 x.c] 63);have hly:=heap_new wr (.cells #[.int .i64 x.op,.int .i64 x.a,.int .i64 x.b,.int .i64 x.c] 63);have hmS:=hm.below hbs;obtain⟨y,hy⟩:∃ y,y=wr.heap.size:=⟨_,rfl⟩;obtain⟨wS,hwS⟩:∃ wS,wS=wr.alloc (.cells #[.int .i64 x.op,.int .i64 x.a,.int .i64 x.b,.int .i64 x.c] 63):=⟨_,rfl⟩;rw[← hwS] at hbs hmS;rw[← hwS,← hy] at hly;have z0:=(row_cell hly 0).1;have z1:=(row_cell hly 1).1;have z2:=(row_cell hly 2).1;have z3:=(row_cell hly 3).1;have z0:wS.cell? ⟨y,0,none⟩=some (.int .i64 x.op):=z0;have z1:wS.cell? ⟨y,1,none⟩=some (.int .i64 x.a):=z1;have z2:wS.cell? ⟨y,2,none⟩=some (.int .i64 x.b):=z2;have z3:wS.cell? ⟨y,3,none⟩=some (.int .i64 x.c):=z3;have hfS:=hf.trans (Fr.of_below hbs (fun q=>q=w.heap.size+1)) (fun _ _ h=>h);have HWS:=k_ hwS;have HY:=k_ hy;clear hwS hy hly hm hf hbs;have HMS:=k_ hmS;clear hmS;have HFS:=k_ hfS;clear hfS;have HCS:=k_ hcs;clear hcs
   go_upto_region 6 with fail
   rw[← HWS.out,← HY.out];clear x0 x1 x2 x3
   go_wp2_with (refine put_map rfl (.tmp 30) (.tmp 33) (.tmp 34) 357 63 rfl HMS.out HT.out (by unfold maxLen;omega) ⟨((j:Int),(k:Int)),hfn,hk64⟩ trivial x rfl rfl rfl ?_;intro w1 hm1 ht1)
   have hm3:CodeMap w1 (w.heap.size+1) _ (cF j C (k+1)):=hm1.congr (fun a _=>HCS.out ⟨hfn,hk64⟩ a);have hn3:(if (cF j C k ⟨((j:Int),(k:Int)),hfn,hk64⟩).isSome then m else m+1)≤k+1:=by split <;> omega
   have hf3:=HFS.out.trans (turned_fr ht1) (fun _ _ h=>h);clear hm1 ht1;have HM3:=k_ hm3;clear hm3;have HN3:=k_ hn3;clear hn3;have HF3:=k_ hf3;clear hf3;go_wp2_with fail
   go_roundw
   case rel=>exact⟨k+1,_,by omega,by go_num,HM3.out,HN3.out,HF3.out⟩
   case measure=>simp[intOf];omega
  ·have hk':k=C.length:=by omega
   subst hk';have hbf:Below w.heap.size w wr:=HB1.out.trans (hf.below HB1.out.size (fun q hq=>by omega));have HM:=k_ hm;clear hm;have HBF:=k_ hbf;clear hbf;clear hf;go_wp2_with fail
   go_ret
   exact⟨_,_,rfl,HM.out,by omega,HBF.out⟩
end Go.Proofs.YtlofbhoicbemnaaGreatDoor
namespace Go.Proofs.YtlofbhoicbemnaaGreatDoor
open Go.ChangeShapes Go.WideShapes Go.ChangeAt Go.RowKit
theorem reads_z (w:World) (x:Ins) (args:Int) (hz:Zi x):Calls Tryz.prog 349 #[x.val,.int .i64 args] w (ReadsSaid x args w):=by
 rcases hz with⟨v,rfl⟩ | rfl | rfl
 ·exact reads_none w 1 0 v 0 args (by decide)
 ·exact reads_a w 29 0 0 0 args (by decide)
 ·exact reads_none w 27 0 0 0 args (by decide)
end Go.Proofs.YtlofbhoicbemnaaGreatDoor
