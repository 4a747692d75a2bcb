/- A machine as it lies in memory; what is asked of it. Walks: shape.Check, the reference's Shapes. Walks: check.look's callee, quiet. .. -/
import Derived.Test.YtbkkhmafheimfaaGreatDoorVAg
set_option linter.unusedVariables false
set_option linter.unusedSimpArgs false
set_option maxRecDepth 100000
set_option maxHeartbeats 1600000
namespace Go.Proofs.YtbkkhmafheimfaaGreatDoor.Tk
open Go.ChangeShapes Go.WideShapes Go.ChangeAt Go.RowKit Go.Maps
structure WoD where (c0 c1 c2:Value) (n3 n4 n5 n6 n7:Int) (mb hb pb:Nat) (br ph cy si:Int) (tk hd gl ot:Value) (sr st cd:Int)
def WoD.cells (X:WoD):Array Value:=#[X.c0,X.c1,X.c2,.int .i64 X.n3,.int .i64 X.n4,.int .i64 X.n5,.int .i64 X.n6,.int .i64 X.n7,.pointer (some ⟨X.mb,0,none⟩),.pointer (some ⟨X.hb,0,none⟩),.pointer (some ⟨X.pb,0,none⟩),.int .u64 X.br,.int .i64 X.ph,.int .i64 X.cy,.int .i64 X.si,X.tk,X.hd,X.gl,X.ot,.int .i64 X.sr,.int .i64 X.st,.int .i64 X.cd]
def WoAt (w:World) (wb:Nat) (X:WoD):Prop:=w.heap[wb]?=some (.cells X.cells 112)
theorem WoAt.fr {F:Nat→Prop} {w w':World} {wb:Nat} {X:WoD} (h:WoAt w wb X) (hf:Fr F w w') (hn:¬ F wb):WoAt w' wb X:=hf.heap h hn
theorem WoAt.below {w w':World} {wb:Nat} {X:WoD} (h:WoAt w wb X) (hb:Below w.heap.size w w'):WoAt w' wb X:=h.fr (Fr.of_below hb (fun _=>False)) (fun h=>h)
theorem WoAt.lt {w:World} {wb:Nat} {X:WoD} (h:WoAt w wb X):wb<w.heap.size:=by
 rcases Nat.lt_or_ge wb w.heap.size with h1 | h1
 ·exact h1
 ·unfold WoAt at h;rw[Array.getElem?_eq_none h1] at h;cases h
theorem WoAt.cell {w:World} {wb:Nat} {X:WoD} (h:WoAt w wb X) (j:Nat):w.cell? ⟨wb,j,none⟩=X.cells[j]?∧w.frozen? ⟨wb,j,none⟩=false:=row_cell h j
theorem next_any (w:World) (wb:Nat) (X:WoD) (h:WoAt w wb X) (hs:0≤X.sr∧X.sr≤1000000) :
  Calls Tryz.prog 65 #[.pointer (some ⟨wb,0,none⟩)] w fun e w'=>e=.returned (.int .i64 X.sr)∧WoAt w' wb { X with sr:=X.sr+1 }∧Fr (fun k=>k=wb) w w':=by
 have f:=(h.cell 19).2;have c:w.cell? ⟨wb,19,none⟩=some (.int .i64 X.sr):=(h.cell 19).1;obtain⟨s,hs1⟩:∃ s,s=X.sr:=⟨_,rfl⟩;obtain⟨s1,hs2⟩:∃ s1,s1=s+1:=⟨_,rfl⟩;have i1:IntKind.i64.wrap (s+1)=s1:=by rw[hs2];exact IntWalk.i64_in _ (by omega)
 have i2:IntKind.i64.wrap (s1 - 1)=s:=by rw[show s1 - 1=s from by omega];exact IntWalk.i64_in _ (by omega)
 have hf:Fr (fun k=>k=wb) w (w.setCell ⟨wb,19,none⟩ (.int .i64 s1)):=(Fr.refl (fun k=>k=wb) w).setCell (p:=⟨wb,19,none⟩) (fun _=>rfl) _;have hr:WoAt (w.setCell ⟨wb,19,none⟩ (.int .i64 s1)) wb { X with sr:=s+1 }:=by rw[← hs2];exact row_set h 19 (.int .i64 s1)
 rw[← hs1] at c ⊢;have HP:=k_ (And.intro hr hf);clear hr hf hs2 hs1 hs h
 go_enter Tryz.func65,Tryz.ntmps65
 go_wp2_with fail
 go_ret
 exact⟨rfl,HP.out⟩
theorem none_any (w:World) (wb:Nat) (X:WoD) (h:WoAt w wb X) :
  Calls Tryz.prog 40 #[.pointer (some ⟨wb,0,none⟩)] w fun e w'=>e=.returned (.bool false)∧w=w':=by
 have c:w.cell? ⟨wb,9,none⟩=some (.pointer (some ⟨X.hb,0,none⟩)):=(h.cell 9).1;clear h
 go_enter Tryz.func40,Tryz.ntmps40
 go_wp2_with fail
 go_ret
 exact⟨rfl,rfl⟩
theorem status_any (w:World) (wb:Nat) (X:WoD) (h:WoAt w wb X) :
  Calls Tryz.prog 26 #[.pointer (some ⟨wb,0,none⟩)] w fun e w'=>e=.returned (.int .i64 X.st)∧w=w':=by
 have nn:=none_any w wb X h;have c:w.cell? ⟨wb,20,none⟩=some (.int .i64 X.st):=(h.cell 20).1;clear h;have NN:=k_ nn;clear nn
 go_enter Tryz.func26,Tryz.ntmps26
 go_wp2_with fail;refine NN.out.mono ?_;rintro e w1 ⟨rfl,rfl⟩;go_wp2_with fail
 go_ret
 exact⟨rfl,rfl⟩
end Go.Proofs.YtbkkhmafheimfaaGreatDoor.Tk
namespace Go.Proofs.YtbkkhmafheimfaaGreatDoor
open Go.ChangeShapes Go.WideShapes Go.ChangeAt Go.RowKit Go.Maps
def ShOk (l:List (List Int)) (k:Nat):Prop:=∀ j,j<k→shErr l.length (l[j]?.getD [])=0
theorem shapes_hit (l:List (List Int)) (h16:¬ 16<l.length) (i:Nat) (hi:i<l.length) (hp:ShOk l i) (hne:shErr l.length l[i]≠0):shapesErr l=shErr l.length l[i]:=by
 unfold shapesErr;rw[if_neg h16];have e:shErr l.length (l[i]?.getD [])=shErr l.length l[i]:=by simp[hi]
 rw[firstAt_hit (k:=i) hi hp (by rw[e];exact hne),e]
theorem shapes_zero (l:List (List Int)) (h16:¬ 16<l.length) (hp:ShOk l l.length):shapesErr l=0:=by
 unfold shapesErr;rw[if_neg h16,firstAt_none hp]
theorem shOk_succ (l:List (List Int)) (k:Nat) (hk:k<l.length) (hp:ShOk l k) (h:shErr l.length l[k]=0):ShOk l (k+1):=fun j hj=>by
 by_cases he:j=k
 ·subst he
  simpa[hk] using h
 ·exact hp j (by omega)
theorem shErr_len {n:Nat} {x:List Int} (h:x.length<1∨16<x.length):shErr n x=1:=if_pos h
theorem shErr_no {n:Nat} {x:List Int} (h:¬ (x.length<1∨16<x.length)) (h2:x.all (fieldB · n)=false):shErr n x=3:=by unfold shErr;rw[if_neg h,if_neg (by rw[h2];simp)]
theorem shErr_ok {n:Nat} {x:List Int} (h:¬ (x.length<1∨16<x.length)) (h2:x.all (fieldB · n)=true):shErr n x=0:=by unfold shErr;rw[if_neg h,if_pos h2]
theorem allF_take {P:Int→Bool} {l:List Int} {k:Nat} (hk:k<l.length) (h:(l.take k).all P=true):(l.take (k+1)).all P=P l[k]:=by
 rw[take_snoc l k hk,List.all_append,h]
 simp
theorem allF_no {P:Int→Bool} {l:List Int} {k:Nat} (hk:k<l.length) (h:P l[k]=false):l.all P=false:=by
 rw[List.all_eq_false];exact⟨l[k],List.getElem_mem hk,by simp[h]⟩
theorem shapeCheck_any (w:World) (D:Nat→Prop) (hD:∀ k,D k→k<w.heap.size) (a:Option Addr) (l:List (List Int)) (c:Nat) (hl:ShSl w D a l) (hbd:∀ s ∈ l,∀ x ∈ s,i64B x) (hn:l.length≤3000) (hne:∀ s ∈ l,s.length≤3000) :
  Calls Tryz.prog 62 #[.slice a l.length c] w fun e w'=>e=.returned (.int .i64 (shapesErr l))∧Below w.heap.size w w':=by
 by_cases h16:16<l.length
 ·rw[show shapesErr l=1 from if_pos h16]
  have h17:(16:Int)<l.length:=by omega
  go_enter Tryz.func62,Tryz.ntmps62
  go_wp2_with fail
  go_ret
  exact⟨rfl,Below.refl _ _⟩
 have h17:¬ (16:Int)<l.length:=by omega
 obtain⟨E,hE⟩:∃ E,E=shapesErr l:=⟨_,rfl⟩;rw[← hE];have HIT:=fun i hi hp hne=>k_ (shapes_hit l h16 i hi hp hne)
 have OKK:=k_ (shapes_zero l h16);have kn:=kinds_any w l.length false (by omega);have hls:∀ wr,Below w.heap.size w wr→ShSl wr D a l:=fun wr h=>hl.fr (Fr.of_below h (fun _=>False)) (fun _ _ h=>h)
 have ht:Tryz.prog.underlying 207=some (.map intK.k 3):=Tryz.underlying207;have HE:=k_ hE;clear h16 hE hl;have HLS:=k_ hls;clear hls;have KN:=k_ kn;clear kn;have HT:=k_ ht;clear ht;have HNE:=k_ hne;clear hne;have HBD:=k_ hbd;clear hbd;have HD:=k_ hD;clear hD
 go_enter Tryz.func62,Tryz.ntmps62
 go_wp2_with fail;refine KN.out.mono ?_;rintro e w1 ⟨b,m,rfl,hm,hbb,hB⟩;have hm:∀ wr,Below w1.heap.size w1 wr→IntMap wr b m (kindsF l.length false):=fun wr h=>hm.below h
 have hB1:∀ wr,Below w1.heap.size w1 wr→Below w.heap.size w wr:=fun wr h=>hB.trans (h.mono hB.size)
 have HM:=k_ hm;clear hm;have HB:=k_ hB;clear hB;have HB1:=k_ hB1;clear hB1;go_wp2_with fail
 go_loopw [16] (fun i wr=>∃ k:Nat,k≤l.length∧i=.int .i64 k∧Below w1.heap.size w1 wr∧ShOk l k) (fun i _=>l.length - (intOf i).toNat)
 case atStart=>exact⟨0,Nat.zero_le _,rfl,Below.refl _ _,fun j hj=>absurd hj (by omega)⟩
 case round =>
  obtain⟨k,hk,rfl,hR,hall⟩:=hrel;generalize wr=wo at *
  by_cases hlt:k<l.length
  ·obtain⟨b0,o,rfl,_,a',c',hcell,hints⟩:=HLS.out wo (HB1.out wo hR) k hlt
   have hints:∀ wz,Below wo.heap.size wo wz→IntSl wz D a' l[k]:=fun wz h=>hints.fr (Fr.of_below h (fun _=>False)) (fun _ _ h=>h)
   have hx:=HNE.out l[k] (List.getElem_mem hlt);have hbx:=HBD.out l[k] (List.getElem_mem hlt);have hit:=fun hne=>(HIT k hlt hall hne).out
   have suc:=shOk_succ l k hlt hall;generalize l[k]=x at *;have hx0:(x.length:Int)≤3000:=by omega
   have hR2:∀ wz,Below (wo.heap.size+1) (wo.alloc (.cells #[.slice a' x.length c'] 73)) wz→Below w1.heap.size w1 wz:=fun wz h=>(hR.alloc hR.size _).trans (h.mono (by have:=hR.size;omega))
   have hR2':∀ wz,Below (wo.heap.size+1) (wo.alloc (.cells #[.slice a' x.length c'] 73)) wz→Below wo.heap.size wo wz:=fun wz h=>((Below.refl _ _).alloc (Nat.le_refl _) _).trans (h.mono (by omega))
   have hf0:=Below.refl (wo.heap.size+1) (wo.alloc (.cells #[.slice a' x.length c'] 73))
   by_cases c1:(x.length:Int)<1
   ·have e:=HE.out
    have e1:shErr l.length x=1:=shErr_len (by omega);rw[hit (by rw[e1];decide),e1] at e;subst e;have hbf:=HB1.out _ (hR2 _ hf0);clear hit suc hall hints e1 hR hR2 hR2' hf0 hbx;have HBF:=k_ hbf;clear hbf;go_wp2_with fail
    go_ret
    exact⟨rfl,HBF.out⟩
   by_cases c2:(16:Int)<x.length
   ·have e:=HE.out
    have e1:shErr l.length x=1:=shErr_len (by omega);rw[hit (by rw[e1];decide),e1] at e;subst e;have hbf:=HB1.out _ (hR2 _ hf0);clear hit suc hall hints e1 hR hR2 hR2' hf0 hbx;have HBF:=k_ hbf;clear hbf;go_wp2_with fail
    go_ret
    exact⟨rfl,HBF.out⟩
   have hno:=fun h=>shErr_no (n:=l.length) (x:=x) (by omega) h
   have hyes:=fun h=>shErr_ok (n:=l.length) (x:=x) (by omega) h
   have hbw2:=HB1.out _ (hR2 _ hf0);have hrr:=hR2 _ hf0;have hm2:=HM.out _ hrr;have hints:=hints _ (hR2' _ hf0);clear hR2 hR2' hf0;have HIT:=k_ hit;clear hit;have SUC:=k_ suc;clear suc;have HNO:=k_ hno;clear hno;have HYES:=k_ hyes;clear hyes;have HINTS:=k_ hints;clear hints;have HR:=k_ hR;clear hR;have HBW2:=k_ hbw2;clear hbw2;have HRR:=k_ hrr;clear hrr;have HM2:=k_ hm2;clear hm2;have HBX:=k_ hbx;clear hbx;have HALL:=k_ hall;clear hall;go_wp2_with fail
   go_loopw [33] (fun i wz=>∃ q:Nat,q≤x.length∧i=.int .i64 q∧wz=wo.alloc (.cells #[.slice a' x.length c'] 73)∧(x.take q).all (fieldB · l.length)=true) (fun i _=>x.length - (intOf i).toNat)
   case atStart=>exact⟨0,Nat.zero_le _,rfl,by first | rfl | trivial,rfl⟩
   case round =>
    obtain⟨q,hq,rfl,hwz,hall⟩:=hrel;have HWZ:=k_ hwz;clear hwz
    by_cases hlq:q<x.length
    ·obtain⟨b',o',rfl,_,hy⟩:=HINTS.out q hlq
     have hy:wr.cell? ⟨b',o'+q,none⟩=some (.int .i64 x[q]):=by rw[HWZ.out];exact hy
     have hsn:=allF_take hlq hall;have hn2:=allF_no (P:=(fieldB · l.length)) hlq
     try dsimp only at hsn hn2
     have hyb:=HBX.out x[q] (List.getElem_mem hlq);generalize x[q]=y at *;have hm3:IntMap wr b m (kindsF l.length false):=by rw[HWZ.out];exact HM2.out
     cases hf:fieldB y l.length
     ·have e1:=HNO.out (hn2 hf)
      have e:=HE.out;rw[HIT.out (by rw[e1];decide),e1] at e;subst e;have hkf:kindsF l.length false y=none:=by
       have:=field_kinds y l.length;rw[hf] at this
       cases hh:kindsF l.length false y with
       | none=>rfl
       | some v=>rw[hh] at this;cases this
      have hbw3:Below w.heap.size w wr:=by rw[HWZ.out];exact HBW2.out
      clear hsn hn2 hall hf e1;have HKF:=k_ hkf;clear hkf;have HM3:=k_ hm3;clear hm3;have HYB:=k_ hyb;clear hyb;have HBW3:=k_ hbw3;clear hbw3
      go_wp2_with (refine look_none rfl (.tmp 37) (.tmp 38) 207 3 rfl HM3.out HT.out (zero_int _) y HYB.out rfl rfl HKF.out ?_)
      go_ret
      exact⟨rfl,HBW3.out⟩
     ·rw[hf] at hsn
      obtain⟨v,hkf⟩:∃ v,kindsF l.length false y=some v:=by
       have:=field_kinds y l.length;rw[hf] at this
       cases hh:kindsF l.length false y with
       | none=>rw[hh] at this;cases this
       | some v=>exact⟨v,rfl⟩
      have hv:=kinds_one hkf;subst hv;clear hn2 hall hf;have HKF:=k_ hkf;clear hkf;have HM3:=k_ hm3;clear hm3;have HYB:=k_ hyb;clear hyb;have HSN:=k_ hsn;clear hsn
      go_wp2_with (refine look_some rfl (.tmp 37) (.tmp 38) 207 3 rfl HM3.out HT.out (zero_int _) y HYB.out rfl rfl 1 HKF.out ?_)
      go_roundw
      case rel=>exact⟨q+1,by omega,by go_num,HWZ.out,HSN.out⟩
      case measure=>simp[intOf];omega
    ·have hq':q=x.length:=by omega
     subst hq';rw[List.take_length] at hall;have hsu:=SUC.out (HYES.out hall);have hrz:Below w1.heap.size w1 wr:=by rw[HWZ.out];exact HRR.out
     clear hall;have HSU:=k_ hsu;clear hsu;have HRZ:=k_ hrz;clear hrz;go_wp2_with fail
     go_roundw
     case rel=>exact⟨k+1,by omega,by go_num,HRZ.out,HSU.out⟩
     case measure=>simp[intOf];omega
  ·have hk':k=l.length:=by omega
   subst hk';have e:=HE.out;rw[OKK.out hall] at e;subst e;have hbw2:=HB1.out _ hR;clear hall hR;have HBW2:=k_ hbw2;clear hbw2;go_wp2_with fail
   go_ret
   exact⟨rfl,HBW2.out⟩
end Go.Proofs.YtbkkhmafheimfaaGreatDoor
namespace Go.Proofs.YtbkkhmafheimfaaGreatDoor
open Go.ChangeShapes Go.WideShapes Go.ChangeAt Go.RowKit
def lookC (c0 c1 c2 d0 d3 d4:Value) (r s:Int) (i:Ins) (fn pc:Int):Array Value:=#[c0,c1,c2,d0,.int .i64 r,.int .i64 s,d3,d4,.int .i64 i.op,.int .i64 i.a,.int .i64 i.b,.int .i64 i.c,.int .i64 fn,.int .i64 pc]
def fun0:Fun:=⟨[],0,0,[],[]⟩
def calleeG (p:Prg) (i:Ins):Fun:=(calleeF p i).getD fun0
theorem fun0_val (w:World) (D:Nat→Prop):FunVal w D fun0 (.slice none 0 0) (.int .i64 0) (.int .i64 0) (.slice none 0 0) (.slice none 0 0) :=
 ⟨rfl,rfl,⟨none,0,rfl,fun j hj=>by cases hj⟩,⟨none,0,rfl,fun j hj=>by cases hj⟩,none,0,rfl,fun j hj=>by cases hj⟩
def CalleePost (p:Prg) (i:Ins) (D:Nat→Prop) (w:World) (e:Ending) (w':World):Prop :=
 ∃ d0 d3 d4,e=.returned (.tuple #[.agg #[d0,.int .i64 (calleeG p i).result,.int .i64 (calleeG p i).slots,d3,d4],.bool (calleeF p i).isSome])∧FunVal w' D (calleeG p i) d0 (.int .i64 (calleeG p i).result) (.int .i64 (calleeG p i).slots) d3 d4∧Below w.heap.size w w'
theorem calleeF_op (p:Prg) (i:Ins) (h:¬ (i.op=21∨i.op=23∨i.op=24)):calleeF p i=none:=by unfold calleeF;rw[if_neg (fun h2=>h h2.1)]
theorem calleeF_out (p:Prg) (i:Ins) (h:withinB i.b p.funcs.length=false):calleeF p i=none:=by unfold calleeF;rw[if_neg (fun h2=>by rw[h] at h2;cases h2.2)]
theorem calleeF_in (p:Prg) (i:Ins) (k:Nat) (hk:k<p.funcs.length) (hb:i.b=k) (h:i.op=21∨i.op=23∨i.op=24):calleeF p i=some p.funcs[k]:=by
 unfold calleeF;rw[if_pos ⟨h,by rw[hb];simp[withinB];omega⟩,hb]
 simp[hk]
theorem callee_none {p:Prg} {i:Ins} {D:Nat→Prop} {w w':World} (hn:calleeF p i=none) (hb:Below w.heap.size w w'):CalleePost p i D w (.returned (.tuple #[.agg #[.slice none 0 0,.int .i64 0,.int .i64 0,.slice none 0 0,.slice none 0 0],.bool false])) w':=by
 unfold CalleePost calleeG;rw[hn];exact⟨_,_,_,rfl,fun0_val _ _,hb⟩
theorem callee_some {p:Prg} {i:Ins} {g:Fun} {D:Nat→Prop} {w w':World} {d0 d3 d4:Value} (hn:calleeF p i=some g) (hv:FunVal w' D g d0 (.int .i64 g.result) (.int .i64 g.slots) d3 d4) (hb:Below w.heap.size w w'):CalleePost p i D w (.returned (.tuple #[.agg #[d0,.int .i64 g.result,.int .i64 g.slots,d3,d4],.bool true])) w':=by
 unfold CalleePost calleeG;rw[hn];exact⟨_,_,_,rfl,hv,hb⟩
theorem within_nat {b:Int} {n:Nat} (h:withinB b n=true):∃ k:Nat,b=k∧k<n:=by
 simp[withinB] at h
 exact⟨b.toNat,by omega,by omega⟩
theorem callee_any (w:World) (D:Nat→Prop) (hD:∀ k,D k→k<w.heap.size) (p:Prg) (c0 c1 c2 d0 d3 d4:Value) (r s:Int) (i:Ins) (fn pc:Int) (hv:PrgVal w D p c0 c1 c2) :
  Calls Tryz.prog 293 #[.agg (lookC c0 c1 c2 d0 d3 d4 r s i fn pc)] w (CalleePost p i D w):=by
 unfold lookC;obtain⟨⟨a0,m0,rfl,_⟩,⟨a1,m1,rfl,_⟩,a2,m2,rfl,hfs⟩:=hv;have hb:=((Below.refl w.heap.size w).alloc (Nat.le_refl _) (.cells #[.slice a0 p.globals.length m0,.slice a1 p.shapes.length m1,.slice a2 p.funcs.length m2,d0,.int .i64 r,.int .i64 s,d3,d4,.int .i64 i.op,.int .i64 i.a,.int .i64 i.b,.int .i64 i.c,.int .i64 fn,.int .i64 pc] 311)).alloc (by simp) (.cells #[.slice none 0 0,.int .i64 0,.int .i64 0,.slice none 0 0,.slice none 0 0] 36);have hbx:=box2 w #[.slice a0 p.globals.length m0,.slice a1 p.shapes.length m1,.slice a2 p.funcs.length m2,d0,.int .i64 r,.int .i64 s,d3,d4,.int .i64 i.op,.int .i64 i.a,.int .i64 i.b,.int .i64 i.c,.int .i64 fn,.int .i64 pc] #[.slice none 0 0,.int .i64 0,.int .i64 0,.slice none 0 0,.slice none 0 0] 311 36 _ (Below.refl _ _);have hl2:=heap_new (w.alloc (.cells #[.slice a0 p.globals.length m0,.slice a1 p.shapes.length m1,.slice a2 p.funcs.length m2,d0,.int .i64 r,.int .i64 s,d3,d4,.int .i64 i.op,.int .i64 i.a,.int .i64 i.b,.int .i64 i.c,.int .i64 fn,.int .i64 pc] 311)) (.cells #[.slice none 0 0,.int .i64 0,.int .i64 0,.slice none 0 0,.slice none 0 0] 36);rw[show (w.alloc (.cells #[.slice a0 p.globals.length m0,.slice a1 p.shapes.length m1,.slice a2 p.funcs.length m2,d0,.int .i64 r,.int .i64 s,d3,d4,.int .i64 i.op,.int .i64 i.a,.int .i64 i.b,.int .i64 i.c,.int .i64 fn,.int .i64 pc] 311)).heap.size=w.heap.size+1 from by simp] at hl2;obtain⟨W,hW⟩:∃ W,W=(w.alloc (.cells #[.slice a0 p.globals.length m0,.slice a1 p.shapes.length m1,.slice a2 p.funcs.length m2,d0,.int .i64 r,.int .i64 s,d3,d4,.int .i64 i.op,.int .i64 i.a,.int .i64 i.b,.int .i64 i.c,.int .i64 fn,.int .i64 pc] 311)).alloc (.cells #[.slice none 0 0,.int .i64 0,.int .i64 0,.slice none 0 0,.slice none 0 0] 36):=⟨_,rfl⟩;rw[← hW] at hb hl2 hbx;have q2:=hbx.1 2 _ rfl;have q8:=hbx.1 8 _ rfl;have q10:=hbx.1 10 _ rfl;have hfs:=hfs.fr (Fr.of_below hb (fun _=>False)) (fun _ _ h=>h);have hd:∀ k,D k→¬ onB (w.heap.size+1) k:=fun k hk h=>by have:=hD k hk;unfold onB at h;omega
 obtain⟨_,f0,f1,f2,f3,f4⟩:=five_cells hl2;clear hbx hD;have HW:=k_ hW;clear hW;have HB:=k_ hb;clear hb;have HL2:=k_ hl2;clear hl2;have HFS:=k_ hfs;clear hfs;have HD:=k_ hd;clear hd;obtain⟨op,a,b,c⟩:=i
 dsimp only at q8 q10 ⊢
 by_cases h21:op=21
 ·subst h21
  by_cases hw:withinB b p.funcs.length=true
  case neg =>
   have hw':withinB b p.funcs.length=false:=by simpa using hw
   have wi:=within_any W b p.funcs.length;rw[hw'] at wi;have hn:=calleeF_out p ⟨21,a,b,c⟩ hw';have hr:=row_set (row_set (row_set (row_set (row_set HL2.out 0 (.slice none 0 0)) 1 (.int .i64 0)) 2 (.int .i64 0)) 3 (.slice none 0 0)) 4 (.slice none 0 0);have hf:Fr (onB (w.heap.size+1)) W _:=(((((Fr.refl (onB (w.heap.size+1)) W).setCell (p:=⟨w.heap.size+1,0,none⟩) (fun _=>rfl) (.slice none 0 0)).setCell (p:=⟨w.heap.size+1,1,none⟩) (fun _=>rfl) (.int .i64 0)).setCell (p:=⟨w.heap.size+1,2,none⟩) (fun _=>rfl) (.int .i64 0)).setCell (p:=⟨w.heap.size+1,3,none⟩) (fun _=>rfl) (.slice none 0 0)).setCell (p:=⟨w.heap.size+1,4,none⟩) (fun _=>rfl) (.slice none 0 0);have hb:=HB.out.trans (hf.below HB.out.size (fun k hk=>by unfold onB at hk;omega));have hP:=callee_none (D:=D) hn hb;clear hf hb hn;have HR:=k_ hr;clear hr;have HP:=k_ hP;clear hP;clear hw hw';have WI:=k_ wi;clear wi
   go_enter Tryz.func293,Tryz.ntmps293
   go_upto_region 1 with fail
   rw[← HW.out];go_wp2_with fail;refine WI.out.mono ?_;rintro e w' ⟨rfl,rfl⟩
   go_wp2_with (with_reducible refine bodyPost_ret ?_ rfl HP.out;obtain⟨⟨k0,k1,k2,k3,k4⟩,_⟩:=five_cells HR.out;simp[results,Tryz.results293,go_sem,k0,k1,k2,k3,k4])
  have wi:=within_any W b p.funcs.length;rw[hw] at wi;obtain⟨k,hk,hkl⟩:=within_nat hw;subst hk;have hn:=calleeF_in p ⟨21,a,(k:Int),c⟩ k hkl rfl (by simp);have hfs:=HFS.out k hkl;generalize p.funcs[k]=g at *;obtain⟨bb,o,rfl,_,e0,e1,e2,e3,e4,h0,h1,h2,h3,h4,hfv⟩:=hfs;have hfw:=hfv;obtain⟨rfl,rfl,⟨g0,g1,rfl,_⟩,⟨g2,g3,rfl,_⟩,g4,g5,rfl,_⟩:=hfv;have hr:=row_set (row_set (row_set (row_set (row_set HL2.out 0 (.slice g0 g.args.length g1)) 1 (.int .i64 g.result)) 2 (.int .i64 g.slots)) 3 (.slice g2 g.objects.length g3)) 4 (.slice g4 g.code.length g5);have hf:Fr (onB (w.heap.size+1)) W _:=(((((Fr.refl (onB (w.heap.size+1)) W).setCell (p:=⟨w.heap.size+1,0,none⟩) (fun _=>rfl) (.slice g0 g.args.length g1)).setCell (p:=⟨w.heap.size+1,1,none⟩) (fun _=>rfl) (.int .i64 g.result)).setCell (p:=⟨w.heap.size+1,2,none⟩) (fun _=>rfl) (.int .i64 g.slots)).setCell (p:=⟨w.heap.size+1,3,none⟩) (fun _=>rfl) (.slice g2 g.objects.length g3)).setCell (p:=⟨w.heap.size+1,4,none⟩) (fun _=>rfl) (.slice g4 g.code.length g5);have hb:=HB.out.trans (hf.below HB.out.size (fun k hk=>by unfold onB at hk;omega));have hP:=callee_some hn (hfw.fr hf HD.out) hb;clear hf hb hn hfw hw;have HR:=k_ hr;clear hr;have HP:=k_ hP;clear hP;have WI:=k_ wi;clear wi;have hk1:(k:Int)<p.funcs.length:=by omega
  go_enter Tryz.func293,Tryz.ntmps293
  go_upto_region 1 with fail
  rw[← HW.out];go_wp2_with fail;refine WI.out.mono ?_;rintro e w' ⟨rfl,rfl⟩
  go_wp2_with (with_reducible refine bodyPost_ret ?_ rfl HP.out;obtain⟨⟨k0,k1,k2,k3,k4⟩,_⟩:=five_cells HR.out;simp[results,Tryz.results293,go_sem,k0,k1,k2,k3,k4])
 by_cases h23:op=23
 ·subst h23
  by_cases hw:withinB b p.funcs.length=true
  case neg =>
   have hw':withinB b p.funcs.length=false:=by simpa using hw
   have wi:=within_any W b p.funcs.length;rw[hw'] at wi;have hn:=calleeF_out p ⟨23,a,b,c⟩ hw';have hr:=row_set (row_set (row_set (row_set (row_set HL2.out 0 (.slice none 0 0)) 1 (.int .i64 0)) 2 (.int .i64 0)) 3 (.slice none 0 0)) 4 (.slice none 0 0);have hf:Fr (onB (w.heap.size+1)) W _:=(((((Fr.refl (onB (w.heap.size+1)) W).setCell (p:=⟨w.heap.size+1,0,none⟩) (fun _=>rfl) (.slice none 0 0)).setCell (p:=⟨w.heap.size+1,1,none⟩) (fun _=>rfl) (.int .i64 0)).setCell (p:=⟨w.heap.size+1,2,none⟩) (fun _=>rfl) (.int .i64 0)).setCell (p:=⟨w.heap.size+1,3,none⟩) (fun _=>rfl) (.slice none 0 0)).setCell (p:=⟨w.heap.size+1,4,none⟩) (fun _=>rfl) (.slice none 0 0);have hb:=HB.out.trans (hf.below HB.out.size (fun k hk=>by unfold onB at hk;omega));have hP:=callee_none (D:=D) hn hb;clear hf hb hn;have HR:=k_ hr;clear hr;have HP:=k_ hP;clear hP;clear hw hw';have WI:=k_ wi;clear wi
   go_enter Tryz.func293,Tryz.ntmps293
   go_upto_region 1 with fail
   rw[← HW.out];go_wp2_with fail;refine WI.out.mono ?_;rintro e w' ⟨rfl,rfl⟩
   go_wp2_with (with_reducible refine bodyPost_ret ?_ rfl HP.out;obtain⟨⟨k0,k1,k2,k3,k4⟩,_⟩:=five_cells HR.out;simp[results,Tryz.results293,go_sem,k0,k1,k2,k3,k4])
  have wi:=within_any W b p.funcs.length;rw[hw] at wi;obtain⟨k,hk,hkl⟩:=within_nat hw;subst hk;have hn:=calleeF_in p ⟨23,a,(k:Int),c⟩ k hkl rfl (by simp);have hfs:=HFS.out k hkl;generalize p.funcs[k]=g at *;obtain⟨bb,o,rfl,_,e0,e1,e2,e3,e4,h0,h1,h2,h3,h4,hfv⟩:=hfs;have hfw:=hfv;obtain⟨rfl,rfl,⟨g0,g1,rfl,_⟩,⟨g2,g3,rfl,_⟩,g4,g5,rfl,_⟩:=hfv;have hr:=row_set (row_set (row_set (row_set (row_set HL2.out 0 (.slice g0 g.args.length g1)) 1 (.int .i64 g.result)) 2 (.int .i64 g.slots)) 3 (.slice g2 g.objects.length g3)) 4 (.slice g4 g.code.length g5);have hf:Fr (onB (w.heap.size+1)) W _:=(((((Fr.refl (onB (w.heap.size+1)) W).setCell (p:=⟨w.heap.size+1,0,none⟩) (fun _=>rfl) (.slice g0 g.args.length g1)).setCell (p:=⟨w.heap.size+1,1,none⟩) (fun _=>rfl) (.int .i64 g.result)).setCell (p:=⟨w.heap.size+1,2,none⟩) (fun _=>rfl) (.int .i64 g.slots)).setCell (p:=⟨w.heap.size+1,3,none⟩) (fun _=>rfl) (.slice g2 g.objects.length g3)).setCell (p:=⟨w.heap.size+1,4,none⟩) (fun _=>rfl) (.slice g4 g.code.length g5);have hb:=HB.out.trans (hf.below HB.out.size (fun k hk=>by unfold onB at hk;omega));have hP:=callee_some hn (hfw.fr hf HD.out) hb;clear hf hb hn hfw hw;have HR:=k_ hr;clear hr;have HP:=k_ hP;clear hP;have WI:=k_ wi;clear wi;have hk1:(k:Int)<p.funcs.length:=by omega
  go_enter Tryz.func293,Tryz.ntmps293
  go_upto_region 1 with fail
  rw[← HW.out];go_wp2_with fail;refine WI.out.mono ?_;rintro e w' ⟨rfl,rfl⟩
  go_wp2_with (with_reducible refine bodyPost_ret ?_ rfl HP.out;obtain⟨⟨k0,k1,k2,k3,k4⟩,_⟩:=five_cells HR.out;simp[results,Tryz.results293,go_sem,k0,k1,k2,k3,k4])
 by_cases h24:op=24
 ·subst h24
  by_cases hw:withinB b p.funcs.length=true
  case neg =>
   have hw':withinB b p.funcs.length=false:=by simpa using hw
   have wi:=within_any W b p.funcs.length;rw[hw'] at wi;have hn:=calleeF_out p ⟨24,a,b,c⟩ hw';have hr:=row_set (row_set (row_set (row_set (row_set HL2.out 0 (.slice none 0 0)) 1 (.int .i64 0)) 2 (.int .i64 0)) 3 (.slice none 0 0)) 4 (.slice none 0 0);have hf:Fr (onB (w.heap.size+1)) W _:=(((((Fr.refl (onB (w.heap.size+1)) W).setCell (p:=⟨w.heap.size+1,0,none⟩) (fun _=>rfl) (.slice none 0 0)).setCell (p:=⟨w.heap.size+1,1,none⟩) (fun _=>rfl) (.int .i64 0)).setCell (p:=⟨w.heap.size+1,2,none⟩) (fun _=>rfl) (.int .i64 0)).setCell (p:=⟨w.heap.size+1,3,none⟩) (fun _=>rfl) (.slice none 0 0)).setCell (p:=⟨w.heap.size+1,4,none⟩) (fun _=>rfl) (.slice none 0 0);have hb:=HB.out.trans (hf.below HB.out.size (fun k hk=>by unfold onB at hk;omega));have hP:=callee_none (D:=D) hn hb;clear hf hb hn;have HR:=k_ hr;clear hr;have HP:=k_ hP;clear hP;clear hw hw';have WI:=k_ wi;clear wi
   go_enter Tryz.func293,Tryz.ntmps293
   go_upto_region 1 with fail
   rw[← HW.out];go_wp2_with fail;refine WI.out.mono ?_;rintro e w' ⟨rfl,rfl⟩
   go_wp2_with (with_reducible refine bodyPost_ret ?_ rfl HP.out;obtain⟨⟨k0,k1,k2,k3,k4⟩,_⟩:=five_cells HR.out;simp[results,Tryz.results293,go_sem,k0,k1,k2,k3,k4])
  have wi:=within_any W b p.funcs.length;rw[hw] at wi;obtain⟨k,hk,hkl⟩:=within_nat hw;subst hk;have hn:=calleeF_in p ⟨24,a,(k:Int),c⟩ k hkl rfl (by simp);have hfs:=HFS.out k hkl;generalize p.funcs[k]=g at *;obtain⟨bb,o,rfl,_,e0,e1,e2,e3,e4,h0,h1,h2,h3,h4,hfv⟩:=hfs;have hfw:=hfv;obtain⟨rfl,rfl,⟨g0,g1,rfl,_⟩,⟨g2,g3,rfl,_⟩,g4,g5,rfl,_⟩:=hfv;have hr:=row_set (row_set (row_set (row_set (row_set HL2.out 0 (.slice g0 g.args.length g1)) 1 (.int .i64 g.result)) 2 (.int .i64 g.slots)) 3 (.slice g2 g.objects.length g3)) 4 (.slice g4 g.code.length g5);have hf:Fr (onB (w.heap.size+1)) W _:=(((((Fr.refl (onB (w.heap.size+1)) W).setCell (p:=⟨w.heap.size+1,0,none⟩) (fun _=>rfl) (.slice g0 g.args.length g1)).setCell (p:=⟨w.heap.size+1,1,none⟩) (fun _=>rfl) (.int .i64 g.result)).setCell (p:=⟨w.heap.size+1,2,none⟩) (fun _=>rfl) (.int .i64 g.slots)).setCell (p:=⟨w.heap.size+1,3,none⟩) (fun _=>rfl) (.slice g2 g.objects.length g3)).setCell (p:=⟨w.heap.size+1,4,none⟩) (fun _=>rfl) (.slice g4 g.code.length g5);have hb:=HB.out.trans (hf.below HB.out.size (fun k hk=>by unfold onB at hk;omega));have hP:=callee_some hn (hfw.fr hf HD.out) hb;clear hf hb hn hfw hw;have HR:=k_ hr;clear hr;have HP:=k_ hP;clear hP;have WI:=k_ wi;clear wi;have hk1:(k:Int)<p.funcs.length:=by omega
  go_enter Tryz.func293,Tryz.ntmps293
  go_upto_region 1 with fail
  rw[← HW.out];go_wp2_with fail;refine WI.out.mono ?_;rintro e w' ⟨rfl,rfl⟩
  go_wp2_with (with_reducible refine bodyPost_ret ?_ rfl HP.out;obtain⟨⟨k0,k1,k2,k3,k4⟩,_⟩:=five_cells HR.out;simp[results,Tryz.results293,go_sem,k0,k1,k2,k3,k4])
 have hno:¬ (op=21∨op=23∨op=24):=by omega
 have e1:(op == 21)=false:=by simpa using h21
 have e2:(op == 23)=false:=by simpa using h23
 have e3:(op == 24)=false:=by simpa using h24
 have hn:=calleeF_op p ⟨op,a,b,c⟩ hno;have hr:=row_set (row_set (row_set (row_set (row_set HL2.out 0 (.slice none 0 0)) 1 (.int .i64 0)) 2 (.int .i64 0)) 3 (.slice none 0 0)) 4 (.slice none 0 0);have hf:Fr (onB (w.heap.size+1)) W _:=(((((Fr.refl (onB (w.heap.size+1)) W).setCell (p:=⟨w.heap.size+1,0,none⟩) (fun _=>rfl) (.slice none 0 0)).setCell (p:=⟨w.heap.size+1,1,none⟩) (fun _=>rfl) (.int .i64 0)).setCell (p:=⟨w.heap.size+1,2,none⟩) (fun _=>rfl) (.int .i64 0)).setCell (p:=⟨w.heap.size+1,3,none⟩) (fun _=>rfl) (.slice none 0 0)).setCell (p:=⟨w.heap.size+1,4,none⟩) (fun _=>rfl) (.slice none 0 0);have hb:=HB.out.trans (hf.below HB.out.size (fun k hk=>by unfold onB at hk;omega));have hP:=callee_none (D:=D) hn hb;clear hf hb hn;have HR:=k_ hr;clear hr;have HP:=k_ hP;clear hP;clear hno h21 h23 h24
 go_enter Tryz.func293,Tryz.ntmps293
 go_upto_region 1 with fail
 rw[← HW.out]
 go_wp2_with (with_reducible refine bodyPost_ret ?_ rfl HP.out;obtain⟨⟨k0,k1,k2,k3,k4⟩,_⟩:=five_cells HR.out;simp[results,Tryz.results293,go_sem,k0,k1,k2,k3,k4])
theorem append_own_addr {P:Program} {α:Type} (E:Elem P α) {ops:Array Oper} {rest:List Oper} {o:Oper} {a:Act} {Q:Exit→Act→World→Prop} {w:World} (hgd:o.guard=none) (s x:Operand)
  (ho:o.op=.call { callee:=.builtin .append,args:=#[s,x],argTypes:=#[E.t,E.t] })
  (B:Nat) (l m:List α) (v:Value) (hs:a.eval s=v) (hown:Own E w B v l) (xa:Addr) (c:Nat) (hx:a.eval x=.slice (some xa) m.length c)
  (hm:∀ j u,(m.flatMap E.enc)[j]?=some u→w.cell? (xa.add j)=some u) (hlen:l.length+m.length≤100000000) (hB:B≤w.heap.size)
  (h:∀ v' w',Own E w' B v' (l ++ m)→w.grownBy w' v.ownBlock→wpList P ops Q rest (a.put o.dst v') w'):wpList P ops Q (o :: rest) a w:=by
 obtain⟨i0,hi,hz0,hz1,hz2⟩:=info_parts E.info;refine wpList_append_own _ hgd s x E.t ho B E.e i0 E.zero E.size E.bytes E.ht hi hz0 hz1 hz2 E.hzs E.hsz v l.length (l.flatMap E.enc) hs hown xa m.length c (m.flatMap E.enc) hx (E.len m) hm ?_ ?_ ?_ hB ?_
 ·intro u hu
  obtain⟨y,_,hy⟩:=List.mem_flatMap.1 hu;exact E.hone y u hy
 ·unfold maxLen;omega
 ·have h1:=E.hby
  have h2:(l.length+m.length) * E.bytes≤100000000 * 1000:=Nat.mul_le_mul hlen h1
  omega
 ·intro v' w' ho' hg _
  refine h v' w' ?_ hg;unfold Own;rw[List.length_append,List.flatMap_append];exact ho'
theorem cells_addr {w:World} {b o:Nat} {cs:List Value} (h:CellsAt w b o cs):∀ j u,cs[j]?=some u→w.cell? ((⟨b,o,none⟩:Addr).add j)=some u:=by
 intro j u hj;have:=h j u hj;unfold Addr.add
 by_cases h0:j=0
 ·subst h0;rw[if_pos rfl];exact this
 ·rw[if_neg h0];exact this
theorem sl_addrInts {w:World} {D:Nat→Prop} {xa:Addr} {l:List Int} (h:IntSl w D (some xa) l):∀ j u,(l.flatMap intE.enc)[j]?=some u→w.cell? (xa.add j)=some u:=by
 by_cases h0:1≤l.length
 ·obtain⟨b,o,e,hc⟩:=sl_cellsInts h h0
  injection e with e
  subst e;exact cells_addr hc
 ·have:l=[]:=List.length_eq_zero_iff.1 (by omega)
  subst this;intro j u hj
  simp at hj
theorem sl_addrInstrs {w:World} {D:Nat→Prop} {xa:Addr} {l:List Ins} (h:InsSlD w D (some xa) l):∀ j u,(l.flatMap insE.enc)[j]?=some u→w.cell? (xa.add j)=some u:=by
 by_cases h0:1≤l.length
 ·obtain⟨b,o,e,hc⟩:=sl_cellsInstrs h h0
  injection e with e
  subst e;exact cells_addr hc
 ·have:l=[]:=List.length_eq_zero_iff.1 (by omega)
  subst this;intro j u hj
  simp at hj
theorem alloc_cells {w:World} {xa:Addr} {o:Obj} {v:Value} (h:w.cell? xa=some v):(w.alloc o).cell? xa=some v:=by
 have hp:=plain_addr h;rw[hp] at h ⊢;rw[cell_under _ _ (World.block_lt h)];exact h
theorem eq_nil_run {α:Type} (E:Elem Tryz.prog α) (a:Option Addr) (n c:Nat) (w:World):(binOp .eql E.t (.slice a n c) (.slice none 0 0)).run Tryz.prog w=.ok (.bool a.isNone) w:=by
 have h:(Op.equalIn (9999+1) E.t (.slice a n c) (.slice none 0 0)).run Tryz.prog w=.ok a.isNone w:=by
  unfold Op.equalIn
  cases a <;> simp[run_underlying E.ht]
 have h2:binOp .eql E.t (.slice a n c) (.slice none 0 0)=(do pure (.bool (← Op.equalIn (9999+1) E.t (.slice a n c) (.slice none 0 0)))):=rfl;rw[h2]
 simp[h]
theorem cloneInts_any (w:World) (D:Nat→Prop) (a:Option Addr) (l:List Int) (c:Nat) (hsl:IntSl w D a l) (hn:l.length≤1000000) :
  Calls Tryz.prog 47 #[.slice a l.length c] w fun e w'=>∃ v,e=.returned v∧Own intE w' w.heap.size v l∧Below w.heap.size w w':=by
 cases a with
 | none =>
   have hl:l=[]:=by
    cases l with
    | nil=>rfl
    | cons x l=>obtain⟨b,o,h,_⟩:=hsl 0 (by simp);cases h
   subst hl;have hnil:=fun w=>eq_nil_run intE none 0 c w
   have hnil:∀ w,(binOp .eql 34 (.slice none 0 c) (.slice none 0 0)).run Tryz.prog w=.ok (.bool true) w:=hnil
   go_enter Tryz.func47,Tryz.ntmps47
   go_wp2_with fail
   go_ret
   exact⟨_,rfl,Own.nil _ _ _,Below.refl _ _⟩
 | some xa =>
   have hc:=sl_addrInts hsl;have ho:=own_new intE w [] #[] rfl (by decide);have hb0:=(Below.refl w.heap.size w).alloc (Nat.le_refl _) (.cells #[] intE.e);have hc2:=fun j u hj=>alloc_cells (o:=.cells #[] intE.e) (hc j u hj)
   have hnil:=fun w=>eq_nil_run intE (some xa) l.length c w
   have hnil:∀ w,(binOp .eql 34 (.slice (some xa) l.length c) (.slice none 0 0)).run Tryz.prog w=.ok (.bool false) w:=hnil;clear hsl hc;have HC2:=k_ hc2;clear hc2;have HO:=k_ ho;clear ho;have HB0:=k_ hb0;clear hb0
   go_enter Tryz.func47,Tryz.ntmps47
   go_wp2_with (at_builtin;refine append_own_addr intE rfl (.tmp 5) (.tmp 6) rfl w.heap.size [] l _ rfl HO.out xa c rfl HC2.out ?c1 ?c2 ?_)
   case c1=>simp;omega
   case c2=>simp
   intro v2 w2 hown2 hg2;have hB2:=below_grown HB0.out HO.out hg2 (by simp) (Nat.le_refl _);clear hg2;have HB2:=k_ hB2;clear hB2;have HOWN2:=k_ hown2;clear hown2;go_wp2_with fail
   go_ret
   exact⟨_,rfl,HOWN2.out,HB2.out⟩
theorem cloneInstrs_any (w:World) (D:Nat→Prop) (a:Option Addr) (l:List Ins) (c:Nat) (hsl:InsSlD w D a l) (hn:l.length≤1000000) :
  Calls Tryz.prog 61 #[.slice a l.length c] w fun e w'=>∃ v,e=.returned v∧Own insE w' w.heap.size v l∧Below w.heap.size w w':=by
 cases a with
 | none =>
   have hl:l=[]:=by
    cases l with
    | nil=>rfl
    | cons x l=>obtain⟨b,o,h,_⟩:=hsl 0 (by simp);cases h
   subst hl;have hnil:=fun w=>eq_nil_run insE none 0 c w
   have hnil:∀ w,(binOp .eql 33 (.slice none 0 c) (.slice none 0 0)).run Tryz.prog w=.ok (.bool true) w:=hnil
   go_enter Tryz.func61,Tryz.ntmps61
   go_wp2_with fail
   go_ret
   exact⟨_,rfl,Own.nil _ _ _,Below.refl _ _⟩
 | some xa =>
   have hc:=sl_addrInstrs hsl;have ho:=own_new insE w [] #[] rfl (by decide);have hb0:=(Below.refl w.heap.size w).alloc (Nat.le_refl _) (.cells #[] insE.e);have hc2:=fun j u hj=>alloc_cells (o:=.cells #[] insE.e) (hc j u hj)
   have hnil:=fun w=>eq_nil_run insE (some xa) l.length c w
   have hnil:∀ w,(binOp .eql 33 (.slice (some xa) l.length c) (.slice none 0 0)).run Tryz.prog w=.ok (.bool false) w:=hnil;clear hsl hc;have HC2:=k_ hc2;clear hc2;have HO:=k_ ho;clear ho;have HB0:=k_ hb0;clear hb0
   go_enter Tryz.func61,Tryz.ntmps61
   go_wp2_with (at_builtin;refine append_own_addr insE rfl (.tmp 5) (.tmp 6) rfl w.heap.size [] l _ rfl HO.out xa c rfl HC2.out ?c1 ?c2 ?_)
   case c1=>simp;omega
   case c2=>simp
   intro v2 w2 hown2 hg2;have hB2:=below_grown HB0.out HO.out hg2 (by simp) (Nat.le_refl _);clear hg2;have HB2:=k_ hB2;clear hB2;have HOWN2:=k_ hown2;clear hown2;go_wp2_with fail
   go_ret
   exact⟨_,rfl,HOWN2.out,HB2.out⟩
end Go.Proofs.YtbkkhmafheimfaaGreatDoor
