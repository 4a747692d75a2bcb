/- Walks: check.look's callee, quiet. Walk: check.code: the instructions by their places. Walks: check.look's quiet, form. Walk: which .. -/
import Derived.Test.YtbkkhmafheimfaaGreatDoorWAg
set_option linter.unusedVariables false
set_option linter.unusedSimpArgs false
set_option maxRecDepth 100000
set_option maxHeartbeats 1600000
namespace Go.Proofs.YtbkkhmafheimfaaGreatDoor
open Go.ChangeShapes Go.WideShapes Go.ChangeAt Go.RowKit
def lookC (c0 c1 c2 d0 d3 d4:Value) (r s:Int) (i:Ins) (fn pc:Int):Array Value:=#[c0,c1,c2,d0,.int .i64 r,.int .i64 s,d3,d4,.int .i64 i.op,.int .i64 i.a,.int .i64 i.b,.int .i64 i.c,.int .i64 fn,.int .i64 pc]
def fun0:Fun:=⟨[],0,0,[],[]⟩
def calleeG (p:Prg) (i:Ins):Fun:=(calleeF p i).getD fun0
theorem fun0_val (w:World) (D:Nat→Prop):FunVal w D fun0 (.slice none 0 0) (.int .i64 0) (.int .i64 0) (.slice none 0 0) (.slice none 0 0) :=
 ⟨rfl,rfl,⟨none,0,rfl,fun j hj=>by cases hj⟩,⟨none,0,rfl,fun j hj=>by cases hj⟩,none,0,rfl,fun j hj=>by cases hj⟩
def CalleePost (p:Prg) (i:Ins) (D:Nat→Prop) (w:World) (e:Ending) (w':World):Prop :=
 ∃ d0 d3 d4,e=.returned (.tuple #[.agg #[d0,.int .i64 (calleeG p i).result,.int .i64 (calleeG p i).slots,d3,d4],.bool (calleeF p i).isSome])∧FunVal w' D (calleeG p i) d0 (.int .i64 (calleeG p i).result) (.int .i64 (calleeG p i).slots) d3 d4∧Below w.heap.size w w'
theorem calleeF_op (p:Prg) (i:Ins) (h:¬ (i.op=21∨i.op=23∨i.op=24)):calleeF p i=none:=by unfold calleeF;rw[if_neg (fun h2=>h h2.1)]
theorem calleeF_out (p:Prg) (i:Ins) (h:withinB i.b p.funcs.length=false):calleeF p i=none:=by unfold calleeF;rw[if_neg (fun h2=>by rw[h] at h2;cases h2.2)]
theorem calleeF_in (p:Prg) (i:Ins) (k:Nat) (hk:k<p.funcs.length) (hb:i.b=k) (h:i.op=21∨i.op=23∨i.op=24):calleeF p i=some p.funcs[k]:=by
 unfold calleeF;rw[if_pos ⟨h,by rw[hb];simp[withinB];omega⟩,hb]
 simp[hk]
theorem callee_none {p:Prg} {i:Ins} {D:Nat→Prop} {w w':World} (hn:calleeF p i=none) (hb:Below w.heap.size w w'):CalleePost p i D w (.returned (.tuple #[.agg #[.slice none 0 0,.int .i64 0,.int .i64 0,.slice none 0 0,.slice none 0 0],.bool false])) w':=by
 unfold CalleePost calleeG;rw[hn];exact⟨_,_,_,rfl,fun0_val _ _,hb⟩
theorem callee_some {p:Prg} {i:Ins} {g:Fun} {D:Nat→Prop} {w w':World} {d0 d3 d4:Value} (hn:calleeF p i=some g) (hv:FunVal w' D g d0 (.int .i64 g.result) (.int .i64 g.slots) d3 d4) (hb:Below w.heap.size w w'):CalleePost p i D w (.returned (.tuple #[.agg #[d0,.int .i64 g.result,.int .i64 g.slots,d3,d4],.bool true])) w':=by
 unfold CalleePost calleeG;rw[hn];exact⟨_,_,_,rfl,hv,hb⟩
theorem within_nat {b:Int} {n:Nat} (h:withinB b n=true):∃ k:Nat,b=k∧k<n:=by
 simp[withinB] at h
 exact⟨b.toNat,by omega,by omega⟩
theorem callee_any (w:World) (D:Nat→Prop) (hD:∀ k,D k→k<w.heap.size) (p:Prg) (c0 c1 c2 d0 d3 d4:Value) (r s:Int) (i:Ins) (fn pc:Int) (hv:PrgVal w D p c0 c1 c2) :
  Calls Tryz.prog 293 #[.agg (lookC c0 c1 c2 d0 d3 d4 r s i fn pc)] w (CalleePost p i D w):=by
 unfold lookC;obtain⟨⟨a0,m0,rfl,_⟩,⟨a1,m1,rfl,_⟩,a2,m2,rfl,hfs⟩:=hv;have hb:=((Below.refl w.heap.size w).alloc (Nat.le_refl _) (.cells #[.slice a0 p.globals.length m0,.slice a1 p.shapes.length m1,.slice a2 p.funcs.length m2,d0,.int .i64 r,.int .i64 s,d3,d4,.int .i64 i.op,.int .i64 i.a,.int .i64 i.b,.int .i64 i.c,.int .i64 fn,.int .i64 pc] 311)).alloc (by simp) (.cells #[.slice none 0 0,.int .i64 0,.int .i64 0,.slice none 0 0,.slice none 0 0] 36);have hbx:=box2 w #[.slice a0 p.globals.length m0,.slice a1 p.shapes.length m1,.slice a2 p.funcs.length m2,d0,.int .i64 r,.int .i64 s,d3,d4,.int .i64 i.op,.int .i64 i.a,.int .i64 i.b,.int .i64 i.c,.int .i64 fn,.int .i64 pc] #[.slice none 0 0,.int .i64 0,.int .i64 0,.slice none 0 0,.slice none 0 0] 311 36 _ (Below.refl _ _);have hl2:=heap_new (w.alloc (.cells #[.slice a0 p.globals.length m0,.slice a1 p.shapes.length m1,.slice a2 p.funcs.length m2,d0,.int .i64 r,.int .i64 s,d3,d4,.int .i64 i.op,.int .i64 i.a,.int .i64 i.b,.int .i64 i.c,.int .i64 fn,.int .i64 pc] 311)) (.cells #[.slice none 0 0,.int .i64 0,.int .i64 0,.slice none 0 0,.slice none 0 0] 36);rw[show (w.alloc (.cells #[.slice a0 p.globals.length m0,.slice a1 p.shapes.length m1,.slice a2 p.funcs.length m2,d0,.int .i64 r,.int .i64 s,d3,d4,.int .i64 i.op,.int .i64 i.a,.int .i64 i.b,.int .i64 i.c,.int .i64 fn,.int .i64 pc] 311)).heap.size=w.heap.size+1 from by simp] at hl2;obtain⟨W,hW⟩:∃ W,W=(w.alloc (.cells #[.slice a0 p.globals.length m0,.slice a1 p.shapes.length m1,.slice a2 p.funcs.length m2,d0,.int .i64 r,.int .i64 s,d3,d4,.int .i64 i.op,.int .i64 i.a,.int .i64 i.b,.int .i64 i.c,.int .i64 fn,.int .i64 pc] 311)).alloc (.cells #[.slice none 0 0,.int .i64 0,.int .i64 0,.slice none 0 0,.slice none 0 0] 36):=⟨_,rfl⟩;rw[← hW] at hb hl2 hbx;have q2:=hbx.1 2 _ rfl;have q8:=hbx.1 8 _ rfl;have q10:=hbx.1 10 _ rfl;have hfs:=hfs.fr (Fr.of_below hb (fun _=>False)) (fun _ _ h=>h);have hd:∀ k,D k→¬ onB (w.heap.size+1) k:=fun k hk h=>by have:=hD k hk;unfold onB at h;omega
 obtain⟨_,f0,f1,f2,f3,f4⟩:=five_cells hl2;clear hbx hD;have HW:=k_ hW;clear hW;have HB:=k_ hb;clear hb;have HL2:=k_ hl2;clear hl2;have HFS:=k_ hfs;clear hfs;have HD:=k_ hd;clear hd;obtain⟨op,a,b,c⟩:=i
 dsimp only at q8 q10 ⊢
 by_cases h21:op=21
 ·subst h21
  by_cases hw:withinB b p.funcs.length=true
  case neg =>
   have hw':withinB b p.funcs.length=false:=by simpa using hw
   have wi:=within_any W b p.funcs.length;rw[hw'] at wi;have hn:=calleeF_out p ⟨21,a,b,c⟩ hw';have hr:=row_set (row_set (row_set (row_set (row_set HL2.out 0 (.slice none 0 0)) 1 (.int .i64 0)) 2 (.int .i64 0)) 3 (.slice none 0 0)) 4 (.slice none 0 0);have hf:Fr (onB (w.heap.size+1)) W _:=(((((Fr.refl (onB (w.heap.size+1)) W).setCell (p:=⟨w.heap.size+1,0,none⟩) (fun _=>rfl) (.slice none 0 0)).setCell (p:=⟨w.heap.size+1,1,none⟩) (fun _=>rfl) (.int .i64 0)).setCell (p:=⟨w.heap.size+1,2,none⟩) (fun _=>rfl) (.int .i64 0)).setCell (p:=⟨w.heap.size+1,3,none⟩) (fun _=>rfl) (.slice none 0 0)).setCell (p:=⟨w.heap.size+1,4,none⟩) (fun _=>rfl) (.slice none 0 0);have hb:=HB.out.trans (hf.below HB.out.size (fun k hk=>by unfold onB at hk;omega));have hP:=callee_none (D:=D) hn hb;clear hf hb hn;have HR:=k_ hr;clear hr;have HP:=k_ hP;clear hP;clear hw hw';have WI:=k_ wi;clear wi
   go_enter Tryz.func293,Tryz.ntmps293
   go_upto_region 1 with fail
   rw[← HW.out];go_wp2_with fail;refine WI.out.mono ?_;rintro e w' ⟨rfl,rfl⟩
   go_wp2_with (with_reducible refine bodyPost_ret ?_ rfl HP.out;obtain⟨⟨k0,k1,k2,k3,k4⟩,_⟩:=five_cells HR.out;simp[results,Tryz.results293,go_sem,k0,k1,k2,k3,k4])
  have wi:=within_any W b p.funcs.length;rw[hw] at wi;obtain⟨k,hk,hkl⟩:=within_nat hw;subst hk;have hn:=calleeF_in p ⟨21,a,(k:Int),c⟩ k hkl rfl (by simp);have hfs:=HFS.out k hkl;generalize p.funcs[k]=g at *;obtain⟨bb,o,rfl,_,e0,e1,e2,e3,e4,h0,h1,h2,h3,h4,hfv⟩:=hfs;have hfw:=hfv;obtain⟨rfl,rfl,⟨g0,g1,rfl,_⟩,⟨g2,g3,rfl,_⟩,g4,g5,rfl,_⟩:=hfv;have hr:=row_set (row_set (row_set (row_set (row_set HL2.out 0 (.slice g0 g.args.length g1)) 1 (.int .i64 g.result)) 2 (.int .i64 g.slots)) 3 (.slice g2 g.objects.length g3)) 4 (.slice g4 g.code.length g5);have hf:Fr (onB (w.heap.size+1)) W _:=(((((Fr.refl (onB (w.heap.size+1)) W).setCell (p:=⟨w.heap.size+1,0,none⟩) (fun _=>rfl) (.slice g0 g.args.length g1)).setCell (p:=⟨w.heap.size+1,1,none⟩) (fun _=>rfl) (.int .i64 g.result)).setCell (p:=⟨w.heap.size+1,2,none⟩) (fun _=>rfl) (.int .i64 g.slots)).setCell (p:=⟨w.heap.size+1,3,none⟩) (fun _=>rfl) (.slice g2 g.objects.length g3)).setCell (p:=⟨w.heap.size+1,4,none⟩) (fun _=>rfl) (.slice g4 g.code.length g5);have hb:=HB.out.trans (hf.below HB.out.size (fun k hk=>by unfold onB at hk;omega));have hP:=callee_some hn (hfw.fr hf HD.out) hb;clear hf hb hn hfw hw;have HR:=k_ hr;clear hr;have HP:=k_ hP;clear hP;have WI:=k_ wi;clear wi;have hk1:(k:Int)<p.funcs.length:=by omega
  go_enter Tryz.func293,Tryz.ntmps293
  go_upto_region 1 with fail
  rw[← HW.out];go_wp2_with fail;refine WI.out.mono ?_;rintro e w' ⟨rfl,rfl⟩
  go_wp2_with (with_reducible refine bodyPost_ret ?_ rfl HP.out;obtain⟨⟨k0,k1,k2,k3,k4⟩,_⟩:=five_cells HR.out;simp[results,Tryz.results293,go_sem,k0,k1,k2,k3,k4])
 by_cases h23:op=23
 ·subst h23
  by_cases hw:withinB b p.funcs.length=true
  case neg =>
   have hw':withinB b p.funcs.length=false:=by simpa using hw
   have wi:=within_any W b p.funcs.length;rw[hw'] at wi;have hn:=calleeF_out p ⟨23,a,b,c⟩ hw';have hr:=row_set (row_set (row_set (row_set (row_set HL2.out 0 (.slice none 0 0)) 1 (.int .i64 0)) 2 (.int .i64 0)) 3 (.slice none 0 0)) 4 (.slice none 0 0);have hf:Fr (onB (w.heap.size+1)) W _:=(((((Fr.refl (onB (w.heap.size+1)) W).setCell (p:=⟨w.heap.size+1,0,none⟩) (fun _=>rfl) (.slice none 0 0)).setCell (p:=⟨w.heap.size+1,1,none⟩) (fun _=>rfl) (.int .i64 0)).setCell (p:=⟨w.heap.size+1,2,none⟩) (fun _=>rfl) (.int .i64 0)).setCell (p:=⟨w.heap.size+1,3,none⟩) (fun _=>rfl) (.slice none 0 0)).setCell (p:=⟨w.heap.size+1,4,none⟩) (fun _=>rfl) (.slice none 0 0);have hb:=HB.out.trans (hf.below HB.out.size (fun k hk=>by unfold onB at hk;omega));have hP:=callee_none (D:=D) hn hb;clear hf hb hn;have HR:=k_ hr;clear hr;have HP:=k_ hP;clear hP;clear hw hw';have WI:=k_ wi;clear wi
   go_enter Tryz.func293,Tryz.ntmps293
   go_upto_region 1 with fail
   rw[← HW.out];go_wp2_with fail;refine WI.out.mono ?_;rintro e w' ⟨rfl,rfl⟩
   go_wp2_with (with_reducible refine bodyPost_ret ?_ rfl HP.out;obtain⟨⟨k0,k1,k2,k3,k4⟩,_⟩:=five_cells HR.out;simp[results,Tryz.results293,go_sem,k0,k1,k2,k3,k4])
  have wi:=within_any W b p.funcs.length;rw[hw] at wi;obtain⟨k,hk,hkl⟩:=within_nat hw;subst hk;have hn:=calleeF_in p ⟨23,a,(k:Int),c⟩ k hkl rfl (by simp);have hfs:=HFS.out k hkl;generalize p.funcs[k]=g at *;obtain⟨bb,o,rfl,_,e0,e1,e2,e3,e4,h0,h1,h2,h3,h4,hfv⟩:=hfs;have hfw:=hfv;obtain⟨rfl,rfl,⟨g0,g1,rfl,_⟩,⟨g2,g3,rfl,_⟩,g4,g5,rfl,_⟩:=hfv;have hr:=row_set (row_set (row_set (row_set (row_set HL2.out 0 (.slice g0 g.args.length g1)) 1 (.int .i64 g.result)) 2 (.int .i64 g.slots)) 3 (.slice g2 g.objects.length g3)) 4 (.slice g4 g.code.length g5);have hf:Fr (onB (w.heap.size+1)) W _:=(((((Fr.refl (onB (w.heap.size+1)) W).setCell (p:=⟨w.heap.size+1,0,none⟩) (fun _=>rfl) (.slice g0 g.args.length g1)).setCell (p:=⟨w.heap.size+1,1,none⟩) (fun _=>rfl) (.int .i64 g.result)).setCell (p:=⟨w.heap.size+1,2,none⟩) (fun _=>rfl) (.int .i64 g.slots)).setCell (p:=⟨w.heap.size+1,3,none⟩) (fun _=>rfl) (.slice g2 g.objects.length g3)).setCell (p:=⟨w.heap.size+1,4,none⟩) (fun _=>rfl) (.slice g4 g.code.length g5);have hb:=HB.out.trans (hf.below HB.out.size (fun k hk=>by unfold onB at hk;omega));have hP:=callee_some hn (hfw.fr hf HD.out) hb;clear hf hb hn hfw hw;have HR:=k_ hr;clear hr;have HP:=k_ hP;clear hP;have WI:=k_ wi;clear wi;have hk1:(k:Int)<p.funcs.length:=by omega
  go_enter Tryz.func293,Tryz.ntmps293
  go_upto_region 1 with fail
  rw[← HW.out];go_wp2_with fail;refine WI.out.mono ?_;rintro e w' ⟨rfl,rfl⟩
  go_wp2_with (with_reducible refine bodyPost_ret ?_ rfl HP.out;obtain⟨⟨k0,k1,k2,k3,k4⟩,_⟩:=five_cells HR.out;simp[results,Tryz.results293,go_sem,k0,k1,k2,k3,k4])
 by_cases h24:op=24
 ·subst h24
  by_cases hw:withinB b p.funcs.length=true
  case neg =>
   have hw':withinB b p.funcs.length=false:=by simpa using hw
   have wi:=within_any W b p.funcs.length;rw[hw'] at wi;have hn:=calleeF_out p ⟨24,a,b,c⟩ hw';have hr:=row_set (row_set (row_set (row_set (row_set HL2.out 0 (.slice none 0 0)) 1 (.int .i64 0)) 2 (.int .i64 0)) 3 (.slice none 0 0)) 4 (.slice none 0 0);have hf:Fr (onB (w.heap.size+1)) W _:=(((((Fr.refl (onB (w.heap.size+1)) W).setCell (p:=⟨w.heap.size+1,0,none⟩) (fun _=>rfl) (.slice none 0 0)).setCell (p:=⟨w.heap.size+1,1,none⟩) (fun _=>rfl) (.int .i64 0)).setCell (p:=⟨w.heap.size+1,2,none⟩) (fun _=>rfl) (.int .i64 0)).setCell (p:=⟨w.heap.size+1,3,none⟩) (fun _=>rfl) (.slice none 0 0)).setCell (p:=⟨w.heap.size+1,4,none⟩) (fun _=>rfl) (.slice none 0 0);have hb:=HB.out.trans (hf.below HB.out.size (fun k hk=>by unfold onB at hk;omega));have hP:=callee_none (D:=D) hn hb;clear hf hb hn;have HR:=k_ hr;clear hr;have HP:=k_ hP;clear hP;clear hw hw';have WI:=k_ wi;clear wi
   go_enter Tryz.func293,Tryz.ntmps293
   go_upto_region 1 with fail
   rw[← HW.out];go_wp2_with fail;refine WI.out.mono ?_;rintro e w' ⟨rfl,rfl⟩
   go_wp2_with (with_reducible refine bodyPost_ret ?_ rfl HP.out;obtain⟨⟨k0,k1,k2,k3,k4⟩,_⟩:=five_cells HR.out;simp[results,Tryz.results293,go_sem,k0,k1,k2,k3,k4])
  have wi:=within_any W b p.funcs.length;rw[hw] at wi;obtain⟨k,hk,hkl⟩:=within_nat hw;subst hk;have hn:=calleeF_in p ⟨24,a,(k:Int),c⟩ k hkl rfl (by simp);have hfs:=HFS.out k hkl;generalize p.funcs[k]=g at *;obtain⟨bb,o,rfl,_,e0,e1,e2,e3,e4,h0,h1,h2,h3,h4,hfv⟩:=hfs;have hfw:=hfv;obtain⟨rfl,rfl,⟨g0,g1,rfl,_⟩,⟨g2,g3,rfl,_⟩,g4,g5,rfl,_⟩:=hfv;have hr:=row_set (row_set (row_set (row_set (row_set HL2.out 0 (.slice g0 g.args.length g1)) 1 (.int .i64 g.result)) 2 (.int .i64 g.slots)) 3 (.slice g2 g.objects.length g3)) 4 (.slice g4 g.code.length g5);have hf:Fr (onB (w.heap.size+1)) W _:=(((((Fr.refl (onB (w.heap.size+1)) W).setCell (p:=⟨w.heap.size+1,0,none⟩) (fun _=>rfl) (.slice g0 g.args.length g1)).setCell (p:=⟨w.heap.size+1,1,none⟩) (fun _=>rfl) (.int .i64 g.result)).setCell (p:=⟨w.heap.size+1,2,none⟩) (fun _=>rfl) (.int .i64 g.slots)).setCell (p:=⟨w.heap.size+1,3,none⟩) (fun _=>rfl) (.slice g2 g.objects.length g3)).setCell (p:=⟨w.heap.size+1,4,none⟩) (fun _=>rfl) (.slice g4 g.code.length g5);have hb:=HB.out.trans (hf.below HB.out.size (fun k hk=>by unfold onB at hk;omega));have hP:=callee_some hn (hfw.fr hf HD.out) hb;clear hf hb hn hfw hw;have HR:=k_ hr;clear hr;have HP:=k_ hP;clear hP;have WI:=k_ wi;clear wi;have hk1:(k:Int)<p.funcs.length:=by omega
  go_enter Tryz.func293,Tryz.ntmps293
  go_upto_region 1 with fail
  rw[← HW.out];go_wp2_with fail;refine WI.out.mono ?_;rintro e w' ⟨rfl,rfl⟩
  go_wp2_with (with_reducible refine bodyPost_ret ?_ rfl HP.out;obtain⟨⟨k0,k1,k2,k3,k4⟩,_⟩:=five_cells HR.out;simp[results,Tryz.results293,go_sem,k0,k1,k2,k3,k4])
 have hno:¬ (op=21∨op=23∨op=24):=by omega
 have e1:(op == 21)=false:=by simpa using h21
 have e2:(op == 23)=false:=by simpa using h23
 have e3:(op == 24)=false:=by simpa using h24
 have hn:=calleeF_op p ⟨op,a,b,c⟩ hno;have hr:=row_set (row_set (row_set (row_set (row_set HL2.out 0 (.slice none 0 0)) 1 (.int .i64 0)) 2 (.int .i64 0)) 3 (.slice none 0 0)) 4 (.slice none 0 0);have hf:Fr (onB (w.heap.size+1)) W _:=(((((Fr.refl (onB (w.heap.size+1)) W).setCell (p:=⟨w.heap.size+1,0,none⟩) (fun _=>rfl) (.slice none 0 0)).setCell (p:=⟨w.heap.size+1,1,none⟩) (fun _=>rfl) (.int .i64 0)).setCell (p:=⟨w.heap.size+1,2,none⟩) (fun _=>rfl) (.int .i64 0)).setCell (p:=⟨w.heap.size+1,3,none⟩) (fun _=>rfl) (.slice none 0 0)).setCell (p:=⟨w.heap.size+1,4,none⟩) (fun _=>rfl) (.slice none 0 0);have hb:=HB.out.trans (hf.below HB.out.size (fun k hk=>by unfold onB at hk;omega));have hP:=callee_none (D:=D) hn hb;clear hf hb hn;have HR:=k_ hr;clear hr;have HP:=k_ hP;clear hP;clear hno h21 h23 h24
 go_enter Tryz.func293,Tryz.ntmps293
 go_upto_region 1 with fail
 rw[← HW.out]
 go_wp2_with (with_reducible refine bodyPost_ret ?_ rfl HP.out;obtain⟨⟨k0,k1,k2,k3,k4⟩,_⟩:=five_cells HR.out;simp[results,Tryz.results293,go_sem,k0,k1,k2,k3,k4])
def Zi (i:Ins):Prop:=(∃ v,i=⟨1,0,v,0⟩)∨i=⟨29,0,0,0⟩∨i=⟨27,0,0,0⟩
def IsZ (p:Prg):Prop:=∀ f ∈ p.funcs,∀ i ∈ f.code,Zi i
theorem Zi.op {op a b c:Int} (h:Zi ⟨op,a,b,c⟩):op=1∨op=29∨op=27:=by
 rcases h with⟨v,h⟩ | h | h <;> injection h with h1 <;> simp[h1]
open Go.Maps
abbrev Pl:={ x:Int × Int // i64B x.1∧i64B x.2 }
def cF (fn:Int) (C:List Ins) (k:Nat) (x:Pl):Option Ins:=if x.1.1=fn∧0≤x.1.2∧x.1.2<k then C[x.1.2.toNat]? else none
def codeOf (p:Prg) (fn:Int):List Ins:=if withinB fn p.funcs.length=true then ((p.funcs[fn.toNat]?).map Fun.code).getD [] else []
theorem cF_zero (fn:Int) (C:List Ins) (x:Pl):(none:Option Ins)=cF fn C 0 x:=by
 unfold cF;rw[if_neg (by omega)]
theorem cF_succ (fn:Int) (C:List Ins) (k:Nat) (hk:k<C.length) (h:i64B fn∧i64B (k:Int)) (x:Pl):upd (cF fn C k) ⟨(fn,(k:Int)),h⟩ (some C[k]) x=cF fn C (k+1) x:=by
 unfold upd
 by_cases he:x=⟨(fn,(k:Int)),h⟩
 ·rw[if_pos he,he]
  unfold cF;rw[if_pos ⟨rfl,by simp,by show (k:Int)<((k+1:Nat):Int);omega⟩]
  simp[hk]
 ·rw[if_neg he]
  unfold cF
  by_cases h2:x.1.1=fn∧0≤x.1.2∧x.1.2<k
  ·rw[if_pos h2,if_pos ⟨h2.1,h2.2.1,by omega⟩]
  ·rw[if_neg h2,if_neg]
   rintro⟨h3,h4,h5⟩
   by_cases h6:x.1.2=k
   ·apply he
    obtain⟨⟨x1,x2⟩,hx⟩:=x
    simp at h3 h6
    subst h3 h6
    rfl
   ·exact h2 ⟨h3,h4,by omega⟩
def insVal (i:Ins):Value:=.agg #[.int .i64 i.op,.int .i64 i.a,.int .i64 i.b,.int .i64 i.c]
def CodeMap (w:World) (b m:Nat) (f:Pl→Option Ins):Prop:=MapIs plK insVal w b m f
def CodePost (p:Prg) (fn:Int) (w:World) (e:Ending) (w':World):Prop :=
 ∃ b m,e=.returned (.map (some b))∧CodeMap w' b m (cF fn (codeOf p fn) (codeOf p fn).length)∧w.heap.size≤b∧Below w.heap.size w w'
theorem code_any (w:World) (D:Nat→Prop) (p:Prg) (c0 c1 c2:Value) (fn:Int) (hD:∀ k,D k→k<w.heap.size) (hv:PrgVal w D p c0 c1 c2) (hfn:i64B fn) (hln:(codeOf p fn).length≤3000) :
  Calls Tryz.prog 236 #[.agg #[c0,c1,c2],.int .i64 fn] w (CodePost p fn w):=by
 obtain⟨⟨a0,m0,rfl,_⟩,⟨a1,m1,rfl,_⟩,a2,m2,rfl,hfs⟩:=hv;have hb0:=((Below.refl w.heap.size w).alloc (Nat.le_refl _) (.cells #[.slice a0 p.globals.length m0,.slice a1 p.shapes.length m1,.slice a2 p.funcs.length m2] 40));have hmk:CodeMap ((w.alloc (.cells #[.slice a0 p.globals.length m0,.slice a1 p.shapes.length m1,.slice a2 p.funcs.length m2] 40)).alloc (.map #[] 0)) (w.alloc (.cells #[.slice a0 p.globals.length m0,.slice a1 p.shapes.length m1,.slice a2 p.funcs.length m2] 40)).heap.size 0 (fun _=>none):=MapIs.made plK _ _;have hz1:(w.alloc (.cells #[.slice a0 p.globals.length m0,.slice a1 p.shapes.length m1,.slice a2 p.funcs.length m2] 40)).heap.size=w.heap.size+1:=by simp
 rw[hz1] at hmk;have hb1:=hb0.alloc (by simp) (.map #[] 0);have hmake:∀ w,(Instr.makeMap 308 none).run Tryz.prog w=.ok (.map (some w.heap.size)) (w.alloc (.map #[] 0)):=fun w=>run_makeMap _ w
 have ht:Tryz.prog.underlying 308=some (.map plK.k 32):=Tryz.underlying308;have q2:((w.alloc (.cells #[.slice a0 p.globals.length m0,.slice a1 p.shapes.length m1,.slice a2 p.funcs.length m2] 40)).alloc (.map #[] 0)).cell? ⟨w.heap.size,2,none⟩=some (.slice a2 p.funcs.length m2):=by
  rw[cell_under _ _ (by simp),cell_new];rfl
 obtain⟨W,hW⟩:∃ W,W=(w.alloc (.cells #[.slice a0 p.globals.length m0,.slice a1 p.shapes.length m1,.slice a2 p.funcs.length m2] 40)).alloc (.map #[] 0):=⟨_,rfl⟩;rw[← hW] at hmk hb1 q2;have hfs:=hfs.fr (Fr.of_below hb1 (fun _=>False)) (fun _ _ h=>h);have hm0:CodeMap W (w.heap.size+1) 0 (cF fn (codeOf p fn) 0):=hmk.congr (fun a _=>cF_zero fn (codeOf p fn) a);have HW:=k_ hW;clear hW hb0 hz1 hmk
 by_cases hin:withinB fn p.funcs.length=true
 case neg =>
  have hc:codeOf p fn=[]:=by unfold codeOf;rw[if_neg hin]
  have hP:CodePost p fn w (.returned (.map (some (w.heap.size+1)))) W:=by
   refine⟨_,0,rfl,?_,by omega,hb1⟩;rw[hc] at hm0 ⊢;exact hm0
  clear hm0 hc hfs hb1;have HP:=k_ hP;clear hP
  by_cases h0:0≤fn
  ·have h1:¬ fn<p.funcs.length:=fun h=>hin (by simp[withinB];omega)
   clear hin
   go_enter Tryz.func236,Tryz.ntmps236
   go_upto_region 2 with fail
   rw[← HW.out];go_wp2_with fail
   go_ret
   exact HP.out
  ·clear hin
   go_enter Tryz.func236,Tryz.ntmps236
   go_upto_region 2 with fail
   rw[← HW.out];go_wp2_with fail
   go_ret
   exact HP.out
 obtain⟨j,rfl,hj⟩:∃ j:Nat,fn=j∧j<p.funcs.length:=by
  simp[withinB] at hin
  exact⟨fn.toNat,by omega,by omega⟩
 have hc:codeOf p (j:Int)=p.funcs[j].code:=by unfold codeOf;rw[if_pos hin];simp[hj]
 obtain⟨b,o,rfl,_,y0,y1,y2,y3,y4,g0,g1,g2,g3,g4,hfv⟩:=hfs j hj;obtain⟨_,_,_,_,e0,e1,rfl,hsc⟩:=hfv;rw[hc] at hln hm0;unfold CodePost;rw[hc];clear hc hfs hin g0 g1 g2 g3;generalize p.funcs[j].code=C at *;have hj1:(j:Int)<p.funcs.length:=by omega
 have HM0:=k_ hm0;clear hm0;have HSC:=k_ hsc;clear hsc;have HT:=k_ ht;clear ht;have HB1:=k_ hb1;clear hb1;have HD:=k_ hD;clear hD
 go_enter Tryz.func236,Tryz.ntmps236
 go_upto_region 2 with fail
 rw[← HW.out];go_wp2_with fail
 go_loopw [25] (fun i wr=>∃ k m:Nat,k≤C.length∧i=.int .i64 k∧CodeMap wr (w.heap.size+1) m (cF j C k)∧m≤k∧Fr (fun q=>q=w.heap.size+1) W wr) (fun i _=>C.length - (intOf i).toNat)
 case atStart=>exact⟨0,0,Nat.zero_le _,rfl,HM0.out,Nat.le_refl _,Fr.refl _ _⟩
 case round =>
  obtain⟨k,m,hk,rfl,hm,hmk,hf⟩:=hrel
  by_cases hlt:k<C.length
  ·obtain⟨b',o',rfl,_,x0,x1,x2,x3⟩:=(HSC.out.fr hf (fun q hq e=>by have:=HD.out q hq;omega)) k hlt
   have hcs:=fun h=>cF_succ j C k hlt h
   have hk64:i64B (k:Int):=⟨by omega,by omega⟩;generalize C[k]=x at *;have hbs:=(Below.refl wr.heap.size wr).alloc (Nat.le_refl _) (.cells #[.int .i64 x.op,.int .i64 x.a,.int .i64 x.b,.int .i64 x.c] 32);have hly:=heap_new wr (.cells #[.int .i64 x.op,.int .i64 x.a,.int .i64 x.b,.int .i64 x.c] 32);have hmS:=hm.below hbs;obtain⟨y,hy⟩:∃ y,y=wr.heap.size:=⟨_,rfl⟩;obtain⟨wS,hwS⟩:∃ wS,wS=wr.alloc (.cells #[.int .i64 x.op,.int .i64 x.a,.int .i64 x.b,.int .i64 x.c] 32):=⟨_,rfl⟩;rw[← hwS] at hbs hmS;rw[← hwS,← hy] at hly;have z0:=(row_cell hly 0).1;have z1:=(row_cell hly 1).1;have z2:=(row_cell hly 2).1;have z3:=(row_cell hly 3).1;have z0:wS.cell? ⟨y,0,none⟩=some (.int .i64 x.op):=z0;have z1:wS.cell? ⟨y,1,none⟩=some (.int .i64 x.a):=z1;have z2:wS.cell? ⟨y,2,none⟩=some (.int .i64 x.b):=z2;have z3:wS.cell? ⟨y,3,none⟩=some (.int .i64 x.c):=z3;have hfS:=hf.trans (Fr.of_below hbs (fun q=>q=w.heap.size+1)) (fun _ _ h=>h);have HWS:=k_ hwS;have HY:=k_ hy;clear hwS hy hly hm hf hbs;have HMS:=k_ hmS;clear hmS;have HFS:=k_ hfS;clear hfS;have HCS:=k_ hcs;clear hcs
   go_upto_region 6 with fail
   rw[← HWS.out,← HY.out];clear x0 x1 x2 x3
   go_wp2_with (refine put_map rfl (.tmp 30) (.tmp 33) (.tmp 34) 308 32 rfl HMS.out HT.out (by unfold maxLen;omega) ⟨((j:Int),(k:Int)),hfn,hk64⟩ trivial x rfl rfl rfl ?_;intro w1 hm1 ht1)
   have hm3:CodeMap w1 (w.heap.size+1) _ (cF j C (k+1)):=hm1.congr (fun a _=>HCS.out ⟨hfn,hk64⟩ a);have hn3:(if (cF j C k ⟨((j:Int),(k:Int)),hfn,hk64⟩).isSome then m else m+1)≤k+1:=by split <;> omega
   have hf3:=HFS.out.trans (turned_fr ht1) (fun _ _ h=>h);clear hm1 ht1;have HM3:=k_ hm3;clear hm3;have HN3:=k_ hn3;clear hn3;have HF3:=k_ hf3;clear hf3;go_wp2_with fail
   go_roundw
   case rel=>exact⟨k+1,_,by omega,by go_num,HM3.out,HN3.out,HF3.out⟩
   case measure=>simp[intOf];omega
  ·have hk':k=C.length:=by omega
   subst hk';have hbf:Below w.heap.size w wr:=HB1.out.trans (hf.below HB1.out.size (fun q hq=>by omega));have HM:=k_ hm;clear hm;have HBF:=k_ hbf;clear hbf;clear hf;go_wp2_with fail
   go_ret
   exact⟨_,_,rfl,HM.out,by omega,HBF.out⟩
end Go.Proofs.YtbkkhmafheimfaaGreatDoor
namespace Go.Proofs.YtbkkhmafheimfaaGreatDoor
open Go.ChangeShapes Go.WideShapes Go.ChangeAt Go.RowKit
def quietV (p:Prg) (r:Int) (i:Ins):Bool:=(i.op == 22 && r == 0) || (i.op == 21 && (calleeF p i).isSome && (calleeG p i).result == 0)
theorem quiet_eq (p:Prg) (f:Fun) (i:Ins):quietV p f.result i=quietB p f i:=by
 unfold quietV quietB calleeG
 cases calleeF p i with
 | none=>simp
 | some g=>simp
theorem quiet_any (w:World) (D:Nat→Prop) (hD:∀ k,D k→k<w.heap.size) (p:Prg) (c0 c1 c2 d0 d3 d4:Value) (r s:Int) (i:Ins) (fn pc:Int) (hv:PrgVal w D p c0 c1 c2) (hd0:d0.oneCell'=true) (hd3:d3.oneCell'=true) (hd4:d4.oneCell'=true) :
  Calls Tryz.prog 292 #[.agg (lookC c0 c1 c2 d0 d3 d4 r s i fn pc)] w fun e w'=>e=.returned (.bool (quietV p r i))∧Below w.heap.size w w':=by
 obtain⟨op,a,b,c⟩:=i;have ca:=fun W h1 h2=>callee_any W D h1 p c0 c1 c2 d0 d3 d4 r s ⟨op,a,b,c⟩ fn pc h2
 unfold CalleePost at ca;have hC0:=(Below.refl w.heap.size w).alloc (Nat.le_refl _) (.cells (lookC c0 c1 c2 d0 d3 d4 r s ⟨op,a,b,c⟩ fn pc) 311);have hbx:=box1 w (lookC c0 c1 c2 d0 d3 d4 r s ⟨op,a,b,c⟩ fn pc) 311 _ (Below.refl _ _);have hz0:(w.alloc (.cells (lookC c0 c1 c2 d0 d3 d4 r s ⟨op,a,b,c⟩ fn pc) 311)).heap.size=w.heap.size+1:=by simp
 obtain⟨W,hW⟩:∃ W,W=w.alloc (.cells (lookC c0 c1 c2 d0 d3 d4 r s ⟨op,a,b,c⟩ fn pc) 311):=⟨_,rfl⟩;rw[← hW] at hC0 hbx hz0;have q:∀ W',Below W.heap.size W W'→∀ j u,(lookC c0 c1 c2 d0 d3 d4 r s ⟨op,a,b,c⟩ fn pc)[j]?=some u→W'.cell? ⟨w.heap.size,j,none⟩=some u:=fun W' h j u hj=>below_cell h (hbx.1 j u hj)
 clear hbx;have HW:=k_ hW;clear hW;have hvW:∀ W',Below W.heap.size W W'→PrgVal W' D p c0 c1 c2:=fun W' h=>hv.fr (Fr.of_below (hC0.trans (h.mono hC0.size)) (fun _=>False)) (fun _ _ h=>h)
 have hDW:∀ k,D k→k<W.heap.size:=fun k hk=>by have:=hD k hk;omega
 have HQQ:=k_ q;clear q;have HC0:=k_ hC0;clear hC0;have HVW:=k_ hvW;clear hvW;have HDW:=k_ hDW;clear hDW;have HZ0:=k_ hz0;clear hz0;unfold quietV
 dsimp only
 generalize (calleeG p ⟨op,a,b,c⟩)=G at *;generalize (calleeF p ⟨op,a,b,c⟩).isSome=is at *;generalize hgr:G.result=gr at *;generalize hgs:G.slots=gs at *;clear hgr hgs;have CA:=k_ (ca W HDW.out (HVW.out W (Below.refl _ _)));clear ca hv hD;unfold lookC at *
 go_enter Tryz.func292,Tryz.ntmps292
 go_upto_region 1 with fail
 rw[← HW.out];have p0:W.cell? ⟨w.heap.size,0,none⟩=some c0:=HQQ.out _ (Below.refl _ _) 0 _ rfl;have p1:W.cell? ⟨w.heap.size,1,none⟩=some c1:=HQQ.out _ (Below.refl _ _) 1 _ rfl;have p2:W.cell? ⟨w.heap.size,2,none⟩=some c2:=HQQ.out _ (Below.refl _ _) 2 _ rfl;have p3:W.cell? ⟨w.heap.size,3,none⟩=some d0:=HQQ.out _ (Below.refl _ _) 3 _ rfl;have p4:W.cell? ⟨w.heap.size,4,none⟩=some (.int .i64 r):=HQQ.out _ (Below.refl _ _) 4 _ rfl;have p5:W.cell? ⟨w.heap.size,5,none⟩=some (.int .i64 s):=HQQ.out _ (Below.refl _ _) 5 _ rfl;have p6:W.cell? ⟨w.heap.size,6,none⟩=some d3:=HQQ.out _ (Below.refl _ _) 6 _ rfl;have p7:W.cell? ⟨w.heap.size,7,none⟩=some d4:=HQQ.out _ (Below.refl _ _) 7 _ rfl;have p8:W.cell? ⟨w.heap.size,8,none⟩=some (.int .i64 op):=HQQ.out _ (Below.refl _ _) 8 _ rfl;have p9:W.cell? ⟨w.heap.size,9,none⟩=some (.int .i64 a):=HQQ.out _ (Below.refl _ _) 9 _ rfl;have p10:W.cell? ⟨w.heap.size,10,none⟩=some (.int .i64 b):=HQQ.out _ (Below.refl _ _) 10 _ rfl;have p11:W.cell? ⟨w.heap.size,11,none⟩=some (.int .i64 c):=HQQ.out _ (Below.refl _ _) 11 _ rfl;have p12:W.cell? ⟨w.heap.size,12,none⟩=some (.int .i64 fn):=HQQ.out _ (Below.refl _ _) 12 _ rfl;have p13:W.cell? ⟨w.heap.size,13,none⟩=some (.int .i64 pc):=HQQ.out _ (Below.refl _ _) 13 _ rfl;go_wp2_with fail;refine CA.out.mono ?_;rintro e w1 ⟨x0,x3,x4,rfl,hfv,hb1⟩;obtain⟨hq1,hq2,⟨g0,g1,rfl,_⟩,⟨g2,g3,rfl,_⟩,g4,g5,rfl,_⟩:=hfv;clear hq1 hq2;clear p0 p1 p2 p3 p4 p5 p6 p7 p8 p9 p10 p11 p12 p13;have p0:w1.cell? ⟨w.heap.size,0,none⟩=some c0:=HQQ.out _ hb1 0 _ rfl;have p1:w1.cell? ⟨w.heap.size,1,none⟩=some c1:=HQQ.out _ hb1 1 _ rfl;have p2:w1.cell? ⟨w.heap.size,2,none⟩=some c2:=HQQ.out _ hb1 2 _ rfl;have p3:w1.cell? ⟨w.heap.size,3,none⟩=some d0:=HQQ.out _ hb1 3 _ rfl;have p4:w1.cell? ⟨w.heap.size,4,none⟩=some (.int .i64 r):=HQQ.out _ hb1 4 _ rfl;have p5:w1.cell? ⟨w.heap.size,5,none⟩=some (.int .i64 s):=HQQ.out _ hb1 5 _ rfl;have p6:w1.cell? ⟨w.heap.size,6,none⟩=some d3:=HQQ.out _ hb1 6 _ rfl;have p7:w1.cell? ⟨w.heap.size,7,none⟩=some d4:=HQQ.out _ hb1 7 _ rfl;have p8:w1.cell? ⟨w.heap.size,8,none⟩=some (.int .i64 op):=HQQ.out _ hb1 8 _ rfl;have p9:w1.cell? ⟨w.heap.size,9,none⟩=some (.int .i64 a):=HQQ.out _ hb1 9 _ rfl;have p10:w1.cell? ⟨w.heap.size,10,none⟩=some (.int .i64 b):=HQQ.out _ hb1 10 _ rfl;have p11:w1.cell? ⟨w.heap.size,11,none⟩=some (.int .i64 c):=HQQ.out _ hb1 11 _ rfl;have p12:w1.cell? ⟨w.heap.size,12,none⟩=some (.int .i64 fn):=HQQ.out _ hb1 12 _ rfl;have p13:w1.cell? ⟨w.heap.size,13,none⟩=some (.int .i64 pc):=HQQ.out _ hb1 13 _ rfl;have z0:=World.block_lt p0;have hB2:=HC0.out.trans (((hb1.trans ((Below.refl w1.heap.size w1).alloc (Nat.le_refl _) (.cells #[.slice g0 G.args.length g1,.int .i64 gr,.int .i64 gs,.slice g2 G.objects.length g3,.slice g4 G.code.length g5] 36) |>.mono hb1.size))).mono HC0.out.size);clear hb1;have HB2:=k_ hB2;clear hB2
 go_upto_region 2 with fail
 by_cases h1:op=22
 ·subst h1
  by_cases h2:r=0
  ·subst h2
   go_wp2_with fail
   go_ret
   exact⟨by simp[*],HB2.out⟩
  ·have h2':(r == 0)=false:=by simpa using h2
   clear h2;go_wp2_with fail
   go_ret
   exact⟨by simp[*],HB2.out⟩
 ·have h1':(op == 22)=false:=by simpa using h1
  clear h1
  by_cases h3:op=21
  ·subst h3
   cases is
   ·skip
    go_wp2_with fail
    go_ret
    exact⟨by simp[*],HB2.out⟩
   ·by_cases h4:gr=0
    ·subst h4
     go_wp2_with fail
     go_ret
     exact⟨by simp[*],HB2.out⟩
    ·have h4':(gr == 0)=false:=by simpa using h4
     clear h4;go_wp2_with fail
     go_ret
     exact⟨by simp[*],HB2.out⟩
  ·have h3':(op == 21)=false:=by simpa using h3
   clear h3;go_wp2_with fail
   go_ret
   exact⟨by simp[*],HB2.out⟩
theorem reads_z (w:World) (x:Ins) (args:Int) (hz:Zi x):Calls Tryz.prog 294 #[x.val,.int .i64 args] w (ReadsSaid x args w):=by
 rcases hz with⟨v,rfl⟩ | rfl | rfl
 ·exact reads_none w 1 0 v 0 args (by decide)
 ·exact reads_a w 29 0 0 0 args (by decide)
 ·exact reads_none w 27 0 0 0 args (by decide)
end Go.Proofs.YtbkkhmafheimfaaGreatDoor
