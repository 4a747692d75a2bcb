/- Walk: a machine's only task takes a step. -/
import Derived.Test.YtlofbhoicbemnaaGreatDoorGAx
set_option linter.unusedVariables false
set_option linter.unusedSimpArgs false
set_option maxRecDepth 100000
set_option maxHeartbeats 3200000
namespace Go.Proofs.YtlofbhoicbemnaaGreatDoor.Tk
open Go.ChangeShapes Go.WideShapes Go.ChangeAt Go.RowKit Go.Maps
structure One (w:World) (wb:Nat) (X:WoD) (kb tc hb hc tb:Nat) (b:Bool):Prop where
 mach:dw w wb X
 tk:X.tk=.slice (some ⟨kb,0,none⟩) 1 tc
 task:w.cell? ⟨kb,0,none⟩=some (.pointer (some ⟨tb,0,none⟩))
 hd:X.hd=.slice (some ⟨hb,0,none⟩) 1 hc
 row:∃ cs:Array Value,w.heap[hb]?=some (.cells cs 213)∧cs[0]?=some (.int .i64 0)∧cs[1]?=some (.bool b)
 ne:wb≠hb∧kb≠hb
theorem One.hand {w:World} {wb:Nat} {X:WoD} {kb tc hb hc tb:Nat} {b:Bool} (h:One w wb X kb tc hb hc tb b):(w.cell? ⟨hb,0,none⟩=some (.int .i64 0)∧w.cell? ⟨hb,1,none⟩=some (.bool b))∧w.frozen? ⟨hb,0,none⟩=false∧w.frozen? ⟨hb,1,none⟩=false:=by
 obtain⟨cs,h1,h2,h3⟩:=h.row;exact⟨⟨(aa h1 0).1.trans h2,(aa h1 1).1.trans h3⟩,(aa h1 0).2,(aa h1 1).2⟩
theorem One.below {w w':World} {wb:Nat} {X:WoD} {kb tc hb hc tb:Nat} {b:Bool} (h:One w wb X kb tc hb hc tb b) (hw:Below w.heap.size w w'):One w' wb X kb tc hb hc tb b:=by
 obtain⟨cs,h1,h2,h3⟩:=h.row;exact⟨h.mach.below hw,h.tk,ae hw h.task,h.hd,⟨cs,(fb_ hw).heap h1 (fun h=>h),h2,h3⟩,h.ne⟩
def hand0:Obj:=.cells #[.int .i64 0,.bool false] 213
theorem set2 {w1 w5:World} {y:Nat} (s:Int) (b:Bool) {cs:Array Value} (h5:Below w1.heap.size w1 w5) (hy:w1.heap.size≤y) (hr:w5.heap[y]?=some (.cells cs 213)) :
  Below w1.heap.size w1 ((w5.setCell ⟨y,0,none⟩ (.int .i64 s)).setCell ⟨y,1,none⟩ (.bool b))∧((w5.setCell ⟨y,0,none⟩ (.int .i64 s)).setCell ⟨y,1,none⟩ (.bool b)).heap[y]?=some (.cells ((cs.setIfInBounds 0 (.int .i64 s)).setIfInBounds 1 (.bool b)) 213):=by
 have hfz:Fr (fun q=>q=y) w5 _:=((Fr.refl (fun q=>q=y) w5).setCell (p:=⟨y,0,none⟩) (fun _=>rfl) (.int .i64 s)).setCell (p:=⟨y,1,none⟩) (fun _=>rfl) (.bool b);exact⟨h5.trans (hfz.below h5.size (fun q hq=>by have hq:q=y:=hq;omega)),ag (ag hr 0 _) 1 _⟩
def KJ (w:World) (wb:Nat) (c0 c1 c2:Value) (mb kb tc hb hc tb:Nat) (b:Bool):Prop :=
 (w.cell? ⟨wb,0,none⟩=some c0∧w.cell? ⟨wb,1,none⟩=some c1∧w.cell? ⟨wb,2,none⟩=some c2∧w.cell? ⟨wb,8,none⟩=some (.pointer (some ⟨mb,0,none⟩))∧w.cell? ⟨wb,15,none⟩=some (.slice (some ⟨kb,0,none⟩) 1 tc)∧w.cell? ⟨wb,16,none⟩=some (.slice (some ⟨hb,0,none⟩) 1 hc)∧w.cell? ⟨kb,0,none⟩=some (.pointer (some ⟨tb,0,none⟩))∧w.cell? ⟨hb,0,none⟩=some (.int .i64 0)∧w.cell? ⟨hb,1,none⟩=some (.bool b)∧w.frozen? ⟨hb,0,none⟩=false∧w.frozen? ⟨hb,1,none⟩=false)
theorem One.s {w:World} {wb:Nat} {X:WoD} {kb tc hb hc tb:Nat} {b:Bool} (h:One w wb X kb tc hb hc tb b):KJ w wb X.c0 X.c1 X.c2 X.mb kb tc hb hc tb b :=
 ⟨(h.mach.cell 0).1,(h.mach.cell 1).1,(h.mach.cell 2).1,(h.mach.cell 8).1,by rw[← h.tk];exact(h.mach.cell 15).1,by rw[← h.hd];exact(h.mach.cell 16).1,h.task,h.hand.1.1,h.hand.1.2,h.hand.2.1,h.hand.2.2⟩
theorem Dq (w:World) (k:Int):Calls Tryz.prog 130 #[.int .i64 k] w fun e w'=>e=.returned (.bool (decide (3≤k∧k≤7)))∧w=w':=by
 by_cases h1:3≤k
 ·by_cases h2:k≤7
  ·rw[decide_eq_true ⟨h1,h2⟩]
   go_enter Tryz.func130,Tryz.ntmps130
   go_wp2_with fail
   go_ret
   first | exact⟨rfl,rfl⟩ | exact⟨congrArg (fun b=>Ending.returned (Value.bool b)) (decide_eq_true (by omega)),rfl⟩
  ·rw[decide_eq_false (fun h=>h2 h.2)]
   go_enter Tryz.func130,Tryz.ntmps130
   go_wp2_with fail
   go_ret
   first | exact⟨rfl,rfl⟩ | exact⟨congrArg (fun b=>Ending.returned (Value.bool b)) (decide_eq_false (by omega)),rfl⟩
 ·rw[decide_eq_false (fun h=>h1 h.1)]
  go_enter Tryz.func130,Tryz.ntmps130
  go_wp2_with fail
  go_ret
  first | exact⟨rfl,rfl⟩ | exact⟨congrArg (fun b=>Ending.returned (Value.bool b)) (decide_eq_false (by omega)),rfl⟩
theorem sj (w:World) (wb:Nat) (X:WoD) (kb tc hb hc tb:Nat) (b:Bool) (h:One w wb X kb tc hb hc tb b)
  (h3:∃ a0 n0 m0 a1 n1 m1 a2 n2 m2,X.c0=.slice a0 n0 m0∧X.c1=.slice a1 n1 m1∧X.c2=.slice a2 n2 m2)
  (sf:Bool) (SAFE:∀ wx,Below w.heap.size w wx→Calls Tryz.prog 125 #[.agg #[X.c0,X.c1,X.c2],.pointer (some ⟨tb,0,none⟩)] wx fun e w'=>e=.returned (.bool sf)∧Below wx.heap.size wx w')
  (k a f v fn:Int) (bb:Bool) (s0:Option Addr) (s1 s2:Nat) (hk8:k≠8) (hask:¬ (3≤k∧k≤7)) (SP:Nat→World→Prop)
  (STEP:∀ wx,Fr (fun q=>q=hb) w wx→dw wx wb X→(∃ cs:Array Value,wx.heap[hb]?=some (.cells cs 213)∧cs[0]?=some (.int .i64 0)∧cs[1]?=some (.bool b))→Calls Tryz.prog 126 #[.agg #[X.c0,X.c1,X.c2],.pointer (some ⟨X.mb,0,none⟩),.pointer (some ⟨tb,0,none⟩)] wx fun e w'=>e=.returned (bA k a f v fn bb (.slice s0 s1 s2))∧SP wx.heap.size w'∧Fr (fun q=>q<w.heap.size∨wx.heap.size≤q) wx w')
  (hSP:∀ N w1 w2,SP N w1→Fr (fun q=>w.heap.size≤q∧q<N) w1 w2→SP N w2) (hSW:∀ N wx,SP N wx→dw wx wb X) (POST:World→Prop)
  (DO:∀ N wx,SP N wx→Calls Tryz.prog 132 #[.pointer (some ⟨wb,0,none⟩),.int .i64 0,bA k a f v fn bb (.slice s0 s1 s2)] wx fun e w'=>e=.returned (.tuple #[])∧POST w') :
  Calls Tryz.prog 102 #[.pointer (some ⟨wb,0,none⟩),.int .i64 0] w fun e w'=>e=.returned (.bool true)∧POST w':=by
 have hbl:hb<w.heap.size:=World.block_lt h.hand.1.1;have HROW:=k_ h.row;have HST:=k_ (fun wx (hx:Below w.heap.size w wx)=>(h.below hx).s);obtain⟨a0,n0,m0,a1,n1,m1,a2,n2,m2,e0,e1,e2⟩:=h3;rw[e0,e1,e2] at HST SAFE STEP;have HSW:=k_ hSW;clear hSW;have hne:=h.ne;obtain⟨c8,hc8⟩:∃ c8,c8=X.mb:=⟨_,rfl⟩;rw[← hc8] at HST STEP;have HC:=k_ (And.intro e0 (And.intro e1 (And.intro e2 hc8)));clear hc8;have HMA:=k_ (fun wx (hx:Fr (fun q=>q=hb) w wx)=>h.mach.fr hx h.ne.1);clear e0 e1 e2 h;have mh:=fun w=>Eu w 0 b
 have rc:=fun w=>Cm w 0 b sf ⟨by omega,by omega⟩
 have hr0:sD 0 sf=(0,false):=by cases sf <;> rfl
 rw[hr0] at rc;clear hr0;have MH:=k_ mh;clear mh;have RC:=k_ rc;clear rc;have SAX:=k_ SAFE;clear SAFE;have STX:=k_ STEP;clear STEP;have DOX:=k_ DO;clear DO;have HSP:=k_ hSP;clear hSP;have HNE:=k_ hne;clear hne;have HBL:=k_ hbl;clear hbl;have hk8':(k == 8)=false:=by rw[beq_eq_false_iff_ne];exact hk8
 have hk3:(decide (3≤k∧k≤7))=false:=decide_eq_false hask;clear hk8 hask
 go_enter Tryz.func102,Tryz.ntmps102
 obtain⟨p0,p1,p2,p8,p15,p16,t0,h0,h1,f0,f1⟩:=HST.out w (Below.refl _ _);go_wp2_with fail;refine(MH.out _).mono ?_;rintro e w1 ⟨rfl,hb1⟩;have HB1:=k_ hb1;clear p0 p1 p2 p8 p15 p16 t0 h0 h1 f0 f1 hb1;obtain⟨p0,p1,p2,p8,p15,p16,t0,h0,h1,f0,f1⟩:=HST.out w1 HB1.out
 go_upto_region 4 with fail
 go_cut [6,7] (fun x y wx=>∃ z:Nat,x=.pointer (some ⟨z,0,none⟩)∧y=.bool false∧wx.heap[z]?=some (.cells #[.int .i64 0,.bool b] 213)∧w1.heap.size≤z∧Below w1.heap.size w1 wx)
 case first =>
  have HSG:=k_ (fun wx (hx:Below w1.heap.size w1 wx)=>HST.out wx (HB1.out.trans (hx.mono HB1.out.size)));have HRR:=k_ (Below.refl w1.heap.size w1).drew;have HS6:=k_ (show ∀ wx,Below w1.heap.size w1 wx→wx.cell? ⟨wb,0,none⟩=some (.slice a0 n0 m0)∧wx.cell? ⟨wb,1,none⟩=some (.slice a1 n1 m1)∧wx.cell? ⟨wb,2,none⟩=some (.slice a2 n2 m2)∧wx.cell? ⟨wb,16,none⟩=some (.slice (some ⟨hb,0,none⟩) 1 hc)∧wx.cell? ⟨hb,0,none⟩=some (.int .i64 0)∧wx.cell? ⟨hb,1,none⟩=some (.bool b) from fun wx hx=>by
   obtain⟨p0,p1,p2,p8,p15,p16,t0,h0,h1,f0,f1⟩:=HSG.out wx hx;exact⟨p0,p1,p2,p16,h0,h1⟩)
  have hSd:=HS6.out w1.drew HRR.out;clear p0 p1 p2 p8 p15 p16 t0 h0 h1 f0 f1;refine wp_region_noPanic ?_;refine wp_region_held_drew (S:=fun w'=>Below w1.heap.size w1 w') (by kernel_rfl) (Below.refl _ _).drew (fun _=>?_);clear hSd;generalize w1.drew=r1 at *;refine tk_ (i:=0) (v:=?_) rfl (by kernel_rfl) (fun _ _ _ h=>h) ?tq0 HRR.out ?_
  case tq0=>(intro wq hq;obtain⟨f0,f1,f2,f3,f4,f5⟩:=HS6.out wq hq;go_simp;first | done | with_reducible rfl)
  refine tk_ (i:=1) (v:=?_) rfl (by kernel_rfl) (fun _ _ _ h=>h) ?tq1 HRR.out ?_
  case tq1=>(intro wq hq;obtain⟨f0,f1,f2,f3,f4,f5⟩:=HS6.out wq hq;go_simp;first | done | with_reducible rfl)
  refine tk_ (i:=2) (v:=?_) rfl (by kernel_rfl) (fun _ _ _ h=>h) ?tq2 HRR.out ?_
  case tq2=>(intro wq hq;obtain⟨f0,f1,f2,f3,f4,f5⟩:=HS6.out wq hq;go_simp;first | done | with_reducible rfl)
  refine tk_ (i:=3) (v:=?_) rfl (by kernel_rfl) (fun _ _ _ h=>h) ?tq3 HRR.out ?_
  case tq3=>(intro wq hq;obtain⟨f0,f1,f2,f3,f4,f5⟩:=HS6.out wq hq;go_simp;first | done | with_reducible rfl)
  refine tk_ (i:=4) (v:=?_) rfl (by kernel_rfl) (fun _ _ _ h=>h) ?tq4 HRR.out ?_
  case tq4=>(intro wq hq;obtain⟨f0,f1,f2,f3,f4,f5⟩:=HS6.out wq hq;go_simp;first | done | with_reducible rfl)
  refine tk_ (i:=5) (v:=?_) rfl (by kernel_rfl) (fun _ _ _ h=>h) ?tq5 HRR.out ?_
  case tq5=>(intro wq hq;obtain⟨f0,f1,f2,f3,f4,f5⟩:=HS6.out wq hq;go_simp;first | done | with_reducible rfl)
  refine tk_ (i:=6) (v:=?_) rfl (by kernel_rfl) (fun _ _ _ h=>h) ?tq6 HRR.out ?_
  case tq6=>(intro wq hq;obtain⟨f0,f1,f2,f3,f4,f5⟩:=HS6.out wq hq;go_simp;first | done | with_reducible rfl)
  refine tk_ (i:=7) (v:=?_) rfl (by kernel_rfl) (fun _ _ _ h=>h) ?tq7 HRR.out ?_
  case tq7=>(intro wq hq;obtain⟨f0,f1,f2,f3,f4,f5⟩:=HS6.out wq hq;go_simp;first | done | with_reducible rfl)
  refine tk_ (i:=8) (v:=?_) rfl (by kernel_rfl) (fun _ _ _ h=>h) ?tq8 HRR.out ?_
  case tq8=>(intro wq hq;obtain⟨f0,f1,f2,f3,f4,f5⟩:=HS6.out wq hq;go_simp;first | done | with_reducible rfl)
  refine tk_ (i:=9) (v:=?_) rfl (by kernel_rfl) (fun _ _ _ h=>h) ?tq9 HRR.out ?_
  case tq9=>(intro wq hq;obtain⟨f0,f1,f2,f3,f4,f5⟩:=HS6.out wq hq;go_simp;first | done | with_reducible rfl)
  refine tk_ (i:=10) (v:=?_) rfl (by kernel_rfl) (fun _ _ _ h=>h) ?tq10 HRR.out ?_
  case tq10=>(intro wq hq;obtain⟨f0,f1,f2,f3,f4,f5⟩:=HS6.out wq hq;go_simp;first | done | with_reducible rfl)
  refine tk_ (i:=11) (v:=?_) rfl (by kernel_rfl) (fun _ _ _ h=>h) ?tq11 HRR.out ?_
  case tq11=>(intro wq hq;obtain⟨f0,f1,f2,f3,f4,f5⟩:=HS6.out wq hq;go_simp;first | done | with_reducible rfl)
  refine wpAnyH_ready (rs:=[12,17]) (by kernel_rfl) (by simp) ?_;refine(AllReadyH.cons rfl (fun K hK=>?_) (AllReadyH.cons rfl (fun K hK=>?_) AllReadyH.nil))
  ·skip
   go_simp
   go_at_call 125
   refine(SAX.out _ (HB1.out.trans (HRR.out.mono HB1.out.size))).mono ?_;rintro e r2 ⟨rfl,hb⟩;have Hr2:=k_ (HRR.out.trans (hb.mono HRR.out.size))
   skip
   clear hb;refine hK.out _ _ Hr2.out (fun _=>?_);clear hK K;refine wpAnyH_ready (rs:=[13,17]) (by kernel_rfl) (by simp) ?_;refine(AllReadyH.cons rfl (fun K hK=>?_) (AllReadyH.cons rfl (fun K hK=>?_) AllReadyH.nil))
   ·skip
    go_simp
    go_at_call 124
    refine(RC.out _).mono ?_;rintro e r3 ⟨rfl,hb⟩;have Hr3:=k_ (Hr2.out.trans (hb.mono Hr2.out.size))
    skip
    clear hb;refine hK.out _ _ Hr3.out (fun _=>?_);clear hK K;refine tk_ (i:=14) (v:=?_) rfl (by kernel_rfl) (fun _ _ _ h=>h) ?tq14 Hr3.out ?_
    case tq14=>(intro wq hq;obtain⟨f0,f1,f2,f3,f4,f5⟩:=HS6.out wq hq;go_simp;first | done | with_reducible rfl)
    refine tk_ (i:=15) (v:=?_) rfl (by kernel_rfl) (fun _ _ _ h=>h) ?tq15 Hr3.out ?_
    case tq15=>(intro wq hq;obtain⟨f0,f1,f2,f3,f4,f5⟩:=HS6.out wq hq;go_simp;first | done | with_reducible rfl)
    refine tk_ (i:=16) (v:=?_) rfl (by kernel_rfl) (fun _ _ _ h=>h) ?tq16 Hr3.out ?_
    case tq16=>(intro wq hq;obtain⟨f0,f1,f2,f3,f4,f5⟩:=HS6.out wq hq;go_simp;first | done | with_reducible rfl)
    refine rd_ (i:=17) (by kernel_rfl) rfl fun K hK=>?_
    go_simp;obtain⟨r4,hr4⟩:∃ u,u=World.alloc r3 (.cells #[.int .i64 0,.bool false] 213):=⟨_,rfl⟩;have hl:r4.heap[(r3).heap.size]?=some hand0:=by rw[hr4];exact ai _ _
    have hy:w1.heap.size≤(r3).heap.size:=Hr3.out.size;have Hr4:=k_ (show Below w1.heap.size w1 r4 by rw[hr4];exact Hr3.out.alloc Hr3.out.size _);rw[← hr4];obtain⟨y,hy0⟩:∃ y,y=(r3).heap.size:=⟨_,rfl⟩;rw[← hy0] at hl hy ⊢;have HL:=k_ hl;have HY:=k_ hy;clear hl hy hy0 hr4;refine hK.out _ _ Hr4.out (fun _=>?_);clear hK K;have l0:=(aa HL.out 0).1;have l1:=(aa HL.out 1).1;have g0:=(aa HL.out 0).2;have g1:=(aa HL.out 1).2;simp only[List.getElem?_toArray,List.getElem?_cons_zero,List.getElem?_cons_succ] at l0 l1;obtain⟨hW,hRW⟩:=set2 0 b Hr4.out HY.out HL.out;have HW:=k_ hW;have HRW:=k_ hRW;clear hW hRW;refine rd_ (i:=18) (by kernel_rfl) rfl fun K hK=>?_
    go_simp;refine hK.out _ _ HW.out (fun _=>?_);clear hK K l0 l1 g0 g1;refine tk_ (i:=19) (v:=?_) rfl (by kernel_rfl) (fun _ _ _ h=>h) ?tq19 HW.out ?_
    case tq19=>(intro wq hq;obtain⟨f0,f1,f2,f3,f4,f5⟩:=HS6.out wq hq;go_simp;first | done | with_reducible rfl)
    refine wpAnyH_done (by kernel_rfl) ?_ _;refine NoPanic.normal ?_;go_wp2_with fail
    go_meet
    case rel=>exact⟨_,rfl,rfl,HRW.out,HY.out,HW.out⟩
   ·skip
    go_simp;obtain⟨r3,hr3⟩:∃ u,u=World.alloc r2 (.cells #[.int .i64 0,.bool false] 213):=⟨_,rfl⟩;have hl:r3.heap[(r2).heap.size]?=some hand0:=by rw[hr3];exact ai _ _
    have hy:w1.heap.size≤(r2).heap.size:=Hr2.out.size;have Hr3:=k_ (show Below w1.heap.size w1 r3 by rw[hr3];exact Hr2.out.alloc Hr2.out.size _);rw[← hr3];obtain⟨y,hy0⟩:∃ y,y=(r2).heap.size:=⟨_,rfl⟩;rw[← hy0] at hl hy ⊢;have HL:=k_ hl;have HY:=k_ hy;clear hl hy hy0 hr3;refine hK.out _ _ Hr3.out (fun _=>?_);clear hK K;refine rd_ (i:=13) (by kernel_rfl) rfl fun K hK=>?_
    go_simp
    go_at_call 124
    refine(RC.out _).mono ?_;rintro e r4 ⟨rfl,hb⟩;have Hr4:=k_ (Hr3.out.trans (hb.mono Hr3.out.size));have HL:=k_ ((fb_ hb).heap HL.out (fun h=>h));clear hb;refine hK.out _ _ Hr4.out (fun _=>?_);clear hK K;refine tk_ (i:=14) (v:=?_) rfl (by kernel_rfl) (fun _ _ _ h=>h) ?tq14 Hr4.out ?_
    case tq14=>(intro wq hq;obtain⟨f0,f1,f2,f3,f4,f5⟩:=HS6.out wq hq;go_simp;first | done | with_reducible rfl)
    refine tk_ (i:=15) (v:=?_) rfl (by kernel_rfl) (fun _ _ _ h=>h) ?tq15 Hr4.out ?_
    case tq15=>(intro wq hq;obtain⟨f0,f1,f2,f3,f4,f5⟩:=HS6.out wq hq;go_simp;first | done | with_reducible rfl)
    refine tk_ (i:=16) (v:=?_) rfl (by kernel_rfl) (fun _ _ _ h=>h) ?tq16 Hr4.out ?_
    case tq16=>(intro wq hq;obtain⟨f0,f1,f2,f3,f4,f5⟩:=HS6.out wq hq;go_simp;first | done | with_reducible rfl)
    have l0:=(aa HL.out 0).1;have l1:=(aa HL.out 1).1;have g0:=(aa HL.out 0).2;have g1:=(aa HL.out 1).2;simp only[List.getElem?_toArray,List.getElem?_cons_zero,List.getElem?_cons_succ] at l0 l1;obtain⟨hW,hRW⟩:=set2 0 b Hr4.out HY.out HL.out;have HW:=k_ hW;have HRW:=k_ hRW;clear hW hRW;refine rd_ (i:=18) (by kernel_rfl) rfl fun K hK=>?_
    go_simp;refine hK.out _ _ HW.out (fun _=>?_);clear hK K l0 l1 g0 g1;refine tk_ (i:=19) (v:=?_) rfl (by kernel_rfl) (fun _ _ _ h=>h) ?tq19 HW.out ?_
    case tq19=>(intro wq hq;obtain⟨f0,f1,f2,f3,f4,f5⟩:=HS6.out wq hq;go_simp;first | done | with_reducible rfl)
    refine wpAnyH_done (by kernel_rfl) ?_ _;refine NoPanic.normal ?_;go_wp2_with fail
    go_meet
    case rel=>exact⟨_,rfl,rfl,HRW.out,HY.out,HW.out⟩
  ·skip
   go_simp;obtain⟨r2,hr2⟩:∃ u,u=World.alloc r1 (.cells #[.int .i64 0,.bool false] 213):=⟨_,rfl⟩;have hl:r2.heap[(r1).heap.size]?=some hand0:=by rw[hr2];exact ai _ _
   have hy:w1.heap.size≤(r1).heap.size:=HRR.out.size;have Hr2:=k_ (show Below w1.heap.size w1 r2 by rw[hr2];exact HRR.out.alloc HRR.out.size _);rw[← hr2];obtain⟨y,hy0⟩:∃ y,y=(r1).heap.size:=⟨_,rfl⟩;rw[← hy0] at hl hy ⊢;have HL:=k_ hl;have HY:=k_ hy;clear hl hy hy0 hr2;refine hK.out _ _ Hr2.out (fun _=>?_);clear hK K;refine rd_ (i:=12) (by kernel_rfl) rfl fun K hK=>?_
   go_simp
   go_at_call 125
   refine(SAX.out _ (HB1.out.trans (Hr2.out.mono HB1.out.size))).mono ?_;rintro e r3 ⟨rfl,hb⟩;have Hr3:=k_ (Hr2.out.trans (hb.mono Hr2.out.size));have HL:=k_ ((fb_ hb).heap HL.out (fun h=>h));clear hb;refine hK.out _ _ Hr3.out (fun _=>?_);clear hK K;refine rd_ (i:=13) (by kernel_rfl) rfl fun K hK=>?_
   go_simp
   go_at_call 124
   refine(RC.out _).mono ?_;rintro e r4 ⟨rfl,hb⟩;have Hr4:=k_ (Hr3.out.trans (hb.mono Hr3.out.size));have HL:=k_ ((fb_ hb).heap HL.out (fun h=>h));clear hb;refine hK.out _ _ Hr4.out (fun _=>?_);clear hK K;refine tk_ (i:=14) (v:=?_) rfl (by kernel_rfl) (fun _ _ _ h=>h) ?tq14 Hr4.out ?_
   case tq14=>(intro wq hq;obtain⟨f0,f1,f2,f3,f4,f5⟩:=HS6.out wq hq;go_simp;first | done | with_reducible rfl)
   refine tk_ (i:=15) (v:=?_) rfl (by kernel_rfl) (fun _ _ _ h=>h) ?tq15 Hr4.out ?_
   case tq15=>(intro wq hq;obtain⟨f0,f1,f2,f3,f4,f5⟩:=HS6.out wq hq;go_simp;first | done | with_reducible rfl)
   refine tk_ (i:=16) (v:=?_) rfl (by kernel_rfl) (fun _ _ _ h=>h) ?tq16 Hr4.out ?_
   case tq16=>(intro wq hq;obtain⟨f0,f1,f2,f3,f4,f5⟩:=HS6.out wq hq;go_simp;first | done | with_reducible rfl)
   have l0:=(aa HL.out 0).1;have l1:=(aa HL.out 1).1;have g0:=(aa HL.out 0).2;have g1:=(aa HL.out 1).2;simp only[List.getElem?_toArray,List.getElem?_cons_zero,List.getElem?_cons_succ] at l0 l1;obtain⟨hW,hRW⟩:=set2 0 b Hr4.out HY.out HL.out;have HW:=k_ hW;have HRW:=k_ hRW;clear hW hRW;refine rd_ (i:=18) (by kernel_rfl) rfl fun K hK=>?_
   go_simp;refine hK.out _ _ HW.out (fun _=>?_);clear hK K l0 l1 g0 g1;refine tk_ (i:=19) (v:=?_) rfl (by kernel_rfl) (fun _ _ _ h=>h) ?tq19 HW.out ?_
   case tq19=>(intro wq hq;obtain⟨f0,f1,f2,f3,f4,f5⟩:=HS6.out wq hq;go_simp;first | done | with_reducible rfl)
   refine wpAnyH_done (by kernel_rfl) ?_ _;refine NoPanic.normal ?_;go_wp2_with fail
   go_meet
   case rel=>exact⟨_,rfl,rfl,HRW.out,HY.out,HW.out⟩
 case rest =>
  obtain⟨z,rfl,rfl,hz,hzl,hB⟩:=hcut;have hBc:=HB1.out.trans (hB.mono HB1.out.size);clear p0 p1 p2 p8 p15 p16 t0 h0 h1 f0 f1;obtain⟨p0,p1,p2,p8,p15,p16,t0,h0,h1,f0,f1⟩:=HST.out wc hBc;have l0:=(aa hz 0).1;have l1:=(aa hz 1).1;simp only[List.getElem?_toArray,List.getElem?_cons_zero,List.getElem?_cons_succ] at l0 l1;obtain⟨w5,hw5⟩:∃ w5,w5=((wc.setCell ⟨hb,0,none⟩ (.int .i64 0)).setCell ⟨hb,1,none⟩ (.bool b)).drew:=⟨_,rfl⟩;have hf5:Fr (fun q=>q=hb) wc w5:=by rw[hw5];exact((Fr.refl (fun q=>q=hb) wc).setCell (p:=⟨hb,0,none⟩) (fun _=>rfl) (.int .i64 0)).setCell (p:=⟨hb,1,none⟩) (fun _=>rfl) (.bool b) |>.drew
  have hf05:=(Fr.of_below hBc (fun q=>q=hb)).trans hf5 (fun _ _ h=>h);have hw1:=HMA.out w5 hf05;have hrow5:∃ cs:Array Value,w5.heap[hb]?=some (.cells cs 213)∧cs[0]?=some (.int .i64 0)∧cs[1]?=some (.bool b):=by
   obtain⟨cs,r1,r2,r3⟩:=HROW.out;have hsz:1<cs.size:=(Array.getElem?_eq_some_iff.1 r3).1;refine⟨(cs.setIfInBounds 0 (.int .i64 0)).setIfInBounds 1 (.bool b),?_,?_,?_⟩
   ·rw[hw5];exact ag (ag ((fb_ hBc).heap r1 (fun h=>h)) 0 _) 1 _
   ·rw[Array.getElem?_setIfInBounds_ne (by decide),Array.getElem?_setIfInBounds_self_of_lt (by omega)]
   ·rw[Array.getElem?_setIfInBounds_self_of_lt (by simpa using hsz)]
  have HR5:=k_ hrow5;clear hrow5;have HW5:=k_ hw5;have HF05:=k_ hf05;have HWA:=k_ hw1;clear hw5 hf5 hf05 hw1 hz hzl hB hBc
  go_upto_region 5 with fail
  go_region
  rw[← HW5.out];clear p0 p1 p2 p8 p15 p16 t0 h0 h1 f0 f1 l0 l1 HW5
  go_upto_region 8 with fail
  go_cut [8] (fun x wx=>∃ y N,x=.pointer (some ⟨y,0,none⟩)∧wx.heap[y]?=some (.cells #[.int .i64 k,.int .i64 a,.int .i64 f,.int .i64 v,.int .i64 fn,.bool bb,.slice s0 s1 s2] 218)∧SP N wx)
  case first =>
   have HCC:=k_ (show ∀ wq,dw wq wb X→wq.cell? ⟨wb,0,none⟩=some (.slice a0 n0 m0)∧wq.cell? ⟨wb,1,none⟩=some (.slice a1 n1 m1)∧wq.cell? ⟨wb,2,none⟩=some (.slice a2 n2 m2)∧wq.cell? ⟨wb,8,none⟩=some (.pointer (some ⟨c8,0,none⟩)) from fun wq hq=>by
    obtain⟨e0,e1,e2,e8⟩:=HC.out;exact⟨by rw[← e0];exact(hq.cell 0).1,by rw[← e1];exact(hq.cell 1).1,by rw[← e2];exact(hq.cell 2).1,by rw[e8];exact(hq.cell 8).1⟩)
   have HFR:=k_ (show Fr (fun q=>q=hb) w w5.drew from HF05.out.drew);have HS5:=k_ (show dw w5.drew wb X from HWA.out);have HLE:=k_ (show w.heap.size≤w5.drew.heap.size from HF05.out.size);have HRW5:=k_ (show ∃ cs:Array Value,w5.drew.heap[hb]?=some (.cells cs 213)∧cs[0]?=some (.int .i64 0)∧cs[1]?=some (.bool b) from HR5.out);refine wp_region_noPanic ?_;refine wp_region_held_drew (S:=fun w'=>dw w' wb X) (by kernel_rfl) HS5.out (fun _=>?_);generalize w5.drew=r1 at *;refine tk_ (i:=0) (v:=?_) rfl (by kernel_rfl) (fun _ _ _ h=>h) ?tq0 HS5.out ?_
   case tq0=>(intro wq hq;obtain⟨f0,f1,f2,f3⟩:=HCC.out wq hq;go_simp;first | done | with_reducible rfl)
   refine tk_ (i:=1) (v:=?_) rfl (by kernel_rfl) (fun _ _ _ h=>h) ?tq1 HS5.out ?_
   case tq1=>(intro wq hq;obtain⟨f0,f1,f2,f3⟩:=HCC.out wq hq;go_simp;first | done | with_reducible rfl)
   refine tk_ (i:=2) (v:=?_) rfl (by kernel_rfl) (fun _ _ _ h=>h) ?tq2 HS5.out ?_
   case tq2=>(intro wq hq;obtain⟨f0,f1,f2,f3⟩:=HCC.out wq hq;go_simp;first | done | with_reducible rfl)
   refine tk_ (i:=3) (v:=?_) rfl (by kernel_rfl) (fun _ _ _ h=>h) ?tq3 HS5.out ?_
   case tq3=>(intro wq hq;obtain⟨f0,f1,f2,f3⟩:=HCC.out wq hq;go_simp;first | done | with_reducible rfl)
   refine tk_ (i:=4) (v:=?_) rfl (by kernel_rfl) (fun _ _ _ h=>h) ?tq4 HS5.out ?_
   case tq4=>(intro wq hq;obtain⟨f0,f1,f2,f3⟩:=HCC.out wq hq;go_simp;first | done | with_reducible rfl)
   refine tk_ (i:=5) (v:=?_) rfl (by kernel_rfl) (fun _ _ _ h=>h) ?tq5 HS5.out ?_
   case tq5=>(intro wq hq;obtain⟨f0,f1,f2,f3⟩:=HCC.out wq hq;go_simp;first | done | with_reducible rfl)
   refine tk_ (i:=6) (v:=?_) rfl (by kernel_rfl) (fun _ _ _ h=>h) ?tq6 HS5.out ?_
   case tq6=>(intro wq hq;obtain⟨f0,f1,f2,f3⟩:=HCC.out wq hq;go_simp;first | done | with_reducible rfl)
   refine tk_ (i:=7) (v:=?_) rfl (by kernel_rfl) (fun _ _ _ h=>h) ?tq7 HS5.out ?_
   case tq7=>(intro wq hq;obtain⟨f0,f1,f2,f3⟩:=HCC.out wq hq;go_simp;first | done | with_reducible rfl)
   refine tk_ (i:=8) (v:=?_) rfl (by kernel_rfl) (fun _ _ _ h=>h) ?tq8 HS5.out ?_
   case tq8=>(intro wq hq;obtain⟨f0,f1,f2,f3⟩:=HCC.out wq hq;go_simp;first | done | with_reducible rfl)
   refine wpAnyH_ready (rs:=[9,10]) (by kernel_rfl) (by simp) ?_;refine(AllReadyH.cons rfl (fun K hK=>?_) (AllReadyH.cons rfl (fun K hK=>?_) AllReadyH.nil))
   ·skip
    go_simp
    go_at_call 126
    refine(STX.out _ HFR.out HS5.out HRW5.out).mono ?_;rintro e r2 ⟨rfl,hsp,hfr⟩
    skip
    have HSPN:=k_ hsp;clear hsp hfr;refine hK.out _ _ (HSW.out _ _ HSPN.out) (fun _=>?_);clear hK K;refine rd_ (i:=10) (by kernel_rfl) rfl fun K hK=>?_
    have hba:Below r2.heap.size r2 (r2.alloc bB):=(Below.refl _ _).alloc (Nat.le_refl _) _;have hra:=ai r2 bB;have hw3:=(HSW.out _ _ HSPN.out).below hba;obtain⟨y,hy⟩:∃ y,y=r2.heap.size:=⟨_,rfl⟩;obtain⟨r3,hr3⟩:∃ r3,r3=r2.alloc bB:=⟨_,rfl⟩;rw[← hr3,← hy] at hra;rw[← hr3] at hba hw3;have HRA:=k_ hra;have HBA:=k_ hba;have HY:=k_ hy;unfold bB at hr3;clear hra hba hy;go_simp;rw[← hr3,← HY.out];refine hK.out _ _ hw3 (fun _=>?_);clear hK K hr3 hw3;have hrs:=HRA.out;unfold bB at hrs;obtain⟨⟨y0,y1,y2,y3,y4,y5,y6⟩,x0,x1,x2,x3,x4,x5,x6⟩:=aX hrs;have hfs:=bO r3 (.int .i64 k) (.int .i64 a) (.int .i64 f) (.int .i64 v) (.int .i64 fn) (.bool bb) (.slice s0 s1 s2) y;have hr7:=bN hrs (.int .i64 k) (.int .i64 a) (.int .i64 f) (.int .i64 v) (.int .i64 fn) (.bool bb) (.slice s0 s1 s2);have hsp:=(HSP.out _ _ _ HSPN.out ((Fr.of_below HBA.out (fun q=>w.heap.size≤q∧q<r1.heap.size)).trans hfs (fun q hq e=>by have e:q=y:=e;have:=HY.out;omega)));have HSPE:=k_ hsp;have HR7:=k_ hr7;clear hrs hfs hr7 hsp;refine rd_ (i:=11) (by kernel_rfl) rfl fun K hK=>?_
    unfold bA;go_simp;refine hK.out _ _ (HSW.out _ _ HSPE.out) (fun _=>?_);clear hK K y0 y1 y2 y3 y4 y5 y6 x0 x1 x2 x3 x4 x5 x6;refine wpAnyH_done (by kernel_rfl) ?_ _;refine NoPanic.normal ?_;go_wp2_with fail
    go_meet
    case rel=>exact⟨y,_,rfl,HR7.out,HSPE.out⟩
   ·skip
    have hra:=ai r1 bB;have hba:Below r1.heap.size r1 (r1.alloc bB):=(Below.refl _ _).alloc (Nat.le_refl _) _;have hw2:=HS5.out.below hba;have hfr2:=HFR.out.trans (Fr.of_below hba (fun q=>q=hb)) (fun _ _ h=>h);have hsz:(r1.alloc bB).heap.size=r1.heap.size+1:=by simp
    obtain⟨y,hy⟩:∃ y,y=r1.heap.size:=⟨_,rfl⟩;obtain⟨r2,hr2⟩:∃ r2,r2=r1.alloc bB:=⟨_,rfl⟩;rw[← hr2] at hba hw2 hfr2;have HRX:=k_ (fun (q:Nat) (o:Obj) (ho:r1.heap[q]?=some o)=>(fb_ hba).heap ho (fun h=>h));rw[← hr2,← hy] at hra hsz;have HRB:=k_ hra;have HSZ:=k_ hsz;have HF2:=k_ hfr2;have HW2:=k_ hw2;have HY:=k_ hy;unfold bB at hr2;clear hra hba hsz hfr2 hy;go_simp;rw[← hr2,← HY.out];refine hK.out _ _ hw2 (fun _=>?_);clear hK K hr2 hw2;refine rd_ (i:=9) (by kernel_rfl) rfl fun K hK=>?_
    go_simp
    go_at_call 126
    refine(STX.out _ HF2.out HW2.out (by obtain⟨cs,g1,g2,g3⟩:=HRW5.out;exact⟨cs,HRX.out _ _ g1,g2,g3⟩)).mono ?_;rintro e r3 ⟨rfl,hsp,hfr⟩;have HRA:=k_ (hfr.heap HRB.out (fun h=>by have:=HSZ.out;have:=HLE.out;have:=HY.out;omega));have HSPN:=k_ hsp;clear hsp hfr;refine hK.out _ _ (HSW.out _ _ HSPN.out) (fun _=>?_);clear hK K;have hrs:=HRA.out;unfold bB at hrs;obtain⟨⟨y0,y1,y2,y3,y4,y5,y6⟩,x0,x1,x2,x3,x4,x5,x6⟩:=aX hrs;have hfs:=bO r3 (.int .i64 k) (.int .i64 a) (.int .i64 f) (.int .i64 v) (.int .i64 fn) (.bool bb) (.slice s0 s1 s2) y;have hr7:=bN hrs (.int .i64 k) (.int .i64 a) (.int .i64 f) (.int .i64 v) (.int .i64 fn) (.bool bb) (.slice s0 s1 s2);have hsp:=(HSP.out _ _ _ HSPN.out (hfs.mono (fun q e=>by have e:q=y:=e;have:=HSZ.out;have:=HLE.out;have:=HY.out;exact⟨by omega,by omega⟩)));have HSPE:=k_ hsp;have HR7:=k_ hr7;clear hrs hfs hr7 hsp;refine rd_ (i:=11) (by kernel_rfl) rfl fun K hK=>?_
    unfold bA;go_simp;refine hK.out _ _ (HSW.out _ _ HSPE.out) (fun _=>?_);clear hK K y0 y1 y2 y3 y4 y5 y6 x0 x1 x2 x3 x4 x5 x6;refine wpAnyH_done (by kernel_rfl) ?_ _;refine NoPanic.normal ?_;go_wp2_with fail
    go_meet
    case rel=>exact⟨y,_,rfl,HR7.out,HSPE.out⟩
  case rest =>
   obtain⟨y,N,rfl,hr,hsp⟩:=hcut;have y0:=(aa hr 0).1;have y3:=(aa hr 3).1;obtain⟨⟨y0,y1,y2,y3,y4,y5,y6⟩,_,_,_,_,_,_,_⟩:=aX hr;have dx:=DOX.out N _ hsp;unfold bA at dx;have ak:=fun w=>Dq w k
   rw[hk3] at ak;have AK:=k_ ak;clear ak;have DX:=k_ dx;clear dx;clear hsp hr;go_wp2_with fail;refine(AK.out _).mono ?_;rintro e wq ⟨rfl,rfl⟩;go_wp2_with fail;refine DX.out.mono ?_;rintro e wq ⟨rfl,hpost⟩;have HPO:=k_ hpost;clear hpost y0 y1 y2 y3 y4 y5 y6;go_wp2_with fail
   go_ret
   exact⟨rfl,HPO.out⟩
end Go.Proofs.YtlofbhoicbemnaaGreatDoor.Tk
