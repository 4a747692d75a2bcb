/- Walk: a step's run: SetInt. Walks: a step's run: Output. Walks: words of a task; the stack's base. Walk: a frame as it is. Walk: .. -/
import Derived.Test.YtbkkhmafheimfaaGreatDoorVAn
import Derived.Laws.BitsAllLaws
set_option linter.unusedVariables false
set_option linter.unusedSimpArgs false
set_option maxRecDepth 100000
set_option maxHeartbeats 3200000
namespace Go.Proofs.YtbkkhmafheimfaaGreatDoor.Tk
open Go.ChangeShapes Go.WideShapes Go.ChangeAt Go.RowKit Go.Maps
theorem run_setInt (w:World) (F:Nat→Prop) (tb:Nat) (p:TPrg) (T:Tk) (X:TB) (h:TaskAt w F tb p T X) (ht:TkOk T) (P:List Part) (q:Part) (hP:T.parts=P ++ [q]) (hq:0≤q.pc∧q.pc≤100000) (j:Nat) (hj:j<p.funcs.length) (hfj:q.fn=j) (bn:Nat) (hbn:q.base=bn) (s:Nat) (hs:(s:Int)<p.funcs[j].slots) (hs2:s≤3000) (hin:bn+(2+s)<T.words.length) (c0 c1 c2 mp:Value) (b c:Int) :
  Calls Tryz.prog 122 #[.agg (stepV c0 c1 c2 mp tb 1 s b c)] w (RunPost w F tb p X ⟨T.base,T.words.set (bn+(2+s)) (wrap32 b),P ++ [⟨q.fn,q.pc+1,q.base,q.ret,q.ta,q.tn,q.tc⟩],T.marks⟩ (actV 0 0 0 0 0 false (.slice none 0 0))):=by
 have st:=fun wr (hw:Below w.heap.size w wr)=>stSet_any wr F tb p T X (h.below hw) ht P q hP hq j hj hfj bn hbn s hs hs2 hin (wrap32 b) c0 c1 c2 mp 1 s b c
 have ST:=k_ st;clear st;have hb0:=((Below.refl w.heap.size w).alloc (Nat.le_refl _) (.cells (stepV c0 c1 c2 mp tb 1 s b c) 236));have hb1:=hb0.alloc hb0.size act0;have hr0:=row_alloc (heap_new w (.cells (stepV c0 c1 c2 mp tb 1 s b c) 236)) act0;have hr1:=heap_new (w.alloc (.cells (stepV c0 c1 c2 mp tb 1 s b c) 236)) act0;rw[show (w.alloc (.cells (stepV c0 c1 c2 mp tb 1 s b c) 236)).heap.size=w.heap.size+1 from by simp] at hr1;obtain⟨W,hW⟩:∃ W,W=(w.alloc (.cells (stepV c0 c1 c2 mp tb 1 s b c) 236)).alloc act0:=⟨_,rfl⟩;rw[← hW] at hb1 hr0 hr1;have HFLT:=k_ h.flt;have HOUT:=k_ (fun k (hk:X.D k)=>(h.out k hk).2);have hwz:W.heap.size=w.heap.size+2:=by rw[hW];simp
 unfold act0 at hW hr1;unfold stepV at hW hr0;have HW:=k_ hW;have k4:W.cell? ⟨w.heap.size,4,none⟩=some (.pointer (some ⟨tb,0,none⟩)):=(row_cell hr0 4).1;have k5:W.cell? ⟨w.heap.size,5,none⟩=some (.int .i64 1):=(row_cell hr0 5).1;have k6:W.cell? ⟨w.heap.size,6,none⟩=some (.int .i64 s):=(row_cell hr0 6).1;have k7:W.cell? ⟨w.heap.size,7,none⟩=some (.int .i64 b):=(row_cell hr0 7).1;have k8:W.cell? ⟨w.heap.size,8,none⟩=some (.int .i64 c):=(row_cell hr0 8).1;have HRR:=k_ (Below.refl W.heap.size W);clear hb0 hW;have HB1:=k_ hb1;clear hb1;have HR1:=k_ hr1;clear hr1;have HR0:=k_ hr0;clear hr0;have HWZ:=k_ hwz;clear hwz;unfold stepV
 go_enter Tryz.func122,Tryz.ntmps122
 go_upto_region 1 with fail
 rw[← HW.out]
 go_cut [3,4] (fun x y wx=>∃ z:Nat,x=.pointer (some ⟨z,0,none⟩)∧y=.pointer (some ⟨tb,0,none⟩)∧wx.heap[z]?=some (.cells #[.int .i64 1,.int .i64 s,.int .i64 b,.int .i64 c] 32)∧w.heap.size+2≤z∧Below W.heap.size W wx)
 case first =>
  have bs:=World.block_lt k4
  dsimp only at bs
  go_region
  all_goals
   go_wp2_with fail
   go_meet
   case rel=>exact⟨_,rfl,rfl,heap_new _ _,by have:=HWZ.out;omega,(HRR.out.drew).alloc (HRR.out.size) _⟩
 case rest =>
  obtain⟨z,rfl,rfl,hz,hzl,hR⟩:=hcut;have hbc:=HB1.out.trans (hR.mono HB1.out.size);have hrb:=(Fr.of_below hR (fun _=>False)).heap HR0.out (fun h=>h);have hrc:=(Fr.of_below hR (fun _=>False)).heap HR1.out (fun h=>h);have HBD:=k_ (fun k=>below_drewN hbc k);have HRG:=k_ (fun k=>(Fr.of_below (below_drewN (Below.refl wc.heap.size wc) k) (fun _=>False)).heap hrc (fun h=>h));have HSZ:=k_ (fun k=>Nat.lt_of_lt_of_le (heap_lt hz) (below_drewN (Below.refl wc.heap.size wc) k).size);have HSG:=k_ (show ∀ k,(wc.drewN k).cell? ⟨w.heap.size,0,none⟩=some (c0)∧(wc.drewN k).cell? ⟨w.heap.size,1,none⟩=some (c1)∧(wc.drewN k).cell? ⟨w.heap.size,2,none⟩=some (c2)∧(wc.drewN k).cell? ⟨w.heap.size,3,none⟩=some (mp)∧(wc.drewN k).cell? ⟨w.heap.size,4,none⟩=some (.pointer (some ⟨tb,0,none⟩))∧(wc.drewN k).cell? ⟨w.heap.size,5,none⟩=some (.int .i64 1)∧(wc.drewN k).cell? ⟨w.heap.size,6,none⟩=some (.int .i64 s)∧(wc.drewN k).cell? ⟨w.heap.size,7,none⟩=some (.int .i64 b)∧(wc.drewN k).cell? ⟨w.heap.size,8,none⟩=some (.int .i64 c)∧(wc.drewN k).cell? ⟨z,0,none⟩=some (.int .i64 1)∧(wc.drewN k).cell? ⟨z,1,none⟩=some (.int .i64 s)∧(wc.drewN k).cell? ⟨z,2,none⟩=some (.int .i64 b)∧(wc.drewN k).cell? ⟨z,3,none⟩=some (.int .i64 c) from fun k=>by
   have g1:=(Fr.of_below (below_drewN (Below.refl wc.heap.size wc) k) (fun _=>False)).heap hrb (fun h=>h);have g2:=(Fr.of_below (below_drewN (Below.refl wc.heap.size wc) k) (fun _=>False)).heap hz (fun h=>h);exact⟨(row_cell g1 0).1,(row_cell g1 1).1,(row_cell g1 2).1,(row_cell g1 3).1,(row_cell g1 4).1,(row_cell g1 5).1,(row_cell g1 6).1,(row_cell g1 7).1,(row_cell g1 8).1,(row_cell g2 0).1,(row_cell g2 1).1,(row_cell g2 2).1,(row_cell g2 3).1⟩)
  have hSd:=HSG.out 1;rw[show wc.drewN 1=wc.drew from rfl] at hSd;have z0:wc.cell? ⟨z,0,none⟩=some (.int .i64 1):=(row_cell hz 0).1;clear hR hrb hrc hz k4 k5 k6 k7 k8 hbc
  go_upto_region 4 with fail
  go_region_held3 (fun w'=>w'.cell? ⟨w.heap.size,0,none⟩=some (c0)∧w'.cell? ⟨w.heap.size,1,none⟩=some (c1)∧w'.cell? ⟨w.heap.size,2,none⟩=some (c2)∧w'.cell? ⟨w.heap.size,3,none⟩=some (mp)∧w'.cell? ⟨w.heap.size,4,none⟩=some (.pointer (some ⟨tb,0,none⟩))∧w'.cell? ⟨w.heap.size,5,none⟩=some (.int .i64 1)∧w'.cell? ⟨w.heap.size,6,none⟩=some (.int .i64 s)∧w'.cell? ⟨w.heap.size,7,none⟩=some (.int .i64 b)∧w'.cell? ⟨w.heap.size,8,none⟩=some (.int .i64 c)∧w'.cell? ⟨z,0,none⟩=some (.int .i64 1)∧w'.cell? ⟨z,1,none⟩=some (.int .i64 s)∧w'.cell? ⟨z,2,none⟩=some (.int .i64 b)∧w'.cell? ⟨z,3,none⟩=some (.int .i64 c)) (first | with_reducible exact HSG.out _ | with_reducible exact hSd | with_reducible exact hS5 | with_reducible exact hS7 | go_keep) (first
   | (go_at_call 22
      refine(of_any _ _).mono ?_;rintro e w4 ⟨rfl,rfl⟩)
   | (go_at_call 194
      refine(ST.out _ (HBD.out 1)).mono ?_;rintro e w5 ⟨rfl,hT5,hf5⟩;have hlow:=HSZ.out 1;have hr5:=hf5.heap (HRG.out 1) (fun e=>by have:=HFLT.out (w.heap.size+1) e;omega);have hS6:=HSG.out 1;have hS5:=And.intro (hf5.cell hS6.1 (fun e=>Nat.lt_irrefl _ (HFLT.out w.heap.size e))) (And.intro (hf5.cell hS6.2.1 (fun e=>Nat.lt_irrefl _ (HFLT.out w.heap.size e))) (And.intro (hf5.cell hS6.2.2.1 (fun e=>Nat.lt_irrefl _ (HFLT.out w.heap.size e))) (And.intro (hf5.cell hS6.2.2.2.1 (fun e=>Nat.lt_irrefl _ (HFLT.out w.heap.size e))) (And.intro (hf5.cell hS6.2.2.2.2.1 (fun e=>Nat.lt_irrefl _ (HFLT.out w.heap.size e))) (And.intro (hf5.cell hS6.2.2.2.2.2.1 (fun e=>Nat.lt_irrefl _ (HFLT.out w.heap.size e))) (And.intro (hf5.cell hS6.2.2.2.2.2.2.1 (fun e=>Nat.lt_irrefl _ (HFLT.out w.heap.size e))) (And.intro (hf5.cell hS6.2.2.2.2.2.2.2.1 (fun e=>Nat.lt_irrefl _ (HFLT.out w.heap.size e))) (And.intro (hf5.cell hS6.2.2.2.2.2.2.2.2.1 (fun e=>Nat.lt_irrefl _ (HFLT.out w.heap.size e))) (And.intro (hf5.cell hS6.2.2.2.2.2.2.2.2.2.1 (fun e=>by have:=HFLT.out z e;omega)) (And.intro (hf5.cell hS6.2.2.2.2.2.2.2.2.2.2.1 (fun e=>by have:=HFLT.out z e;omega)) (And.intro (hf5.cell hS6.2.2.2.2.2.2.2.2.2.2.2.1 (fun e=>by have:=HFLT.out z e;omega)) (hf5.cell hS6.2.2.2.2.2.2.2.2.2.2.2.2 (fun e=>by have:=HFLT.out z e;omega)))))))))))));have HFW:=k_ ((Fr.of_below (HBD.out 1) F).trans hf5 (fun _ _ h=>h));have hfs:=seven_fr w5 (.int .i64 0) (.int .i64 0) (.int .i64 0) (.int .i64 0) (.int .i64 0) (.bool false) (.slice none 0 0) (w.heap.size+1);have nz0:¬ w.heap.size=w.heap.size+1:=by omega
      have nz1:¬ z=w.heap.size+1:=by omega
      have hS7:=And.intro (hfs.cell hS5.1 nz0) (And.intro (hfs.cell hS5.2.1 nz0) (And.intro (hfs.cell hS5.2.2.1 nz0) (And.intro (hfs.cell hS5.2.2.2.1 nz0) (And.intro (hfs.cell hS5.2.2.2.2.1 nz0) (And.intro (hfs.cell hS5.2.2.2.2.2.1 nz0) (And.intro (hfs.cell hS5.2.2.2.2.2.2.1 nz0) (And.intro (hfs.cell hS5.2.2.2.2.2.2.2.1 nz0) (And.intro (hfs.cell hS5.2.2.2.2.2.2.2.2.1 nz0) (And.intro (hfs.cell hS5.2.2.2.2.2.2.2.2.2.1 nz1) (And.intro (hfs.cell hS5.2.2.2.2.2.2.2.2.2.2.1 nz1) (And.intro (hfs.cell hS5.2.2.2.2.2.2.2.2.2.2.2.1 nz1) (hfs.cell hS5.2.2.2.2.2.2.2.2.2.2.2.2 nz1))))))))))));clear hS6 hf5 hfs;obtain⟨⟨z0,z1,z2,z3,z4,z5,z6⟩,n0,n1,n2,n3,n4,n5,n6⟩:=seven_cells hr5;unfold actV
      skip))
  all_goals
   have hfs:=seven_fr w5 (.int .i64 0) (.int .i64 0) (.int .i64 0) (.int .i64 0) (.int .i64 0) (.bool false) (.slice none 0 0) (w.heap.size+1);have hrs:=seven_row hr5 (.int .i64 0) (.int .i64 0) (.int .i64 0) (.int .i64 0) (.int .i64 0) (.bool false) (.slice none 0 0);have hT6:=hT5.fr hfs (fun q hq e=>by have:=HFLT.out q hq;have e:q=w.heap.size+1:=e;omega) (fun q hq e=>by have:=HOUT.out q hq;have e:q=w.heap.size+1:=e;omega);have hf6:=HFW.out.trans hfs (fun q hq e=>by have e:q=w.heap.size+1:=e;omega);have HPP:=k_ (show RunPost w F tb p X _ (actV 0 0 0 0 0 false (.slice none 0 0)) _ _ from⟨rfl,F,X,hT6,⟨rfl,rfl,rfl,rfl⟩,fun _ h=>.inl h,hf6⟩);clear hfs hr5 hT5 hT6 hf6 hS5 hS7 hlow z0 z1 z2 z3 z4 z5 z6 n0 n1 n2 n3 n4 n5 n6;have HRS:=k_ hrs;clear hrs;go_wp2_with fail;refine bodyPost_ret ?_ rfl HPP.out;have k0:=(row_cell HRS.out 0).1;have k1:=(row_cell HRS.out 1).1;have k2:=(row_cell HRS.out 2).1;have k3:=(row_cell HRS.out 3).1;have k4:=(row_cell HRS.out 4).1;have k5:=(row_cell HRS.out 5).1;have k6:=(row_cell HRS.out 6).1;simp at k0 k1 k2 k3 k4 k5 k6;simp[results,Tryz.results122,go_sem,k0,k1,k2,k3,k4,k5,k6,actV]
theorem TkOk.goto {T:Tk} (h:TkOk T) {P:List Part} {q:Part} (hP:T.parts=P ++ [q]) (pc:Int):TkOk ⟨T.base,T.words,P ++ [⟨q.fn,pc,q.base,q.ret,q.ta,q.tn,q.tc⟩],T.marks⟩:=by
 obtain⟨h1,h2,h3,h4⟩:=h;rw[hP] at h1 h4;refine⟨by simpa using h1,h2,h3,fun x hx=>?_⟩
 rcases List.mem_append.1 hx with h5 | h5
 ·exact h4 x (List.mem_append.2 (.inl h5))
 ·simp at h5
  rw[h5];exact h4 q (List.mem_append.2 (.inr (List.mem_singleton.2 rfl)))
theorem run_output (w:World) (F:Nat→Prop) (tb:Nat) (p:TPrg) (T:Tk) (X:TB) (h:TaskAt w F tb p T X) (ht:TkOk T) (P:List Part) (q:Part) (hP:T.parts=P ++ [q]) (hq:0≤q.pc∧q.pc≤100000) (j:Nat) (hj:j<p.funcs.length) (hfj:q.fn=j) (bn:Nat) (hbn:q.base=bn) (sa:Nat) (hs:(sa:Int)<p.funcs[j].slots) (hs2:sa≤3000) (hin:bn+(2+sa)<T.words.length) (x:Int) (hx:T.words[bn+(2+sa)]?=some x) (c0 c1 c2 mp:Value) (b c:Int) :
  Calls Tryz.prog 122 #[.agg (stepV c0 c1 c2 mp tb 29 sa b c)] w (RunPost w F tb p X ⟨T.base,T.words,P ++ [⟨q.fn,q.pc+1,q.base,q.ret,q.ta,q.tn,q.tc⟩],T.marks⟩ (actV 2 0 0 x 0 false (.slice none 0 0))):=by
 have onc:=fun wr (hw:Below w.heap.size w wr)=>on_any wr F tb p T X (h.below hw) ht.1 P q hP hq c0 c1 c2 mp 29 sa b c
 have hok:=ht.goto hP (q.pc+1);obtain⟨T',hT'⟩:∃ T',T'=(⟨T.base,T.words,P ++ [⟨q.fn,q.pc+1,q.base,q.ret,q.ta,q.tn,q.tc⟩],T.marks⟩:Tk):=⟨_,rfl⟩;have hl:T'.parts.length=P.length+1:=by rw[hT'];simp
 have e0:(T'.parts[P.length]'(by omega)).fn=j∧(T'.parts[P.length]'(by omega)).base=bn:=by
  subst hT'
  simp
  exact⟨hfj,hbn⟩
 have hwT:T'.words=T.words:=by rw[hT']
 rw[← hT'] at onc hok ⊢;have sl:=fun wr (hw:TaskAt wr F tb p T' X)=>slot_in wr F tb p T' X hw hok P.length hl j hj e0.1 bn e0.2 sa hs hs2 (by rw[hwT];exact hin)
 rw[← hwT] at hx;rw[List.getElem?_eq_getElem (by rw[hwT];exact hin)] at hx
 injection hx with hx
 rw[hx] at sl;clear hl e0 hs hin hx hwT hT' hok;have ON:=k_ onc;clear onc;have SL:=k_ sl;clear sl;have hb0:=((Below.refl w.heap.size w).alloc (Nat.le_refl _) (.cells (stepV c0 c1 c2 mp tb 29 sa b c) 236));have hb1:=hb0.alloc hb0.size act0;have hr0:=row_alloc (heap_new w (.cells (stepV c0 c1 c2 mp tb 29 sa b c) 236)) act0;have hr1:=heap_new (w.alloc (.cells (stepV c0 c1 c2 mp tb 29 sa b c) 236)) act0;rw[show (w.alloc (.cells (stepV c0 c1 c2 mp tb 29 sa b c) 236)).heap.size=w.heap.size+1 from by simp] at hr1;obtain⟨W,hW⟩:∃ W,W=(w.alloc (.cells (stepV c0 c1 c2 mp tb 29 sa b c) 236)).alloc act0:=⟨_,rfl⟩;rw[← hW] at hb1 hr0 hr1;have HFLT:=k_ h.flt;have HOUT:=k_ (fun k (hk:X.D k)=>(h.out k hk).2);have hwz:W.heap.size=w.heap.size+2:=by rw[hW];simp
 unfold act0 at hW hr1;unfold stepV at hW hr0;have HW:=k_ hW;have k4:W.cell? ⟨w.heap.size,4,none⟩=some (.pointer (some ⟨tb,0,none⟩)):=(row_cell hr0 4).1;have k5:W.cell? ⟨w.heap.size,5,none⟩=some (.int .i64 29):=(row_cell hr0 5).1;have k6:W.cell? ⟨w.heap.size,6,none⟩=some (.int .i64 sa):=(row_cell hr0 6).1;have k7:W.cell? ⟨w.heap.size,7,none⟩=some (.int .i64 b):=(row_cell hr0 7).1;have k8:W.cell? ⟨w.heap.size,8,none⟩=some (.int .i64 c):=(row_cell hr0 8).1;have HRR:=k_ (Below.refl W.heap.size W);clear hb0 hW;have HB1:=k_ hb1;clear hb1;have HR1:=k_ hr1;clear hr1;have HR0:=k_ hr0;clear hr0;have HWZ:=k_ hwz;clear hwz;unfold stepV
 go_enter Tryz.func122,Tryz.ntmps122
 go_upto_region 1 with fail
 rw[← HW.out]
 go_cut [3,4] (fun x y wx=>∃ z:Nat,x=.pointer (some ⟨z,0,none⟩)∧y=.pointer (some ⟨tb,0,none⟩)∧wx.heap[z]?=some (.cells #[.int .i64 29,.int .i64 sa,.int .i64 b,.int .i64 c] 32)∧w.heap.size+2≤z∧Below W.heap.size W wx)
 case first =>
  have bs:=World.block_lt k4
  dsimp only at bs
  go_region
  all_goals
   go_wp2_with fail
   go_meet
   case rel=>exact⟨_,rfl,rfl,heap_new _ _,by have:=HWZ.out;omega,(HRR.out.drew).alloc (HRR.out.size) _⟩
 case rest =>
  obtain⟨z,rfl,rfl,hz,hzl,hR⟩:=hcut;have hbc:=HB1.out.trans (hR.mono HB1.out.size);have hrb:=(Fr.of_below hR (fun _=>False)).heap HR0.out (fun h=>h);have hrc:=(Fr.of_below hR (fun _=>False)).heap HR1.out (fun h=>h);have HBC:=k_ hbc;have HRW:=k_ (fun wx (hw:Below wc.heap.size wc wx)=>(Fr.of_below hw (fun _=>False)).heap hrc (fun h=>h));have HSS:=k_ (show ∀ wx,Below wc.heap.size wc wx→wx.cell? ⟨w.heap.size,0,none⟩=some (c0)∧wx.cell? ⟨w.heap.size,1,none⟩=some (c1)∧wx.cell? ⟨w.heap.size,2,none⟩=some (c2)∧wx.cell? ⟨w.heap.size,3,none⟩=some (mp)∧wx.cell? ⟨w.heap.size,4,none⟩=some (.pointer (some ⟨tb,0,none⟩))∧wx.cell? ⟨w.heap.size,5,none⟩=some (.int .i64 29)∧wx.cell? ⟨w.heap.size,6,none⟩=some (.int .i64 sa)∧wx.cell? ⟨w.heap.size,7,none⟩=some (.int .i64 b)∧wx.cell? ⟨w.heap.size,8,none⟩=some (.int .i64 c)∧wx.cell? ⟨z,0,none⟩=some (.int .i64 29)∧wx.cell? ⟨z,1,none⟩=some (.int .i64 sa)∧wx.cell? ⟨z,2,none⟩=some (.int .i64 b)∧wx.cell? ⟨z,3,none⟩=some (.int .i64 c) from fun wx hw=>by
   have g1:=(Fr.of_below hw (fun _=>False)).heap hrb (fun h=>h);have g2:=(Fr.of_below hw (fun _=>False)).heap hz (fun h=>h);exact⟨(row_cell g1 0).1,(row_cell g1 1).1,(row_cell g1 2).1,(row_cell g1 3).1,(row_cell g1 4).1,(row_cell g1 5).1,(row_cell g1 6).1,(row_cell g1 7).1,(row_cell g1 8).1,(row_cell g2 0).1,(row_cell g2 1).1,(row_cell g2 2).1,(row_cell g2 3).1⟩)
  have hSd:=HSS.out wc.drew (Below.refl wc.heap.size wc).drew;have HRC:=k_ (Below.refl wc.heap.size wc);have HRD:=k_ (Below.refl wc.heap.size wc).drew;have z0:wc.cell? ⟨z,0,none⟩=some (.int .i64 29):=(row_cell hz 0).1;clear hR hrb hrc hz k4 k5 k6 k7 k8 hbc;obtain⟨k0,k1,k2,k3,k4,k5,k6,k7,k8,_⟩:=HSS.out _ HRC.out;have onw:=ON.out _ HBC.out;unfold stepV at onw;clear hSd;have ONW:=k_ onw;clear onw
  go_upto_region 38 with fail
  go_wp2_with fail;refine ONW.out.mono ?_;rintro e w5 ⟨rfl,hT5,hf5⟩;have z1:=hf5.cell (HSS.out _ HRC.out).2.2.2.2.2.2.2.2.2.2.1 (fun e=>by have:=HFLT.out z e;omega);have hr5:=hf5.heap (HRW.out _ HRC.out) (fun e=>by have:=HFLT.out (w.heap.size+1) e;omega);have hfw:=(Fr.of_below HBC.out F).trans hf5 (fun _ _ h=>h);have hsz5:=Nat.le_trans HBC.out.size hf5.size;have slw:=SL.out _ hT5;clear k0 k1 k2 k3 k4 k5 k6 k7 k8 hf5;have SLW:=k_ slw;clear slw;have HT5:=k_ hT5;clear hT5;have HFW:=k_ hfw;clear hfw;have HR5:=k_ hr5;clear hr5;go_wp2_with fail;refine SLW.out.mono ?_;rintro e w6 ⟨rfl,hb6⟩;have hr6:=(Fr.of_below hb6 (fun _=>False)).heap HR5.out (fun h=>h);have hT6:=HT5.out.below hb6;have hfw6:=HFW.out.trans (Fr.of_below hb6 F) (fun _ _ h=>h);clear hb6;obtain⟨⟨u0,u1,u2,u3,u4,u5,u6⟩,n0,n1,n2,n3,n4,n5,n6⟩:=seven_cells hr6;have hfs:=seven_fr w6 (.int .i64 2) (.int .i64 0) (.int .i64 0) (.int .i64 x) (.int .i64 0) (.bool false) (.slice none 0 0) (w.heap.size+1);have hrs:=seven_row hr6 (.int .i64 2) (.int .i64 0) (.int .i64 0) (.int .i64 x) (.int .i64 0) (.bool false) (.slice none 0 0);have hT7:=hT6.fr hfs (fun q hq e=>by have:=HFLT.out q hq;have e:q=w.heap.size+1:=e;omega) (fun q hq e=>by have:=HOUT.out q hq;have e:q=w.heap.size+1:=e;omega);have hf7:=hfw6.trans hfs (fun q hq e=>by have e:q=w.heap.size+1:=e;omega);have HPP:=k_ (show RunPost w F tb p X _ (actV 2 0 0 x 0 false (.slice none 0 0)) _ _ from⟨rfl,F,X,hT7,⟨rfl,rfl,rfl,rfl⟩,fun _ h=>.inl h,hf7⟩);clear hfs hr6 hT6 hT7 hfw6 hf7;have HRS:=k_ hrs;clear hrs;go_wp2_with fail;refine bodyPost_ret ?_ rfl HPP.out;have k0:=(row_cell HRS.out 0).1;have k1:=(row_cell HRS.out 1).1;have k2:=(row_cell HRS.out 2).1;have k3:=(row_cell HRS.out 3).1;have k4:=(row_cell HRS.out 4).1;have k5:=(row_cell HRS.out 5).1;have k6:=(row_cell HRS.out 6).1;simp at k0 k1 k2 k3 k4 k5 k6;simp[results,Tryz.results122,go_sem,k0,k1,k2,k3,k4,k5,k6,actV]
theorem base_any (w:World) (sb wb:Nat) (base:Int) (l:List Int) (h:StAt w sb wb base l) :
  Calls Tryz.prog 183 #[.pointer (some ⟨sb,0,none⟩)] w fun e w'=>e=.returned (.int .i64 base)∧w=w':=by
 obtain⟨k0,k1⟩:=h.cells;clear h
 go_enter Tryz.func183,Tryz.ntmps183
 go_wp2_with fail
 go_ret
 exact⟨rfl,rfl⟩
theorem nine_cells {w:World} {q:Nat} {x0 x1 x2 x3 x4 x5 x6 x7 x8:Value} {t:TypeId} (h:w.heap[q]?=some (.cells #[x0,x1,x2,x3,x4,x5,x6,x7,x8] t)) :
  (w.cell? ⟨q,0,none⟩=some x0∧w.cell? ⟨q,1,none⟩=some x1∧w.cell? ⟨q,2,none⟩=some x2∧w.cell? ⟨q,3,none⟩=some x3∧w.cell? ⟨q,4,none⟩=some x4∧w.cell? ⟨q,5,none⟩=some x5∧w.cell? ⟨q,6,none⟩=some x6∧w.cell? ⟨q,7,none⟩=some x7∧w.cell? ⟨q,8,none⟩=some x8)∧w.frozen? ⟨q,0,none⟩=false∧w.frozen? ⟨q,1,none⟩=false∧w.frozen? ⟨q,2,none⟩=false∧w.frozen? ⟨q,3,none⟩=false∧w.frozen? ⟨q,4,none⟩=false∧w.frozen? ⟨q,5,none⟩=false∧w.frozen? ⟨q,6,none⟩=false∧w.frozen? ⟨q,7,none⟩=false∧w.frozen? ⟨q,8,none⟩=false :=
 ⟨⟨(row_cell h 0).1,(row_cell h 1).1,(row_cell h 2).1,(row_cell h 3).1,(row_cell h 4).1,(row_cell h 5).1,(row_cell h 6).1,(row_cell h 7).1,(row_cell h 8).1⟩,(row_cell h 0).2,(row_cell h 1).2,(row_cell h 2).2,(row_cell h 3).2,(row_cell h 4).2,(row_cell h 5).2,(row_cell h 6).2,(row_cell h 7).2,(row_cell h 8).2⟩
def spot0:Obj:=.cells #[.int .i64 0,.int .i64 0,.int .i64 0,.bool false,.bool false,.int .i64 0,.bool false,.slice none 0 0,.slice none 0 0] 280
def subW (l:List Int) (o n:Nat):List Int:=(l.drop o).take n
theorem subW_len (l:List Int) (o n:Nat) (h:o+n≤l.length):(subW l o n).length=n:=by simp[subW];omega
theorem subW_next (l:List Int) (o k:Nat) (h:o+k<l.length):subW l o k ++ [l[o+k]]=subW l o (k+1):=by
 unfold subW;rw[List.take_add_one,List.getElem?_drop,List.getElem?_eq_getElem h]
 rfl
theorem tkwords2_any (w:World) (F:Nat→Prop) (tb:Nat) (p:TPrg) (T:Tk) (X:TB) (h:TaskAt w F tb p T X) (from_ n:Nat) (hn:from_+n≤T.words.length) (hl:T.words.length≤100000) :
  Calls Tryz.prog 252 #[.pointer (some ⟨tb,0,none⟩),.int .i64 from_,.int .i64 n] w fun e w'=>∃ a c,e=.returned (.slice a n c)∧Own intE w' w.heap.size (.slice a n c) (subW T.words from_ n)∧Below w.heap.size w w':=by
 have ld:=fun wr (hw:Below w.heap.size w wr) (k:Nat) (hk:k<T.words.length)=>stLoad_in wr X.sb X.wb T.base T.words (h.below hw).st k hk
 have hc:=fun wr (hw:Below w.heap.size w wr)=>(h.below hw).cells.2.2.2.1
 clear h;have LD:=k_ ld;clear ld;have HC:=k_ hc;clear hc
 go_enter Tryz.func252,Tryz.ntmps252
 go_wp2_with fail
 go_loopw [7,12] (fun o i wr=>∃ k:Nat,∃ l:List Int,k≤n∧i=.int .i64 k∧Own intE wr w.heap.size o l∧l=subW T.words from_ k∧Below w.heap.size w wr) (fun _ i _=>n - (intOf i).toNat)
 case atStart=>exact⟨0,[],Nat.zero_le _,rfl,Own.nil _ _ _,(by simp[subW]),Below.refl _ _⟩
 case round =>
  obtain⟨k,l,hk,rfl,ho,hlk',hB⟩:=hrel;have hlk:l.length=k:=by rw[hlk',subW_len _ _ _ (by omega)]
  by_cases hlt:k<n
  ·have q3:=HC.out wr hB
   have ld:=LD.out wr hB (from_+k) (by omega);obtain⟨off,hoff⟩:∃ off,off=from_+k:=⟨_,rfl⟩;have i1:IntKind.i64.wrap ((from_:Int)+(k:Int))=(off:Int):=by rw[show ((from_:Int)+(k:Int))=(off:Int) from by omega];exact IntWalk.i64_in _ (by omega)
   have hnx:=subW_next T.words from_ k (by omega);rw[← hlk'] at hnx;generalize T.words[from_+k]=x at *;rw[← hoff] at ld;have hlk2:l.length≤100000:=by omega
   have LD:=k_ ld;clear ld;have HO:=k_ ho;clear ho;have HB:=k_ hB;clear hB;have HOFF:=k_ hoff;clear hoff;have HLK:=k_ hlk;clear hlk;have HNX:=k_ hnx;clear hnx;clear hlk';obtain⟨a0,n0,c0,rfl⟩:=HO.out.slice;go_wp2_with fail;refine LD.out.mono ?_;rintro e w' ⟨rfl,rfl⟩
   go_wp2_with (at_builtin;refine append_own intE rfl (.tmp 26) (.tmp 28) rfl w.heap.size l [x] _ rfl (HO.out.alloc _) wr.heap.size 0 1 rfl (CellsAt.new _ _ _ _) ?c1 ?c2 ?_)
   case c1=>first | omega | (show l.length+1≤100000000;omega)
   case c2=>have:=HB.out.size;simp;omega
   intro v5 w5 ho5 hg5;have hb5:=below_grown (HB.out.alloc HB.out.size _) (HO.out.alloc (.cells #[.int .i64 x] 3)) hg5 (by have:=HB.out.size;simp;omega) (Nat.le_refl _);obtain⟨a5,n5,c5,rfl⟩:=ho5.slice;have hlen:=HNX.out;clear hg5;have HO5:=k_ ho5;clear ho5;have HB5:=k_ hb5;clear hb5;have HLEN:=k_ hlen;clear hlen;go_wp2_with fail
   go_roundw
   case rel=>exact⟨k+1,_,by omega,by go_num,HO5.out,HLEN.out,HB5.out⟩
   case measure=>simp[intOf];omega
  ·have hk':k=n:=by omega
   subst hk';obtain⟨a0,c0,rfl,_⟩:=own_elems ho;rw[hlk] at ho;rw[hlk];rw[hlk'] at ho;clear hlk hlk';have HB:=k_ hB;clear hB;have HO:=k_ ho;clear ho;go_wp2_with fail
   go_ret
   exact⟨_,_,rfl,HO.out,HB.out⟩
structure SpotV where (x0 x1 x2:Int) (b3 b4:Bool) (x5:Int) (b6:Bool) (a7:Option Addr) (n7 c7:Nat) (a8:Option Addr) (n8 c8:Nat)
def spotE:Elem Tryz.prog SpotV where
 e:=280
 t:=226
 size:=9
 bytes:=96
 zero:=.agg #[.int .i64 0,.int .i64 0,.int .i64 0,.bool false,.bool false,.int .i64 0,.bool false,.slice none 0 0,.slice none 0 0]
 enc:=fun x=>[.int .i64 x.x0,.int .i64 x.x1,.int .i64 x.x2,.bool x.b3,.bool x.b4,.int .i64 x.x5,.bool x.b6,.slice x.a7 x.n7 x.c7,.slice x.a8 x.n8 x.c8]
 ht:=Tryz.underlying226
 info:=by kernel_rfl
 hzs:=rfl
 hsz:=by decide
 hby:=by decide
 henc:=fun _=>rfl
 hone:=fun x u h=>by simp at h;rcases h with rfl | rfl | rfl | rfl | rfl | rfl | rfl | rfl | rfl <;> rfl
def thsE:Elem Tryz.prog (Option Addr × Nat × Nat) where
 e:=238
 t:=227
 size:=1
 bytes:=24
 zero:=.slice none 0 0
 enc:=fun x=>[.slice x.1 x.2.1 x.2.2]
 ht:=Tryz.underlying227
 info:=by kernel_rfl
 hzs:=rfl
 hsz:=by decide
 hby:=by decide
 henc:=fun _=>rfl
 hone:=fun x u h=>by simp at h;subst h;rfl
theorem own_keep {w1 w2:World} {B:Nat} {v:Value} {l:List Int} (h:Own intE w1 B v l) {G:Nat→Prop} (hf:Fr G w1 w2) (hG:∀ b cs f,w1.heap[b]?=some (.cells cs 3 f)→¬ G b):Own intE w2 B v l :=
 h.fr hf (fun k hk=>by obtain⟨cur,f,hc⟩:=own_row h hk;exact hG k _ _ hc)
end Go.Proofs.YtbkkhmafheimfaaGreatDoor.Tk
