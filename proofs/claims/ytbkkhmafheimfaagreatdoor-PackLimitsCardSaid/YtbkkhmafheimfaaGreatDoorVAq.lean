/- Walks: Task.Panic, Exit, Keep, Value. Walks: Task.Deferred; noRoom. Walks: whether a task as it is told unwinds. Walk: mutator.pop, .. -/
import Derived.Test.YtbkkhmafheimfaaGreatDoorVAp
set_option linter.unusedVariables false
set_option linter.unusedSimpArgs false
set_option maxRecDepth 100000
set_option maxHeartbeats 1600000
namespace Go.Proofs.YtbkkhmafheimfaaGreatDoor.Tk
open Go.ChangeShapes Go.WideShapes Go.ChangeAt Go.RowKit Go.Maps
theorem tkExit_any (w:World) (F:Nat→Prop) (tb:Nat) (p:TPrg) (T:Tk) (X:TB) (h:TaskAt w F tb p T X) (hl:T.marks.length≤10000) (hal:X.al.length≤10000) :
  Calls Tryz.prog 266 #[.pointer (some ⟨tb,0,none⟩)] w fun e w'=>e=.returned (.tuple #[])∧∃ F' X',TaskAt w' F' tb p T X'∧X'.Q X (X.al ++ [⟨0,0,0,true,false⟩]) X.kf∧(∀ k,F' k→F k∨w.heap.size≤k)∧Fr F w w':=by
 have sp:=stExit_any w 0 X.mv T.marks h.marks hl 0 X.av X.al h.alarms hal;obtain⟨_,_,_,_,_,q5,q6,_⟩:=h.cells;obtain⟨a6,n6,c6,hmv2⟩:=h.marks.slice;obtain⟨a7,n7,c7,hav2⟩:=h.alarms.slice;rw[hmv2,hav2] at sp;rw[hmv2] at q5;rw[hav2] at q6;clear hmv2 hav2;have SP:=k_ sp;clear sp;have H:=k_ h;clear h
 go_enter Tryz.func266,Tryz.ntmps266
 go_wp2_with fail;refine SP.out.mono ?_;rintro e w4 ⟨v4,u4,rfl,ho4,hu4,hb4⟩;obtain⟨a4,n4,c4,rfl⟩:=ho4.slice;obtain⟨a8,n8,c8,rfl⟩:=hu4.slice;have hT4:=H.out.below hb4;have q5:=hT4.cells.2.2.2.2.2.1;have q6:=hT4.cells.2.2.2.2.2.2.1;have f5:w4.frozen? ⟨tb,5,none⟩=false:=(row_cell hT4.row 5).2;have f6:w4.frozen? ⟨tb,6,none⟩=false:=(row_cell hT4.row 6).2;obtain⟨hT5,hF5⟩:=hT4.mark ho4 hu4 (fun k hk=>hk.elim (fun h=>H.out.flt k h) (fun h=>(H.out.out k h).2));have hF6:=(Fr.of_below hb4 F).trans hF5 (fun k _ hk=>hk);have hnew:∀ k,(F k∨(Value.slice a4 n4 c4).ownBlock=some k)∨(Value.slice a8 n8 c8).ownBlock=some k→F k∨w.heap.size≤k:=fun k hk=>by
  rcases hk with (h1 | h1) | h1
  ·exact .inl h1
  ·exact .inr (own_base ho4 h1)
  ·exact .inr (own_base hu4 h1)
 clear hT4 hb4 ho4 hu4 hF5;have HT5:=k_ hT5;clear hT5;have HF6:=k_ hF6;clear hF6;have HNEW:=k_ hnew;clear hnew;go_wp2_with fail
 go_end0
 exact⟨rfl,_,_,HT5.out,⟨rfl,rfl,rfl,rfl⟩,HNEW.out,HF6.out⟩
theorem tkValue_any (w:World) (F:Nat→Prop) (tb:Nat) (p:TPrg) (T:Tk) (X:TB) (h:TaskAt w F tb p T X) (hn:T.parts.length≤1000) (n:Nat) (hl:T.parts.length=n+1) (hI:i64B (n:Int)∧i64B 0) (x:Int) (b:Bool) (hx:(X.kf ⟨((n:Int),(0:Int)),hI⟩=some x∧b=true)∨(X.kf ⟨((n:Int),(0:Int)),hI⟩=none∧x=0∧b=false)) :
  Calls Tryz.prog 188 #[.pointer (some ⟨tb,0,none⟩)] w fun e w'=>e=.returned (.tuple #[.int .i64 x,.bool b])∧Below w.heap.size w w':=by
 have dp4:=fun wx (hw:Below w.heap.size w wx)=>(depth_any wx F tb p T X (h.below hw)).mono (fun e w' he=>(show e=.returned (.int .i64 (T.parts.length:Nat))∧Below wx.heap.size wx w' from⟨he.1,by rw[← he.2];exact Below.refl _ _⟩))
 rw[hl] at dp4;obtain⟨N,hN⟩:∃ N,N=n+1:=⟨_,rfl⟩;rw[← hN] at dp4;have i1:IntKind.i64.wrap ((N:Int) - 1)=(n:Int):=by rw[show ((N:Int) - 1)=(n:Int) from by omega];exact IntWalk.i64_in _ (by omega)
 have hkk:∀ wx,Below w.heap.size w wx→wx.cell? ⟨tb,7,none⟩=some (.map (some X.kb))∧(Instr.lookup 214 (.map (some X.kb)) (.agg #[.int .i64 n,.int .i64 0]) true).run Tryz.prog wx=.ok (.tuple #[.int .i64 x,.bool b]) wx:=fun wx hw=>by
  refine⟨(h.below hw).cells.2.2.2.2.2.2.2,?_⟩;obtain⟨kn,_,hkm⟩:=(h.below hw).kept;have lk:=hkm.look Tryz.underlying214 (zero_int wx) ⟨((n:Int),(0:Int)),hI⟩ trivial
  rcases hx with⟨h1,rfl⟩ | ⟨h1,rfl,rfl⟩
  ·exact(lk.1 x h1).2
  ·exact(lk.2 h1).2
 clear hN hl hn hx h;have DP4:=k_ dp4;clear dp4;have HKK:=k_ hkk;clear hkk
 go_enter Tryz.func188,Tryz.ntmps188
 go_upto_region 3 with fail
 refine wp_region_noPanic ?_;refine wp_region_held_drew (S:=fun w'=>Below w.heap.size w w') (by kernel_rfl) (Below.refl _ _).drew (fun _=>?_);have HR1:=k_ (Below.refl w.heap.size w).drew;generalize w.drew=r1 at *;refine wpAnyH_take (i:=0) (v:=?_) rfl (by kernel_rfl) (by kernel_rfl) (by kernel_rfl) (fun _ _ _ h=>h) (Or.inl ⟨by kernel_rfl,?tq1⟩) HR1.out ?_
 case tq1=>(intro wq hq;obtain⟨f0,f1⟩:=HKK.out wq hq;go_simp;first | done | with_reducible rfl)
 refine wpAnyH_take (i:=1) (v:=?_) rfl (by kernel_rfl) (by kernel_rfl) (by kernel_rfl) (fun _ _ _ h=>h) (Or.inl ⟨by kernel_rfl,?tq2⟩) HR1.out ?_
 case tq2=>(intro wq hq;obtain⟨f0,f1⟩:=HKK.out wq hq;go_simp;first | done | with_reducible rfl)
 refine wpAnyH_take (i:=2) (v:=?_) rfl (by kernel_rfl) (by kernel_rfl) (by kernel_rfl) (fun _ _ _ h=>h) (Or.inl ⟨by kernel_rfl,?tq3⟩) HR1.out ?_
 case tq3=>(intro wq hq;obtain⟨f0,f1⟩:=HKK.out wq hq;go_simp;first | done | with_reducible rfl)
 refine wpAnyH_take (i:=3) (v:=?_) rfl (by kernel_rfl) (by kernel_rfl) (by kernel_rfl) (fun _ _ _ h=>h) (Or.inl ⟨by kernel_rfl,?tq4⟩) HR1.out ?_
 case tq4=>(intro wq hq;obtain⟨f0,f1⟩:=HKK.out wq hq;go_simp;first | done | with_reducible rfl)
 refine wpAnyH_take (i:=4) (v:=?_) rfl (by kernel_rfl) (by kernel_rfl) (by kernel_rfl) (fun _ _ _ h=>h) (Or.inl ⟨by kernel_rfl,?tq5⟩) HR1.out ?_
 case tq5=>(intro wq hq;obtain⟨f0,f1⟩:=HKK.out wq hq;go_simp;first | done | with_reducible rfl)
 refine wpAnyH_ready (rs:=[5]) (by kernel_rfl) (by simp) ?_;refine(AllReadyH.cons rfl (fun K hK=>?_) AllReadyH.nil);go_simp
 go_at_call 181
 refine(DP4.out r1 HR1.out).mono ?_;rintro e r2 ⟨rfl,hb⟩;have HR2:=k_ (HR1.out.trans (hb.mono HR1.out.size));clear hb;refine hK.out _ _ HR2.out (fun _=>?_);clear hK K;refine wpAnyH_take (i:=6) (v:=?_) rfl (by kernel_rfl) (by kernel_rfl) (by kernel_rfl) (fun _ _ _ h=>h) (Or.inl ⟨by kernel_rfl,?tq6⟩) HR2.out ?_
 case tq6=>(intro wq hq;obtain⟨f0,f1⟩:=HKK.out wq hq;go_simp;first | done | with_reducible rfl)
 refine wpAnyH_take (i:=7) (v:=?_) rfl (by kernel_rfl) (by kernel_rfl) (by kernel_rfl) (fun _ _ _ h=>h) (Or.inl ⟨by kernel_rfl,?tq7⟩) HR2.out ?_
 case tq7=>(intro wq hq;obtain⟨f0,f1⟩:=HKK.out wq hq;go_simp;first | done | with_reducible rfl)
 refine wpAnyH_take (i:=8) (v:=?_) rfl (by kernel_rfl) (by kernel_rfl) (by kernel_rfl) (fun _ _ _ h=>h) (Or.inl ⟨by kernel_rfl,?tq8⟩) HR2.out ?_
 case tq8=>(intro wq hq;obtain⟨f0,f1⟩:=HKK.out wq hq;go_simp;first | done | with_reducible rfl)
 refine wpAnyH_take (i:=9) (v:=?_) rfl (by kernel_rfl) (by kernel_rfl) (by kernel_rfl) (fun _ _ _ h=>h) (Or.inl ⟨by kernel_rfl,?tq9⟩) HR2.out ?_
 case tq9=>(intro wq hq;obtain⟨f0,f1⟩:=HKK.out wq hq;go_simp;first | done | with_reducible rfl)
 refine wpAnyH_take (i:=10) (v:=?_) rfl (by kernel_rfl) (by kernel_rfl) (by kernel_rfl) (fun _ _ _ h=>h) (Or.inl ⟨by kernel_rfl,?tq10⟩) HR2.out ?_
 case tq10=>(intro wq hq;obtain⟨f0,f1⟩:=HKK.out wq hq;go_simp;first | done | with_reducible rfl)
 refine wpAnyH_take (i:=11) (v:=?_) rfl (by kernel_rfl) (by kernel_rfl) (by kernel_rfl) (fun _ _ _ h=>h) (Or.inl ⟨by kernel_rfl,?tq11⟩) HR2.out ?_
 case tq11=>(intro wq hq;obtain⟨f0,f1⟩:=HKK.out wq hq;go_simp;first | done | with_reducible rfl)
 refine wpAnyH_ready (rs:=[12]) (by kernel_rfl) (by simp) ?_;refine(AllReadyH.cons rfl (fun K hK=>?_) AllReadyH.nil);go_simp;refine hK.out _ _ HR2.out (fun _=>?_);clear hK K;refine wpAnyH_ready (rs:=[13]) (by kernel_rfl) (by simp) ?_;refine(AllReadyH.cons rfl (fun K hK=>?_) AllReadyH.nil);go_simp;refine hK.out _ _ HR2.out (fun _=>?_);clear hK K;refine wpAnyH_done (by kernel_rfl) ?_ _;refine NoPanic.normal ?_;go_wp2_with fail
 go_ret2
 exact⟨rfl,HR2.out⟩
theorem tkDeferred_any (w:World) (F:Nat→Prop) (tb:Nat) (p:TPrg) (T:Tk) (X:TB) (h:TaskAt w F tb p T X) (hn:T.parts.length≤1000) (M:List Mark) (m:Mark) (hM:T.marks=M ++ [m]) (hl:T.parts.length=M.length+1) :
  Calls Tryz.prog 190 #[.pointer (some ⟨tb,0,none⟩)] w fun e w'=>e=.returned (.bool m.deferred)∧Below w.heap.size w w':=by
 have hml:T.marks.length=M.length+1:=by rw[hM];simp
 obtain⟨a5,c5,hmv,hmel⟩:=own_elems h.marks;obtain⟨mb,rfl,_,hmc⟩:=hmel M.length (by omega);have hm:T.marks[M.length]'(by omega)=m:=by simp[hM]
 have l1:w.cell? ⟨mb,M.length * 3+1,none⟩=some (.bool (T.marks[M.length]'(by omega)).deferred):=hmc 1 _ rfl;rw[hm] at l1;have q5:=h.cells.2.2.2.2.2.1;rw[hml] at hmv;rw[hmv] at q5;have dp4:=fun wx (hw:Below w.heap.size w wx)=>(depth_any wx F tb p T X (h.below hw)).mono (fun e w' he=>(show e=.returned (.int .i64 (T.parts.length:Nat))∧Below wx.heap.size wx w' from⟨he.1,by rw[← he.2];exact Below.refl _ _⟩))
 rw[hl] at dp4;obtain⟨N,hN⟩:∃ N,N=M.length+1:=⟨_,rfl⟩;rw[← hN] at dp4 q5;have i1:IntKind.i64.wrap ((N:Int) - 1)=(M.length:Int):=by rw[show ((N:Int) - 1)=(M.length:Int) from by omega];exact IntWalk.i64_in _ (by omega)
 have n1:(M.length:Int)<(N:Int):=by omega
 have n0:0<N:=by omega
 have hkk:=fun wx (hw:Below w.heap.size w wx)=>And.intro (below_cell hw q5) (below_cell hw l1)
 clear hN hl hn h hm hmc hmel hmv hml hM l1 q5;generalize M.length=L at *;obtain⟨m0,m1,m2⟩:=m;have DP4:=k_ dp4;clear dp4;have HKK:=k_ hkk;clear hkk
 go_enter Tryz.func190,Tryz.ntmps190
 go_upto_region 1 with fail
 refine wp_region_noPanic ?_;refine wp_region_held_drew (S:=fun w'=>Below w.heap.size w w') (by kernel_rfl) (Below.refl _ _).drew (fun _=>?_);have HR1:=k_ (Below.refl w.heap.size w).drew;generalize w.drew=r1 at *;refine wpAnyH_take (i:=0) (v:=?_) rfl (by kernel_rfl) (by kernel_rfl) (by kernel_rfl) (fun _ _ _ h=>h) (Or.inl ⟨by kernel_rfl,?tq1⟩) HR1.out ?_
 case tq1=>(intro wq hq;obtain⟨f0,f1⟩:=HKK.out wq hq;go_simp;first | done | with_reducible rfl)
 refine wpAnyH_ready (rs:=[1]) (by kernel_rfl) (by simp) ?_;refine(AllReadyH.cons rfl (fun K hK=>?_) AllReadyH.nil);go_simp
 go_at_call 181
 refine(DP4.out r1 HR1.out).mono ?_;rintro e r2 ⟨rfl,hb⟩;have HR2:=k_ (HR1.out.trans (hb.mono HR1.out.size));clear hb;refine hK.out _ _ HR2.out (fun _=>?_);clear hK K;refine wpAnyH_take (i:=2) (v:=?_) rfl (by kernel_rfl) (by kernel_rfl) (by kernel_rfl) (fun _ _ _ h=>h) (Or.inl ⟨by kernel_rfl,?tq2⟩) HR2.out ?_
 case tq2=>(intro wq hq;obtain⟨f0,f1⟩:=HKK.out wq hq;go_simp;first | done | with_reducible rfl)
 refine wpAnyH_take (i:=3) (v:=?_) rfl (by kernel_rfl) (by kernel_rfl) (by kernel_rfl) (fun _ _ _ h=>h) (Or.inl ⟨by kernel_rfl,?tq3⟩) HR2.out ?_
 case tq3=>(intro wq hq;obtain⟨f0,f1⟩:=HKK.out wq hq;go_simp;first | done | with_reducible rfl)
 refine wpAnyH_take (i:=4) (v:=?_) rfl (by kernel_rfl) (by kernel_rfl) (by kernel_rfl) (fun _ _ _ h=>h) (Or.inl ⟨by kernel_rfl,?tq4⟩) HR2.out ?_
 case tq4=>(intro wq hq;obtain⟨f0,f1⟩:=HKK.out wq hq;go_simp;first | done | with_reducible rfl)
 refine wpAnyH_take (i:=5) (v:=?_) rfl (by kernel_rfl) (by kernel_rfl) (by kernel_rfl) (fun _ _ _ h=>h) (Or.inl ⟨by kernel_rfl,?tq5⟩) HR2.out ?_
 case tq5=>(intro wq hq;obtain⟨f0,f1⟩:=HKK.out wq hq;go_simp;first | done | with_reducible rfl)
 refine wpAnyH_take (i:=6) (v:=?_) rfl (by kernel_rfl) (by kernel_rfl) (by kernel_rfl) (fun _ _ _ h=>h) (Or.inl ⟨by kernel_rfl,?tq6⟩) HR2.out ?_
 case tq6=>(intro wq hq;obtain⟨f0,f1⟩:=HKK.out wq hq;go_simp;first | done | with_reducible rfl)
 refine wpAnyH_take (i:=7) (v:=?_) rfl (by kernel_rfl) (by kernel_rfl) (by kernel_rfl) (fun _ _ _ h=>h) (Or.inl ⟨by kernel_rfl,?tq7⟩) HR2.out ?_
 case tq7=>(intro wq hq;obtain⟨f0,f1⟩:=HKK.out wq hq;go_simp;first | done | with_reducible rfl)
 refine wpAnyH_take (i:=8) (v:=?_) rfl (by kernel_rfl) (by kernel_rfl) (by kernel_rfl) (fun _ _ _ h=>h) (Or.inl ⟨by kernel_rfl,?tq8⟩) HR2.out ?_
 case tq8=>(intro wq hq;obtain⟨f0,f1⟩:=HKK.out wq hq;go_simp;first | done | with_reducible rfl)
 refine wpAnyH_take (i:=9) (v:=?_) rfl (by kernel_rfl) (by kernel_rfl) (by kernel_rfl) (fun _ _ _ h=>h) (Or.inl ⟨by kernel_rfl,?tq9⟩) HR2.out ?_
 case tq9=>(intro wq hq;obtain⟨f0,f1⟩:=HKK.out wq hq;go_simp;first | done | with_reducible rfl)
 refine wpAnyH_ready (rs:=[10]) (by kernel_rfl) (by simp) ?_;refine(AllReadyH.cons rfl (fun K hK=>?_) AllReadyH.nil);go_simp
 go_at_call 181
 refine(DP4.out r2 HR2.out).mono ?_;rintro e r3 ⟨rfl,hb⟩;have HR3:=k_ (HR2.out.trans (hb.mono HR2.out.size));clear hb;refine hK.out _ _ HR3.out (fun _=>?_);clear hK K;refine wpAnyH_take (i:=11) (v:=?_) rfl (by kernel_rfl) (by kernel_rfl) (by kernel_rfl) (fun _ _ _ h=>h) (Or.inl ⟨by kernel_rfl,?tq10⟩) HR3.out ?_
 case tq10=>(intro wq hq;obtain⟨f0,f1⟩:=HKK.out wq hq;go_simp;first | done | with_reducible rfl)
 refine wpAnyH_take (i:=12) (v:=?_) rfl (by kernel_rfl) (by kernel_rfl) (by kernel_rfl) (fun _ _ _ h=>h) (Or.inl ⟨by kernel_rfl,?tq11⟩) HR3.out ?_
 case tq11=>(intro wq hq;obtain⟨f0,f1⟩:=HKK.out wq hq;go_simp;first | done | with_reducible rfl)
 refine wpAnyH_take (i:=13) (v:=?_) rfl (by kernel_rfl) (by kernel_rfl) (by kernel_rfl) (fun _ _ _ h=>h) (Or.inl ⟨by kernel_rfl,?tq12⟩) HR3.out ?_
 case tq12=>(intro wq hq;obtain⟨f0,f1⟩:=HKK.out wq hq;go_simp;first | done | with_reducible rfl)
 refine wpAnyH_take (i:=14) (v:=?_) rfl (by kernel_rfl) (by kernel_rfl) (by kernel_rfl) (fun _ _ _ h=>h) (Or.inl ⟨by kernel_rfl,?tq13⟩) HR3.out ?_
 case tq13=>(intro wq hq;obtain⟨f0,f1⟩:=HKK.out wq hq;go_simp;first | done | with_reducible rfl)
 refine wpAnyH_take (i:=15) (v:=?_) rfl (by kernel_rfl) (by kernel_rfl) (by kernel_rfl) (fun _ _ _ h=>h) (Or.inl ⟨by kernel_rfl,?tq14⟩) HR3.out ?_
 case tq14=>(intro wq hq;obtain⟨f0,f1⟩:=HKK.out wq hq;go_simp;first | done | with_reducible rfl)
 refine wpAnyH_ready (rs:=[16]) (by kernel_rfl) (by simp) ?_;refine(AllReadyH.cons rfl (fun K hK=>?_) AllReadyH.nil);go_simp;refine hK.out _ _ HR3.out (fun _=>?_);clear hK K;refine wpAnyH_done (by kernel_rfl) ?_ _;refine NoPanic.normal ?_;go_wp2_with fail
 go_ret
 exact⟨rfl,HR3.out⟩
theorem unwindsL_any (w:World) (s0 s1 s2:Int) (a3 a4:Option Addr) (n3 c3 n4 c4:Nat) (b6:Bool) (B:Nat) (av:Value) (A:List Alarm) (h:Own alarmE w B av A) (hl:A.length≤100000) :
  Calls Tryz.prog 189 #[.agg #[.int .i64 s0,.int .i64 s1,.int .i64 s2,.slice a3 n3 c3,.slice a4 n4 c4,av,.bool b6]] w fun e w'=>e=.returned (.bool (unwN A))∧Below w.heap.size w w':=by
 rcases snoc_cases A with rfl | ⟨A,x,rfl⟩
 ·obtain⟨a',n',c',rfl⟩:=h.slice
  obtain rfl:n'=0:=by
   obtain⟨_,_,he,_⟩:=own_elems h
   injection he
  rw[unwN_nil];clear h
  go_enter Tryz.func189,Tryz.ntmps189
  go_wp2_with fail
  go_ret
  exact⟨rfl,(Below.refl _ _).alloc (Nat.le_refl _) _⟩
 ·rw[unwN_snoc]
  obtain⟨g,cc,rfl,_,_⟩:=own_pop h;have c2:=(own_lastc h 2 _ rfl).1;have hb0:=(Below.refl w.heap.size w).alloc (Nat.le_refl _) (.cells #[.int .i64 s0,.int .i64 s1,.int .i64 s2,.slice a3 n3 c3,.slice a4 n4 c4,.slice (some ⟨g,0,none⟩) (A.length+1) cc,.bool b6] 229);have k2:=below_cell hb0 c2
  change World.cell? _ ⟨g,A.length * 5+2,none⟩=_ at k2
  have i1:IntKind.i64.wrap (((A.length+1:Nat):Int) - 1)=(A.length:Int):=by rw[show (((A.length+1:Nat):Int) - 1)=(A.length:Int) from by omega];exact IntWalk.i64_in _ (by simp at hl;omega)
  have n0:0<A.length+1:=by omega
  have n1:(A.length:Int)<((A.length+1:Nat):Int):=by omega
  generalize A.length+1=N at *;have HB:=k_ hb0;clear h c2 hb0 hl;obtain⟨x1,x2,x3,x4,x5⟩:=x
  go_enter Tryz.func189,Tryz.ntmps189
  go_wp2_with fail
  go_ret
  exact⟨rfl,HB.out⟩
def LifePost (w:World) (A:List Alarm) (FR:World→Value→Prop) (e:Ending) (w':World):Prop:=∃ s1 s2 a3 n3 c3 a4 n4 c4 a5 n5 c5,e=.returned (.agg #[.int .i64 0,.int .i64 s1,.int .i64 s2,.slice a3 n3 c3,.slice a4 n4 c4,.slice a5 n5 c5,.bool false])∧Own alarmE w' w.heap.size (.slice a5 n5 c5) A∧FR w' (.slice a3 n3 c3)∧Below w.heap.size w w'
end Go.Proofs.YtbkkhmafheimfaaGreatDoor.Tk
