/- Walks: Task.Deferred; noRoom. Walk: Task.Life of any task without deferred calls, frame by frame. -/
import Derived.Test.YtlofbhoicbemnaaGreatDoorDAt
import Derived.Test.YtlofbhoicbemnaaGreatDoorDAv
set_option linter.unusedVariables false
set_option linter.unusedSimpArgs false
set_option maxRecDepth 100000
set_option maxHeartbeats 1600000
namespace Go.Proofs.YtlofbhoicbemnaaGreatDoor.Tk
open Go.ChangeShapes Go.WideShapes Go.ChangeAt Go.RowKit Go.Maps
theorem tkDeferred_any (w:World) (F:Nat→Prop) (tb:Nat) (p:TPrg) (T:Tk) (X:TB) (h:TaskAt w F tb p T X) (hn:T.parts.length≤1000) (M:List Mark) (m:Mark) (hM:T.marks=M ++ [m]) (hl:T.parts.length=M.length+1) :
  Calls Tryz.prog 245 #[.pointer (some ⟨tb,0,none⟩)] w fun e w'=>e=.returned (.bool m.deferred)∧Below w.heap.size w w':=by
 have hml:T.marks.length=M.length+1:=by rw[hM];simp
 obtain⟨a5,c5,hmv,hmel⟩:=own_elems h.marks;obtain⟨mb,rfl,_,hmc⟩:=hmel M.length (by omega);have hm:T.marks[M.length]'(by omega)=m:=by simp[hM]
 have l1:w.cell? ⟨mb,M.length * 3+1,none⟩=some (.bool (T.marks[M.length]'(by omega)).deferred):=hmc 1 _ rfl;rw[hm] at l1;have q5:=h.cells.2.2.2.2.2.1;rw[hml] at hmv;rw[hmv] at q5;have dp4:=fun wx (hw:Below w.heap.size w wx)=>(depth_any wx F tb p T X (h.below hw)).mono (fun e w' he=>(show e=.returned (.int .i64 (T.parts.length:Nat))∧Below wx.heap.size wx w' from⟨he.1,by rw[← he.2];exact Below.refl _ _⟩))
 rw[hl] at dp4;obtain⟨N,hN⟩:∃ N,N=M.length+1:=⟨_,rfl⟩;rw[← hN] at dp4 q5;have i1:IntKind.i64.wrap ((N:Int) - 1)=(M.length:Int):=by rw[show ((N:Int) - 1)=(M.length:Int) from by omega];exact IntWalk.i64_in _ (by omega)
 have n1:(M.length:Int)<(N:Int):=by omega
 have n0:0<N:=by omega
 have hkk:=fun wx (hw:Below w.heap.size w wx)=>And.intro (below_cell hw q5) (below_cell hw l1)
 clear hN hl hn h hm hmc hmel hmv hml hM l1 q5;generalize M.length=L at *;obtain⟨m0,m1,m2⟩:=m;have DP4:=k_ dp4;clear dp4;have HKK:=k_ hkk;clear hkk
 go_enter Tryz.func245,Tryz.ntmps245
 go_upto_region 1 with fail
 refine wp_region_noPanic ?_;refine wp_region_held_drew (S:=fun w'=>Below w.heap.size w w') (by kernel_rfl) (Below.refl _ _).drew (fun _=>?_);have HR1:=k_ (Below.refl w.heap.size w).drew;generalize w.drew=r1 at *;refine wpAnyH_take (i:=0) (v:=?_) rfl (by kernel_rfl) (by kernel_rfl) (by kernel_rfl) (fun _ _ _ h=>h) (Or.inl ⟨by kernel_rfl,?tq1⟩) HR1.out ?_
 case tq1=>(intro wq hq;obtain⟨f0,f1⟩:=HKK.out wq hq;go_simp;first | done | with_reducible rfl)
 refine wpAnyH_ready (rs:=[1]) (by kernel_rfl) (by simp) ?_;refine(AllReadyH.cons rfl (fun K hK=>?_) AllReadyH.nil);go_simp
 go_at_call 236
 refine(DP4.out r1 HR1.out).mono ?_;rintro e r2 ⟨rfl,hb⟩;have HR2:=k_ (HR1.out.trans (hb.mono HR1.out.size));clear hb;refine hK.out _ _ HR2.out (fun _=>?_);clear hK K;refine wpAnyH_take (i:=2) (v:=?_) rfl (by kernel_rfl) (by kernel_rfl) (by kernel_rfl) (fun _ _ _ h=>h) (Or.inl ⟨by kernel_rfl,?tq2⟩) HR2.out ?_
 case tq2=>(intro wq hq;obtain⟨f0,f1⟩:=HKK.out wq hq;go_simp;first | done | with_reducible rfl)
 refine wpAnyH_take (i:=3) (v:=?_) rfl (by kernel_rfl) (by kernel_rfl) (by kernel_rfl) (fun _ _ _ h=>h) (Or.inl ⟨by kernel_rfl,?tq3⟩) HR2.out ?_
 case tq3=>(intro wq hq;obtain⟨f0,f1⟩:=HKK.out wq hq;go_simp;first | done | with_reducible rfl)
 refine wpAnyH_take (i:=4) (v:=?_) rfl (by kernel_rfl) (by kernel_rfl) (by kernel_rfl) (fun _ _ _ h=>h) (Or.inl ⟨by kernel_rfl,?tq4⟩) HR2.out ?_
 case tq4=>(intro wq hq;obtain⟨f0,f1⟩:=HKK.out wq hq;go_simp;first | done | with_reducible rfl)
 refine wpAnyH_take (i:=5) (v:=?_) rfl (by kernel_rfl) (by kernel_rfl) (by kernel_rfl) (fun _ _ _ h=>h) (Or.inl ⟨by kernel_rfl,?tq5⟩) HR2.out ?_
 case tq5=>(intro wq hq;obtain⟨f0,f1⟩:=HKK.out wq hq;go_simp;first | done | with_reducible rfl)
 refine wpAnyH_take (i:=6) (v:=?_) rfl (by kernel_rfl) (by kernel_rfl) (by kernel_rfl) (fun _ _ _ h=>h) (Or.inl ⟨by kernel_rfl,?tq6⟩) HR2.out ?_
 case tq6=>(intro wq hq;obtain⟨f0,f1⟩:=HKK.out wq hq;go_simp;first | done | with_reducible rfl)
 refine wpAnyH_take (i:=7) (v:=?_) rfl (by kernel_rfl) (by kernel_rfl) (by kernel_rfl) (fun _ _ _ h=>h) (Or.inl ⟨by kernel_rfl,?tq7⟩) HR2.out ?_
 case tq7=>(intro wq hq;obtain⟨f0,f1⟩:=HKK.out wq hq;go_simp;first | done | with_reducible rfl)
 refine wpAnyH_take (i:=8) (v:=?_) rfl (by kernel_rfl) (by kernel_rfl) (by kernel_rfl) (fun _ _ _ h=>h) (Or.inl ⟨by kernel_rfl,?tq8⟩) HR2.out ?_
 case tq8=>(intro wq hq;obtain⟨f0,f1⟩:=HKK.out wq hq;go_simp;first | done | with_reducible rfl)
 refine wpAnyH_take (i:=9) (v:=?_) rfl (by kernel_rfl) (by kernel_rfl) (by kernel_rfl) (fun _ _ _ h=>h) (Or.inl ⟨by kernel_rfl,?tq9⟩) HR2.out ?_
 case tq9=>(intro wq hq;obtain⟨f0,f1⟩:=HKK.out wq hq;go_simp;first | done | with_reducible rfl)
 refine wpAnyH_ready (rs:=[10]) (by kernel_rfl) (by simp) ?_;refine(AllReadyH.cons rfl (fun K hK=>?_) AllReadyH.nil);go_simp
 go_at_call 236
 refine(DP4.out r2 HR2.out).mono ?_;rintro e r3 ⟨rfl,hb⟩;have HR3:=k_ (HR2.out.trans (hb.mono HR2.out.size));clear hb;refine hK.out _ _ HR3.out (fun _=>?_);clear hK K;refine wpAnyH_take (i:=11) (v:=?_) rfl (by kernel_rfl) (by kernel_rfl) (by kernel_rfl) (fun _ _ _ h=>h) (Or.inl ⟨by kernel_rfl,?tq10⟩) HR3.out ?_
 case tq10=>(intro wq hq;obtain⟨f0,f1⟩:=HKK.out wq hq;go_simp;first | done | with_reducible rfl)
 refine wpAnyH_take (i:=12) (v:=?_) rfl (by kernel_rfl) (by kernel_rfl) (by kernel_rfl) (fun _ _ _ h=>h) (Or.inl ⟨by kernel_rfl,?tq11⟩) HR3.out ?_
 case tq11=>(intro wq hq;obtain⟨f0,f1⟩:=HKK.out wq hq;go_simp;first | done | with_reducible rfl)
 refine wpAnyH_take (i:=13) (v:=?_) rfl (by kernel_rfl) (by kernel_rfl) (by kernel_rfl) (fun _ _ _ h=>h) (Or.inl ⟨by kernel_rfl,?tq12⟩) HR3.out ?_
 case tq12=>(intro wq hq;obtain⟨f0,f1⟩:=HKK.out wq hq;go_simp;first | done | with_reducible rfl)
 refine wpAnyH_take (i:=14) (v:=?_) rfl (by kernel_rfl) (by kernel_rfl) (by kernel_rfl) (fun _ _ _ h=>h) (Or.inl ⟨by kernel_rfl,?tq13⟩) HR3.out ?_
 case tq13=>(intro wq hq;obtain⟨f0,f1⟩:=HKK.out wq hq;go_simp;first | done | with_reducible rfl)
 refine wpAnyH_take (i:=15) (v:=?_) rfl (by kernel_rfl) (by kernel_rfl) (by kernel_rfl) (fun _ _ _ h=>h) (Or.inl ⟨by kernel_rfl,?tq14⟩) HR3.out ?_
 case tq14=>(intro wq hq;obtain⟨f0,f1⟩:=HKK.out wq hq;go_simp;first | done | with_reducible rfl)
 refine wpAnyH_ready (rs:=[16]) (by kernel_rfl) (by simp) ?_;refine(AllReadyH.cons rfl (fun K hK=>?_) AllReadyH.nil);go_simp;refine hK.out _ _ HR3.out (fun _=>?_);clear hK K;refine wpAnyH_done (by kernel_rfl) ?_ _;refine NoPanic.normal ?_;go_wp2_with fail
 go_ret
 exact⟨rfl,HR3.out⟩
noncomputable def keptV (kf:{ x:Int × Int // i64B x.1∧i64B x.2 }→Option Int) (d:Nat):Int × Bool:=by
 classical
 exact if h:i64B (d:Int)∧i64B 0 then (match kf ⟨((d:Int),(0:Int)),h⟩ with | some v=>(v,true) | none=>(0,false)) else (0,false)
theorem keptV_or (kf:{ x:Int × Int // i64B x.1∧i64B x.2 }→Option Int) (d:Nat) (h:i64B (d:Int)∧i64B 0):(kf ⟨((d:Int),(0:Int)),h⟩=some (keptV kf d).1∧(keptV kf d).2=true)∨(kf ⟨((d:Int),(0:Int)),h⟩=none∧(keptV kf d).1=0∧(keptV kf d).2=false):=by
 unfold keptV;rw[dif_pos h]
 cases kf ⟨((d:Int),(0:Int)),h⟩ <;> simp
def SPT (T:Tk) (kf:{ x:Int × Int // i64B x.1∧i64B x.2 }→Option Int) (d:Nat) (s:SpotV):Prop:=∃ q m,T.parts[d]?=some q∧T.marks[d]?=some m∧s.x0=q.fn∧s.x1=q.pc∧s.x2=q.base∧s.b3=m.leaving∧s.b4=decide (0<q.tn)∧s.x5=(keptV kf d).1∧s.b6=(keptV kf d).2
def Fits (p:TPrg) (T:Tk) (sl:Nat→Nat):Prop:=T.marks.length=T.parts.length∧∀ d (hd:d<T.parts.length),∃ j:Nat,∃ hj:j<p.funcs.length,T.parts[d].fn=j∧p.funcs[j].slots=sl d∧∃ bn:Nat,T.parts[d].base=bn∧bn+wordsN p j≤T.words.length
def slotsW (p:TPrg) (T:Tk) (sl:Nat→Nat) (d:Nat):List Int:=subW T.words ((T.parts[d]?.map Part.base).getD 0).toNat.succ.succ (sl d)
def objectsW (p:TPrg) (T:Tk) (sl:Nat→Nat) (d:Nat):List Int:=subW T.words (((T.parts[d]?.map Part.base).getD 0).toNat+(2+sl d)) (wordsN p ((T.parts[d]?.map Part.fn).getD 0) - (2+sl d))
theorem spots_any {w:World} {F:Nat→Prop} {tb:Nat} {p:TPrg} {T:Tk} {X:TB} (h:TaskAt w F tb p T X) (hp:PSmall p) (ht:TkOk T) (sl:Nat→Nat) (hf:Fits p T sl) (wr:World) (hw:Below w.heap.size w wr) (d:Nat) (hd:d<T.parts.length) :
  Calls Tryz.prog 240 #[.pointer (some ⟨tb,0,none⟩),.int .i64 d] wr fun e w'=>∃ s:SpotV,SPT T X.kf d ⟨s.x0,s.x1,s.x2,s.b3,s.b4,s.x5,s.b6,s.a7,sl d,s.c7,s.a8,s.n8,s.c8⟩∧e=.returned (.agg #[.int .i64 s.x0,.int .i64 s.x1,.int .i64 s.x2,.bool s.b3,.bool s.b4,.int .i64 s.x5,.bool s.b6,.slice s.a7 (sl d) s.c7,.slice s.a8 s.n8 s.c8])∧Own intE w' (wr.heap.size+1) (.slice s.a7 (sl d) s.c7) (slotsW p T sl d)∧Own intE w' (wr.heap.size+1) (.slice s.a8 s.n8 s.c8) (objectsW p T sl d)∧Below wr.heap.size wr w':=by
 obtain⟨hml,hall⟩:=hf;obtain⟨j,hj,hfj,hsl,bn,hbn,hfit⟩:=hall d hd;have hI:i64B (d:Int)∧i64B 0:=by have:=ht.1;constructor <;> unfold i64B <;> omega
 have e0:T.parts[d]?=some T.parts[d]:=List.getElem?_eq_getElem hd;have e1:T.marks[d]?=some (T.marks[d]'(by omega)):=List.getElem?_eq_getElem (by omega);refine(spot3_any wr F tb p T X (h.below hw) hp ht d hd (by omega) j hj hfj (sl d) hsl bn hbn hfit hI (keptV X.kf d).1 (keptV X.kf d).2 (keptV_or X.kf d hI)).mono ?_;rintro e w' ⟨a7,c7,a8,n8,c8,rfl,h1,h2,hb⟩;refine⟨⟨j,T.parts[d].pc,bn,(T.marks[d]'(by omega)).leaving,decide (0<T.parts[d].tn),(keptV X.kf d).1,(keptV X.kf d).2,a7,sl d,c7,a8,n8,c8⟩,⟨T.parts[d],_,e0,e1,hfj.symm,rfl,hbn.symm,rfl,rfl,rfl,rfl⟩,rfl,?_,?_,hb⟩
 ·have e:slotsW p T sl d=subW T.words (bn+2) (sl d):=by unfold slotsW;rw[e0];simp[hbn]
  rw[e];exact h1
 ·have e:objectsW p T sl d=subW T.words (bn+(2+sl d)) (wordsN p j - (2+sl d)):=by unfold objectsW;rw[e0];simp[hbn,hfj]
  rw[e];exact h2
def LifeAll (w:World) (p:TPrg) (T:Tk) (X:TB) (sl:Nat→Nat) (e:Ending) (w':World):Prop:=∃ (fr:List SpotV) (v av:Value) (g1:Option Addr) (g2 g3:Nat),e=.returned (.agg #[.int .i64 0,.int .i64 T.base,.int .i64 T.words.length,v,.slice g1 g2 g3,av,.bool false])∧Own alarmE w' w.heap.size av X.al∧(∀ d (hd:d<fr.length),SPT T X.kf d fr[d])∧Own spotE w' w.heap.size v fr∧fr.length=T.parts.length∧(∀ d (hd:d<fr.length),fr[d].n7=sl d)∧RowsG w' w.heap.size sl fr (slotsW p T sl) (objectsW p T sl)∧Below w.heap.size w w'
theorem lifeAll_any (w:World) (F:Nat→Prop) (tb:Nat) (p:TPrg) (T:Tk) (X:TB) (h:TaskAt w F tb p T X) (hp:PSmall p) (ht:TkOk T) (sl:Nat→Nat) (hf:Fits p T sl) (hth:∀ q ∈ T.parts,q.tn=0) (hal:X.al.length≤100000) :
  Calls Tryz.prog 172 #[.pointer (some ⟨tb,0,none⟩)] w (LifeAll w p T X sl) :=
 life3_any w F tb p T X h ht.1 hth sl (slotsW p T sl) (objectsW p T sl) (SPT T X.kf) hal (fun wr hw d hd=>spots_any h hp ht sl hf wr hw d hd)
end Go.Proofs.YtlofbhoicbemnaaGreatDoor.Tk
