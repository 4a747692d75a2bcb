/- Walk: a frame as it is, with its words. Walk: Task.Life, with the words of its frames. Walks: Task.Panic, Exit, Keep, Value. Walk: .. -/
import Derived.Test.YtlofbhoicbemnaaGreatDoorGAu
set_option linter.unusedVariables false
set_option linter.unusedSimpArgs false
set_option maxRecDepth 100000
set_option maxHeartbeats 3200000
namespace Go.Proofs.YtlofbhoicbemnaaGreatDoor.Tk
open Go.ChangeShapes Go.WideShapes Go.ChangeAt Go.RowKit Go.Maps
def kJ (l:List Int) (o n:Nat):List Int:=(l.drop o).take n
theorem GA (l:List Int) (o n:Nat) (h:o+n≤l.length):(kJ l o n).length=n:=by simp[kJ];omega
theorem Dm (l:List Int) (o k:Nat) (h:o+k<l.length):kJ l o k ++ [l[o+k]]=kJ l o (k+1):=by
 unfold kJ;rw[List.take_add_one,List.getElem?_drop,List.getElem?_eq_getElem h]
 rfl
theorem oI (w:World) (F:Nat→Prop) (tb:Nat) (p:TPrg) (T:Tk) (X:TB) (h:TaskAt w F tb p T X) (from_ n:Nat) (hn:from_+n≤T.words.length) (hl:T.words.length≤100000) :
  Calls Tryz.prog 307 #[.pointer (some ⟨tb,0,none⟩),.int .i64 from_,.int .i64 n] w fun e w'=>∃ a c,e=.returned (.slice a n c)∧Own aG w' w.heap.size (.slice a n c) (kJ T.words from_ n)∧Below w.heap.size w w':=by
 have ld:=fun wr (hw:Below w.heap.size w wr) (k:Nat) (hk:k<T.words.length)=>uM wr X.sb X.wb T.base T.words (h.below hw).st k hk
 have hc:=fun wr (hw:Below w.heap.size w wr)=>(h.below hw).cells.2.2.2.1
 clear h;have LD:=k_ ld;clear ld;have HC:=k_ hc;clear hc
 go_enter Tryz.func307,Tryz.ntmps307
 go_wp2_with fail
 go_loopw [7,12] (fun o i wr=>∃ k:Nat,∃ l:List Int,k≤n∧i=.int .i64 k∧Own aG wr w.heap.size o l∧l=kJ T.words from_ k∧Below w.heap.size w wr) (fun _ i _=>n - (intOf i).toNat)
 case atStart=>exact⟨0,[],Nat.zero_le _,rfl,Own.nil _ _ _,(by simp[kJ]),Below.refl _ _⟩
 case round =>
  obtain⟨k,l,hk,rfl,ho,hlk',hB⟩:=hrel;have hlk:l.length=k:=by rw[hlk',GA _ _ _ (by omega)]
  by_cases hlt:k<n
  ·have q3:=HC.out wr hB
   have ld:=LD.out wr hB (from_+k) (by omega);obtain⟨off,hoff⟩:∃ off,off=from_+k:=⟨_,rfl⟩;have i1:IntKind.i64.wrap ((from_:Int)+(k:Int))=(off:Int):=by rw[show ((from_:Int)+(k:Int))=(off:Int) from by omega];exact IntWalk.i64_in _ (by omega)
   have hnx:=Dm T.words from_ k (by omega);rw[← hlk'] at hnx;generalize T.words[from_+k]=x at *;rw[← hoff] at ld;have hlk2:l.length≤100000:=by omega
   have LD:=k_ ld;clear ld;have HO:=k_ ho;clear ho;have HB:=k_ hB;clear hB;have HOFF:=k_ hoff;clear hoff;have HLK:=k_ hlk;clear hlk;have HNX:=k_ hnx;clear hnx;clear hlk';obtain⟨a0,n0,c0,rfl⟩:=HO.out.slice;go_wp2_with fail;refine LD.out.mono ?_;rintro e w' ⟨rfl,rfl⟩
   go_wp2_with (at_builtin;refine bJ aG rfl (.tmp 26) (.tmp 28) rfl w.heap.size l [x] _ rfl (HO.out.alloc _) wr.heap.size 0 1 rfl (aA.new _ _ _ _) ?c1 ?c2 ?_)
   case c1=>first | omega | (show l.length+1≤100000000;omega)
   case c2=>have:=HB.out.size;simp;omega
   intro v5 w5 ho5 hg5;have hb5:=below_grown (HB.out.alloc HB.out.size _) (HO.out.alloc (.cells #[.int .i64 x] 3)) hg5 (by have:=HB.out.size;simp;omega) (Nat.le_refl _);obtain⟨a5,n5,c5,rfl⟩:=ho5.slice;have hlen:=HNX.out;clear hg5;have HO5:=k_ ho5;clear ho5;have HB5:=k_ hb5;clear hb5;have HLEN:=k_ hlen;clear hlen;go_wp2_with fail
   go_roundw
   case rel=>exact⟨k+1,_,by omega,by go_num,HO5.out,HLEN.out,HB5.out⟩
   case measure=>simp[intOf];omega
  ·have hk':k=n:=by omega
   subst hk';obtain⟨a0,c0,rfl,_⟩:=aP ho;rw[hlk] at ho;rw[hlk];rw[hlk'] at ho;clear hlk hlk';have HB:=k_ hB;clear hB;have HO:=k_ ho;clear ho;go_wp2_with fail
   go_ret
   exact⟨_,_,rfl,HO.out,HB.out⟩
theorem oF {w1 w2:World} {B:Nat} {v:Value} {l:List Int} (h:Own aG w1 B v l) {G:Nat→Prop} (hf:Fr G w1 w2) (hG:∀ b cs f,w1.heap[b]?=some (.cells cs 3 f)→¬ G b):Own aG w2 B v l :=
 h.fr hf (fun k hk=>by obtain⟨cur,f,hc⟩:=aR h hk;exact hG k _ _ hc)
theorem Ao (w:World) (F:Nat→Prop) (tb:Nat) (p:TPrg) (T:Tk) (X:TB) (h:TaskAt w F tb p T X) (hl:T.marks.length≤10000) (hal:X.al.length≤10000) :
  Calls Tryz.prog 321 #[.pointer (some ⟨tb,0,none⟩)] w fun e w'=>e=.returned (.tuple #[])∧∃ F' X',TaskAt w' F' tb p T X'∧X'.Q X (X.al ++ [⟨0,0,0,true,false⟩]) X.kf∧(∀ k,F' k→F k∨w.heap.size≤k)∧Fr F w w':=by
 have sp:=Ac w 0 X.mv T.marks h.marks hl 0 X.av X.al h.alarms hal;obtain⟨_,_,_,_,_,q5,q6,_⟩:=h.cells;obtain⟨a6,n6,c6,hmv2⟩:=h.marks.slice;obtain⟨a7,n7,c7,hav2⟩:=h.alarms.slice;rw[hmv2,hav2] at sp;rw[hmv2] at q5;rw[hav2] at q6;clear hmv2 hav2;have SP:=k_ sp;clear sp;have H:=k_ h;clear h
 go_enter Tryz.func321,Tryz.ntmps321
 go_wp2_with fail;refine SP.out.mono ?_;rintro e w4 ⟨v4,u4,rfl,ho4,hu4,hb4⟩;obtain⟨a4,n4,c4,rfl⟩:=ho4.slice;obtain⟨a8,n8,c8,rfl⟩:=hu4.slice;have hT4:=H.out.below hb4;have q5:=hT4.cells.2.2.2.2.2.1;have q6:=hT4.cells.2.2.2.2.2.2.1;have f5:w4.frozen? ⟨tb,5,none⟩=false:=(aa hT4.row 5).2;have f6:w4.frozen? ⟨tb,6,none⟩=false:=(aa hT4.row 6).2;obtain⟨hT5,hF5⟩:=hT4.mark ho4 hu4 (fun k hk=>hk.elim (fun h=>H.out.flt k h) (fun h=>(H.out.out k h).2));have hF6:=(Fr.of_below hb4 F).trans hF5 (fun k _ hk=>hk);have hnew:∀ k,(F k∨(Value.slice a4 n4 c4).ownBlock=some k)∨(Value.slice a8 n8 c8).ownBlock=some k→F k∨w.heap.size≤k:=fun k hk=>by
  rcases hk with (h1 | h1) | h1
  ·exact .inl h1
  ·exact .inr (aZ ho4 h1)
  ·exact .inr (aZ hu4 h1)
 clear hT4 hb4 ho4 hu4 hF5;have HT5:=k_ hT5;clear hT5;have HF6:=k_ hF6;clear hF6;have HNEW:=k_ hnew;clear hnew;go_wp2_with fail
 go_end0
 exact⟨rfl,_,_,HT5.out,⟨rfl,rfl,rfl,rfl⟩,HNEW.out,HF6.out⟩
theorem xq (w:World) (F:Nat→Prop) (tb:Nat) (p:TPrg) (T:Tk) (X:TB) (h:TaskAt w F tb p T X) (hn:T.parts.length≤1000) (n:Nat) (hl:T.parts.length=n+1) (hI:aJ (n:Int)∧aJ 0) (x:Int) (b:Bool) (hx:(X.kf ⟨((n:Int),(0:Int)),hI⟩=some x∧b=true)∨(X.kf ⟨((n:Int),(0:Int)),hI⟩=none∧x=0∧b=false)) :
  Calls Tryz.prog 243 #[.pointer (some ⟨tb,0,none⟩)] w fun e w'=>e=.returned (.tuple #[.int .i64 x,.bool b])∧Below w.heap.size w w':=by
 have dp4:=fun wx (hw:Below w.heap.size w wx)=>(eF wx F tb p T X (h.below hw)).mono (fun e w' he=>(show e=.returned (.int .i64 (T.parts.length:Nat))∧Below wx.heap.size wx w' from⟨he.1,by rw[← he.2];exact Below.refl _ _⟩))
 rw[hl] at dp4;obtain⟨N,hN⟩:∃ N,N=n+1:=⟨_,rfl⟩;rw[← hN] at dp4;have i1:IntKind.i64.wrap ((N:Int) - 1)=(n:Int):=by rw[show ((N:Int) - 1)=(n:Int) from by omega];exact IntWalk.i64_in _ (by omega)
 have hkk:∀ wx,Below w.heap.size w wx→wx.cell? ⟨tb,7,none⟩=some (.map (some X.kb))∧(Instr.lookup 265 (.map (some X.kb)) (.agg #[.int .i64 n,.int .i64 0]) true).run Tryz.prog wx=.ok (.tuple #[.int .i64 x,.bool b]) wx:=fun wx hw=>by
  refine⟨(h.below hw).cells.2.2.2.2.2.2.2,?_⟩;obtain⟨kn,_,hkm⟩:=(h.below hw).kept;have lk:=hkm.look Tryz.underlying265 (dQ wx) ⟨((n:Int),(0:Int)),hI⟩ trivial
  rcases hx with⟨h1,rfl⟩ | ⟨h1,rfl,rfl⟩
  ·exact(lk.1 x h1).2
  ·exact(lk.2 h1).2
 clear hN hl hn hx h;have DP4:=k_ dp4;clear dp4;have HKK:=k_ hkk;clear hkk
 go_enter Tryz.func243,Tryz.ntmps243
 go_upto_region 3 with fail
 refine wp_region_noPanic ?_;refine wp_region_held_drew (S:=fun w'=>Below w.heap.size w w') (by kernel_rfl) (Below.refl _ _).drew (fun _=>?_);have HR1:=k_ (Below.refl w.heap.size w).drew;generalize w.drew=r1 at *;refine tk_ (i:=0) (v:=?_) rfl (by kernel_rfl) (fun _ _ _ h=>h) ?tq1 HR1.out ?_
 case tq1=>(intro wq hq;obtain⟨f0,f1⟩:=HKK.out wq hq;go_simp;first | done | with_reducible rfl)
 refine tk_ (i:=1) (v:=?_) rfl (by kernel_rfl) (fun _ _ _ h=>h) ?tq2 HR1.out ?_
 case tq2=>(intro wq hq;obtain⟨f0,f1⟩:=HKK.out wq hq;go_simp;first | done | with_reducible rfl)
 refine tk_ (i:=2) (v:=?_) rfl (by kernel_rfl) (fun _ _ _ h=>h) ?tq3 HR1.out ?_
 case tq3=>(intro wq hq;obtain⟨f0,f1⟩:=HKK.out wq hq;go_simp;first | done | with_reducible rfl)
 refine tk_ (i:=3) (v:=?_) rfl (by kernel_rfl) (fun _ _ _ h=>h) ?tq4 HR1.out ?_
 case tq4=>(intro wq hq;obtain⟨f0,f1⟩:=HKK.out wq hq;go_simp;first | done | with_reducible rfl)
 refine tk_ (i:=4) (v:=?_) rfl (by kernel_rfl) (fun _ _ _ h=>h) ?tq5 HR1.out ?_
 case tq5=>(intro wq hq;obtain⟨f0,f1⟩:=HKK.out wq hq;go_simp;first | done | with_reducible rfl)
 refine rd_ (i:=5) (by kernel_rfl) rfl fun K hK=>?_
 go_simp
 go_at_call 236
 refine(DP4.out r1 HR1.out).mono ?_;rintro e r2 ⟨rfl,hb⟩;have HR2:=k_ (HR1.out.trans (hb.mono HR1.out.size));clear hb;refine hK.out _ _ HR2.out (fun _=>?_);clear hK K;refine tk_ (i:=6) (v:=?_) rfl (by kernel_rfl) (fun _ _ _ h=>h) ?tq6 HR2.out ?_
 case tq6=>(intro wq hq;obtain⟨f0,f1⟩:=HKK.out wq hq;go_simp;first | done | with_reducible rfl)
 refine tk_ (i:=7) (v:=?_) rfl (by kernel_rfl) (fun _ _ _ h=>h) ?tq7 HR2.out ?_
 case tq7=>(intro wq hq;obtain⟨f0,f1⟩:=HKK.out wq hq;go_simp;first | done | with_reducible rfl)
 refine tk_ (i:=8) (v:=?_) rfl (by kernel_rfl) (fun _ _ _ h=>h) ?tq8 HR2.out ?_
 case tq8=>(intro wq hq;obtain⟨f0,f1⟩:=HKK.out wq hq;go_simp;first | done | with_reducible rfl)
 refine tk_ (i:=9) (v:=?_) rfl (by kernel_rfl) (fun _ _ _ h=>h) ?tq9 HR2.out ?_
 case tq9=>(intro wq hq;obtain⟨f0,f1⟩:=HKK.out wq hq;go_simp;first | done | with_reducible rfl)
 refine tk_ (i:=10) (v:=?_) rfl (by kernel_rfl) (fun _ _ _ h=>h) ?tq10 HR2.out ?_
 case tq10=>(intro wq hq;obtain⟨f0,f1⟩:=HKK.out wq hq;go_simp;first | done | with_reducible rfl)
 refine tk_ (i:=11) (v:=?_) rfl (by kernel_rfl) (fun _ _ _ h=>h) ?tq11 HR2.out ?_
 case tq11=>(intro wq hq;obtain⟨f0,f1⟩:=HKK.out wq hq;go_simp;first | done | with_reducible rfl)
 refine rd_ (i:=12) (by kernel_rfl) rfl fun K hK=>?_
 go_simp;refine hK.out _ _ HR2.out (fun _=>?_);clear hK K;refine rd_ (i:=13) (by kernel_rfl) rfl fun K hK=>?_
 go_simp;refine hK.out _ _ HR2.out (fun _=>?_);clear hK K;refine wpAnyH_done (by kernel_rfl) ?_ _;refine NoPanic.normal ?_;go_wp2_with fail
 go_ret2
 exact⟨rfl,HR2.out⟩
theorem rZ {P:Program} {ops:Array Oper} {rest:List Oper} {o:Oper} {a:Act} {Q:Exit→Act→World→Prop} {w:World} {mv kv v:Value} (hg:o.guard=none) (m x:Operand) (t:TypeId) (hop:o.op=Op.lookup t m x true) (hm:a.eval m=mv) (hx:a.eval x=kv) (hrun:(Instr.lookup t mv kv true).run P w=.ok v w)
  (hK:wpList P ops Q rest (a.put o.dst v) w):wpList P ops Q (o :: rest) a w:=by
 refine wpList_plain hg fun K' hK'=>?_
 unfold Oper.wp
 simp[execOp,hop,hm,hx,hrun,Result.andThen]
 exact hK' _ _ hK
theorem Dx (w:World) (F:Nat→Prop) (tb:Nat) (p:TPrg) (T:Tk) (X:TB) (h:TaskAt w F tb p T X) (hp:eG p) (ht:jL T) (d:Nat) (hd:d<T.parts.length) (hdm:d<T.marks.length) (j:Nat) (hj:j<p.funcs.length) (hfj:T.parts[d].fn=j) (sl:Nat) (hsl:p.funcs[j].slots=sl) (bn:Nat) (hbn:T.parts[d].base=bn) (hfit:bn+aT p j≤T.words.length) (hI:aJ (d:Int)∧aJ 0) (x:Int) (b:Bool) (hx:(X.kf ⟨((d:Int),(0:Int)),hI⟩=some x∧b=true)∨(X.kf ⟨((d:Int),(0:Int)),hI⟩=none∧x=0∧b=false)) :
  Calls Tryz.prog 240 #[.pointer (some ⟨tb,0,none⟩),.int .i64 d] w fun e w'=>∃ a7 c7 a8 n8 c8,e=.returned (.agg #[.int .i64 j,.int .i64 T.parts[d].pc,.int .i64 bn,.bool T.marks[d].leaving,.bool (decide (0<T.parts[d].tn)),.int .i64 x,.bool b,.slice a7 sl c7,.slice a8 n8 c8])∧Own aG w' (w.heap.size+1) (.slice a7 sl c7) (kJ T.words (bn+2) sl)∧Own aG w' (w.heap.size+1) (.slice a8 n8 c8) (kJ T.words (bn+(2+sl)) (aT p j - (2+sl)))∧Below w.heap.size w w':=by
 have hwn:2+sl≤aT p j:=by rw[qd j hj];unfold lV;omega
 have hwl:=ht.2.2.1;have tw1:=fun wr (hw:Below w.heap.size w wr)=>oI wr F tb p T X (h.below hw) (bn+2) sl (by omega) hwl
 have tw2:=fun wr (hw:Below w.heap.size w wr)=>oI wr F tb p T X (h.below hw) (bn+(2+sl)) (aT p j - (2+sl)) (by omega) hwl
 have wd:=fun wr (hw:Below w.heap.size w wr)=>jm wr X.D (fun k hk=>Nat.lt_of_lt_of_le (h.out k hk).2 hw.size) p X.c0 X.c1 X.c2 j (h.prg.below hw) hp
 obtain⟨⟨a0,n0,m0,e0⟩,⟨a1,m1,e1,_⟩,a2,m2,e2,hfn⟩:=h.prg;rw[e0,e1,e2] at wd;obtain⟨q0,q1,q2,q3,q4,q5,q6,q7⟩:=h.cells;rw[e0] at q0;rw[e1] at q1;rw[e2] at q2;obtain⟨a4,m4,e4,hel⟩:=h.pv;rw[e4] at q4;obtain⟨pb,rfl,_,k0,k1,k2,k3,k4⟩:=hel d hd;obtain⟨a5,m5,e5,hml⟩:=aP h.marks;rw[e5] at q5;obtain⟨mb,rfl,_,hmc⟩:=hml d hdm;have l0:w.cell? ⟨mb,d * 3,none⟩=some (.bool T.marks[d].leaving):=hmc 0 _ rfl;obtain⟨bb,o,rfl,_,y0,y1,y2,y3,y4,g0,g1,g2,g3,g4,hfv⟩:=hfn j hj;obtain⟨_,_,rfl,_⟩:=hfv;have hkept:∀ wr,Below w.heap.size w wr→(Instr.lookup 265 (.map (some X.kb)) (.agg #[.int .i64 d,.int .i64 0]) true).run Tryz.prog wr=.ok (.tuple #[.int .i64 x,.bool b]) wr:=fun wr hw=>by
  obtain⟨kn,_,hkm⟩:=(h.below hw).kept;have lk:=hkm.look Tryz.underlying265 (dQ wr) ⟨((d:Int),(0:Int)),hI⟩ trivial
  rcases hx with⟨h1,rfl⟩ | ⟨h1,rfl,rfl⟩
  ·exact(lk.1 x h1).2
  ·exact(lk.2 h1).2
 rw[hsl] at g2;rw[hfj] at k0;rw[hbn] at k2;have hd1:(d:Int)<T.parts.length:=by omega
 have hd2:(d:Int)<T.marks.length:=by omega
 have hd3:(0:Int)≤(d:Int):=by omega
 have hj0:(0:Int)≤(j:Int):=by omega
 have hj1:(j:Int)<p.funcs.length:=by omega
 have hdb:aJ (d:Int):=by unfold aJ;have:=ht.1;omega
 have hz0:aJ 0:=by unfold aJ;omega
 obtain⟨wn,hwn0⟩:∃ wn,wn=aT p j:=⟨_,rfl⟩;rw[← hwn0] at tw2 wd hwn hfit;obtain⟨f1,hf1⟩:∃ f1,f1=bn+2:=⟨_,rfl⟩;obtain⟨s7,hs7⟩:∃ s7,s7=2+sl:=⟨_,rfl⟩;obtain⟨f2,hf2⟩:∃ f2,f2=bn+s7:=⟨_,rfl⟩;obtain⟨n2,hn2⟩:∃ n2,n2=wn - s7:=⟨_,rfl⟩;rw[← hf1] at tw1;rw[← hs7,← hf2,← hn2] at tw2;have i1:IntKind.i64.wrap ((bn:Int)+2)=(f1:Int):=by rw[show ((bn:Int)+2)=(f1:Int) from by omega];exact IntWalk.i64_in _ (by omega)
 have i2:IntKind.i64.wrap (2+(sl:Int))=(s7:Int):=by rw[show (2+(sl:Int))=(s7:Int) from by omega];exact IntWalk.i64_in _ (by omega)
 have i3:IntKind.i64.wrap ((bn:Int)+(s7:Int))=(f2:Int):=by rw[show ((bn:Int)+(s7:Int))=(f2:Int) from by omega];exact IntWalk.i64_in _ (by omega)
 have i4:IntKind.i64.wrap ((wn:Int) - (s7:Int))=(n2:Int):=by rw[show ((wn:Int) - (s7:Int))=(n2:Int) from by omega];exact IntWalk.i64_in _ (by omega)
 have ht2:Tryz.prog.underlying 265=some (.map spK.k 3):=Tryz.underlying265;have b0:=World.block_lt q0;have b1:=World.block_lt k0;have b2:=World.block_lt l0;have b3:=World.block_lt g2
 dsimp only at b0 b1 b2 b3
 have m1':tb≠w.heap.size:=by omega
 have m2':mb≠w.heap.size:=by omega
 have m3:w.heap.size+1≠w.heap.size:=by omega
 have hb1:=(Below.refl w.heap.size w).alloc (Nat.le_refl _) Eo;have hrow:=ai w Eo;unfold Eo at hb1 hrow;generalize T.parts[d]=q at *;generalize T.marks[d]=mk at *;clear hx h hel hml hmc e0 e1 e2 e4 e5 hfn hfj hbn hsl g0 g1 g3 g4 q3 q6;rw[← hwn0,← hs7,← hf1,← hf2,← hn2];have tw:∀ wr,Below w.heap.size w wr→∀ f n:Nat,((f=f1∧n=sl)∨(f=f2∧n=n2))→Calls Tryz.prog 307 #[.pointer (some ⟨tb,0,none⟩),.int .i64 f,.int .i64 n] wr fun e w'=>∃ a c,e=.returned (.slice a n c)∧Own aG w' wr.heap.size (.slice a n c) (kJ T.words f n)∧Below wr.heap.size wr w':=fun wr hw f n h=>by
  rcases h with⟨rfl,rfl⟩ | ⟨rfl,rfl⟩
  ·exact tw1 wr hw
  ·exact tw2 wr hw
 clear tw1 tw2;have TW:=k_ tw;clear tw;have WD:=k_ wd;clear wd;have HKEPT:=k_ hkept;clear hkept;have HF1:=k_ hf1;clear hf1;have HS7:=k_ hs7;clear hs7;have HF2:=k_ hf2;clear hf2;have HN2:=k_ hn2;clear hn2;have HWN0:=k_ hwn0;clear hwn0;have HT2:=k_ ht2;clear ht2;have HB1:=k_ hb1;clear hb1;have HROW:=k_ hrow;clear hrow
 go_enter Tryz.func240,Tryz.ntmps240
 go_upto_region 2 with fail
 have hb2:=HB1.out.alloc HB1.out.size (.cells #[.int .i64 j,.int .i64 q.pc,.int .i64 bn,.int .i64 q.ret,.slice q.ta q.tn q.tc] 291);have hrow2:=aU HROW.out (.cells #[.int .i64 j,.int .i64 q.pc,.int .i64 bn,.int .i64 q.ret,.slice q.ta q.tn q.tc] 291);have hpt:=ai (w.alloc (.cells #[.int .i64 0,.int .i64 0,.int .i64 0,.bool false,.bool false,.int .i64 0,.bool false,.slice none 0 0,.slice none 0 0] 331)) (.cells #[.int .i64 j,.int .i64 q.pc,.int .i64 bn,.int .i64 q.ret,.slice q.ta q.tn q.tc] 291);rw[show (w.alloc (.cells #[.int .i64 0,.int .i64 0,.int .i64 0,.bool false,.bool false,.int .i64 0,.bool false,.slice none 0 0,.slice none 0 0] 331)).heap.size=w.heap.size+1 from by simp] at hpt;obtain⟨W,hW⟩:∃ W,W=(w.alloc (.cells #[.int .i64 0,.int .i64 0,.int .i64 0,.bool false,.bool false,.int .i64 0,.bool false,.slice none 0 0,.slice none 0 0] 331)).alloc (.cells #[.int .i64 j,.int .i64 q.pc,.int .i64 bn,.int .i64 q.ret,.slice q.ta q.tn q.tc] 291):=⟨_,rfl⟩;rw[← hW] at hb2 hrow2 hpt ⊢;have q0:=ae hb2 q0;have q1:=ae hb2 q1;have q2:=ae hb2 q2;have q5:=ae hb2 q5;have q7:=ae hb2 q7;have l0:=ae hb2 l0;have g2:=ae hb2 g2;have p0:W.cell? ⟨w.heap.size+1,0,none⟩=some (.int .i64 j):=(aa hpt 0).1;have p1:W.cell? ⟨w.heap.size+1,1,none⟩=some (.int .i64 q.pc):=(aa hpt 1).1;have p2:W.cell? ⟨w.heap.size+1,2,none⟩=some (.int .i64 bn):=(aa hpt 2).1;have p4:W.cell? ⟨w.heap.size+1,4,none⟩=some (.slice q.ta q.tn q.tc):=(aa hpt 4).1;clear hW hpt HB1 HROW b0 b1 b2 b3 q4 k0 k1 k2 k3 k4;have HB2:=k_ hb2;clear hb2;have HROW2:=k_ hrow2;clear hrow2
 go_quiet (fail)
 have hq:Below W.heap.size W (W.drewN nq):=below_drewN (Below.refl _ _) nq;have q0:=ae hq q0;have q1:=ae hq q1;have q2:=ae hq q2;have q5:=ae hq q5;have q7:=ae hq q7;have l0:=ae hq l0;have p0:=ae hq p0;have p1:=ae hq p1;have p2:=ae hq p2;have p4:=ae hq p4;have hb3:=HB2.out.trans (hq.mono HB2.out.size);have hrow3:=(fb_ hq).heap HROW2.out (fun h=>h);clear g2 hq HB2 HROW2;generalize W.drewN nq=W3 at *;have HKM:=k_ (HKEPT.out _ hb3);have HB3:=k_ hb3;clear hb3;have HROW3:=k_ hrow3;clear hrow3
 go_wp2_with (refine rZ rfl (.tmp 33) (.tmp 35) 265 rfl rfl rfl HKM.out ?_)
 go_upto_region 5 with fail
 go_cut [] (fun wx=>∃ a7 c7 a8 n8 c8,wx.heap[w.heap.size]?=some (.cells #[.int .i64 j,.int .i64 q.pc,.int .i64 bn,.bool mk.leaving,.bool (decide (0<q.tn)),.int .i64 x,.bool b,.slice a7 sl c7,.slice a8 n8 c8] 331)∧Own aG wx (w.heap.size+1) (.slice a7 sl c7) (kJ T.words f1 sl)∧Own aG wx (w.heap.size+1) (.slice a8 n8 c8) (kJ T.words f2 n2)∧Below w.heap.size w wx)
 case first =>
  have hcur:=HB3.out.drew;have hrow:=HROW3.out;have hlow:w.heap.size+1≤W3.drew.heap.size:=aj HROW3.out;clear HKM HKEPT;have hfr9:∀ (X:World) (v0 v1 v2 v3 v4 v5 v6 v7 v8:Value),Fr (fun k=>k=w.heap.size) X (((((((((X.setCell ⟨w.heap.size,0,none⟩ v0).setCell ⟨w.heap.size,1,none⟩ v1).setCell ⟨w.heap.size,2,none⟩ v2).setCell ⟨w.heap.size,3,none⟩ v3).setCell ⟨w.heap.size,4,none⟩ v4).setCell ⟨w.heap.size,5,none⟩ v5).setCell ⟨w.heap.size,6,none⟩ v6).setCell ⟨w.heap.size,7,none⟩ v7).setCell ⟨w.heap.size,8,none⟩ v8):=fun X v0 v1 v2 v3 v4 v5 v6 v7 v8=>((((((((((Fr.refl (fun k=>k=w.heap.size) X).setCell (p:=⟨w.heap.size,0,none⟩) (fun _=>rfl) v0).setCell (p:=⟨w.heap.size,1,none⟩) (fun _=>rfl) v1).setCell (p:=⟨w.heap.size,2,none⟩) (fun _=>rfl) v2).setCell (p:=⟨w.heap.size,3,none⟩) (fun _=>rfl) v3).setCell (p:=⟨w.heap.size,4,none⟩) (fun _=>rfl) v4).setCell (p:=⟨w.heap.size,5,none⟩) (fun _=>rfl) v5).setCell (p:=⟨w.heap.size,6,none⟩) (fun _=>rfl) v6).setCell (p:=⟨w.heap.size,7,none⟩) (fun _=>rfl) v7).setCell (p:=⟨w.heap.size,8,none⟩) (fun _=>rfl) v8)
  have hrow9:∀ (X:World) (v0 v1 v2 v3 v4 v5 v6 v7 v8:Value),X.heap[w.heap.size]?=some (.cells #[.int .i64 0,.int .i64 0,.int .i64 0,.bool false,.bool false,.int .i64 0,.bool false,.slice none 0 0,.slice none 0 0] 331)→(((((((((X.setCell ⟨w.heap.size,0,none⟩ v0).setCell ⟨w.heap.size,1,none⟩ v1).setCell ⟨w.heap.size,2,none⟩ v2).setCell ⟨w.heap.size,3,none⟩ v3).setCell ⟨w.heap.size,4,none⟩ v4).setCell ⟨w.heap.size,5,none⟩ v5).setCell ⟨w.heap.size,6,none⟩ v6).setCell ⟨w.heap.size,7,none⟩ v7).setCell ⟨w.heap.size,8,none⟩ v8).heap[w.heap.size]?=some (.cells #[v0,v1,v2,v3,v4,v5,v6,v7,v8] 331):=fun X v0 v1 v2 v3 v4 v5 v6 v7 v8 h=>by
   have:=(ag (ag (ag (ag (ag (ag (ag (ag (ag h 0 v0) 1 v1) 2 v2) 3 v3) 4 v4) 5 v5) 6 v6) 7 v7) 8 v8)
   simpa using this
  go_region_held3 (fun w'=>w'.cell? ⟨w.heap.size+1,0,none⟩=some (.int .i64 j)∧w'.cell? ⟨w.heap.size+1,1,none⟩=some (.int .i64 q.pc)∧w'.cell? ⟨w.heap.size+1,2,none⟩=some (.int .i64 bn)∧w'.cell? ⟨w.heap.size+1,4,none⟩=some (.slice q.ta q.tn q.tc)∧w'.cell? ⟨tb,0,none⟩=some (.slice a0 n0 m0)∧w'.cell? ⟨tb,1,none⟩=some (.slice a1 p.shapes.length m1)∧w'.cell? ⟨tb,2,none⟩=some (.slice (some ⟨bb,o,none⟩) p.funcs.length m2)∧w'.cell? ⟨tb,5,none⟩=some (.slice (some ⟨mb,0,none⟩) T.marks.length m5)∧w'.cell? ⟨mb,d * 3,none⟩=some (.bool mk.leaving)) (first | with_reducible exact⟨p0,p1,p2,p4,q0,q1,q2,q5,l0⟩ | with_reducible exact⟨(hfr9 _ _ _ _ _ _ _ _ _ _).cell p0 m3,(hfr9 _ _ _ _ _ _ _ _ _ _).cell p1 m3,(hfr9 _ _ _ _ _ _ _ _ _ _).cell p2 m3,(hfr9 _ _ _ _ _ _ _ _ _ _).cell p4 m3,(hfr9 _ _ _ _ _ _ _ _ _ _).cell q0 m1',(hfr9 _ _ _ _ _ _ _ _ _ _).cell q1 m1',(hfr9 _ _ _ _ _ _ _ _ _ _).cell q2 m1',(hfr9 _ _ _ _ _ _ _ _ _ _).cell q5 m1',(hfr9 _ _ _ _ _ _ _ _ _ _).cell l0 m2'⟩ | go_keep) (first | (go_at_call 307;refine(TW.out _ hcur _ _ (by first | exact .inl ⟨rfl,rfl⟩ | exact .inr ⟨rfl,rfl⟩)).mono ?_;rintro e wq ⟨a7,c7,rfl,hoX,hbq⟩;have hoX:=hoX.base (B':=w.heap.size+1) (fun k hk=>Nat.le_trans hlow (hoX.lt hk).1);(try have hoS:=hoS.below hbq);(try have hoO:=hoO.below hbq);(first | (with_reducible have hoS:Own aG wq (w.heap.size+1) (.slice a7 sl c7) (kJ T.words f1 sl):=hoX) | (with_reducible have hoO:Own aG wq (w.heap.size+1) (.slice a7 n2 c7) (kJ T.words f2 n2):=hoX));clear hoX;have hlow:=Nat.le_trans hlow hbq.size;have p0:=ae hbq p0;have p1:=ae hbq p1;have p2:=ae hbq p2;have p4:=ae hbq p4;have q0:=ae hbq q0;have q1:=ae hbq q1;have q2:=ae hbq q2;have q5:=ae hbq q5;have l0:=ae hbq l0;have hcur:=hcur.trans (hbq.mono hcur.size);have hrow:=(fb_ hbq).heap hrow (fun h=>h);obtain⟨⟨z0,z1,z2,z3,z4,z5,z6,z7,z8⟩,f0,f1',f2',f3,f4,f5,f6,f7,f8⟩:=nP hrow) | (go_at_call 96;refine(WD.out _ hcur).mono ?_;rintro e wq ⟨rfl,hbq⟩;(try have hoS:=hoS.below hbq);(try have hoO:=hoO.below hbq);have hlow:=Nat.le_trans hlow hbq.size;have p0:=ae hbq p0;have p1:=ae hbq p1;have p2:=ae hbq p2;have p4:=ae hbq p4;have q0:=ae hbq q0;have q1:=ae hbq q1;have q2:=ae hbq q2;have q5:=ae hbq q5;have l0:=ae hbq l0;have hcur:=hcur.trans (hbq.mono hcur.size);have hrow:=(fb_ hbq).heap hrow (fun h=>h);obtain⟨⟨z0,z1,z2,z3,z4,z5,z6,z7,z8⟩,f0,f1',f2',f3,f4,f5,f6,f7,f8⟩:=nP hrow))
  all_goals
   have hs9:=fun v0 v1 v2 v3 v4 v5 v6 v7 v8=>hoS.fr (hfr9 wq v0 v1 v2 v3 v4 v5 v6 v7 v8) (fun k hk e=>by have h1:=(hoS.lt hk).1;have h2:k=w.heap.size:=e;omega)
   have ho9:=fun v0 v1 v2 v3 v4 v5 v6 v7 v8=>hoO.fr (hfr9 wq v0 v1 v2 v3 v4 v5 v6 v7 v8) (fun k hk e=>by have h1:=(hoO.lt hk).1;have h2:k=w.heap.size:=e;omega)
   have HS9:=k_ hs9;clear hs9;have HO9:=k_ ho9;clear ho9;clear hoS hoO;have hz:=hcur.size;have hfin:=fun v0 v1 v2 v3 v4 v5 v6 v7 v8=>hrow9 wq v0 v1 v2 v3 v4 v5 v6 v7 v8 hrow
   have hbf:=fun v0 v1 v2 v3 v4 v5 v6 v7 v8=>hcur.trans ((hfr9 wq v0 v1 v2 v3 v4 v5 v6 v7 v8).below hz (fun k hk=>by omega))
   have HFIN:=k_ hfin;clear hfin;have HBF:=k_ hbf;clear hbf;clear hrow hcur hfr9 hrow9;go_wp2_with fail
   go_meet
   first | exact⟨_,_,_,_,_,HFIN.out _ _ _ _ _ _ _ _ _,HS9.out _ _ _ _ _ _ _ _ _,HO9.out _ _ _ _ _ _ _ _ _,HBF.out _ _ _ _ _ _ _ _ _⟩ | (case rel=>exact⟨_,_,_,_,_,HFIN.out _ _ _ _ _ _ _ _ _,HS9.out _ _ _ _ _ _ _ _ _,HO9.out _ _ _ _ _ _ _ _ _,HBF.out _ _ _ _ _ _ _ _ _⟩)
 case rest =>
  obtain⟨a7,c7,a8,n8,c8,hr,hS,hO,hb⟩:=hcut;have HB:=k_ hb;clear hb;have HR:=k_ hr;clear hr;have HS:=k_ hS;clear hS;have HO:=k_ hO;clear hO
  go_wp2_with (with_reducible refine bodyPost_ret ?_ rfl ⟨a7,c7,a8,n8,c8,rfl,HS.out,HO.out,HB.out⟩;obtain⟨⟨z0,z1,z2,z3,z4,z5,z6,z7,z8⟩,_⟩:=nP HR.out;simp[results,Tryz.results240,go_sem,z0,z1,z2,z3,z4,z5,z6,z7,z8])
theorem FM (w:World) (B:Nat) (v:Value) (l:List Mark) (m:Mark) (h:Own dN w B v (l ++ [m])) (hl:l.length≤9000) (B2:Nat) (av:Value) (a:Alarm) (ha0:a.run=0) (ha:Own bG w B2 av [a]) :
  Calls Tryz.prog 309 #[.agg #[v,av]] w (nQ w l [a]):=by
 have hu:oK [a]=true:=by simp[oK,ha0]
 obtain⟨N,hN⟩:∃ N,l.length+1=N:=⟨_,rfl⟩;have n0:((N:Int) == 0)=false:=by rw[beq_eq_false_iff_ne];omega
 have i1:IntKind.i64.wrap ((N:Int) - 1)=(l.length:Int):=by rw[show ((N:Int) - 1)=(l.length:Int) from by omega];exact IntWalk.i64_in _ (by omega)
 obtain⟨a,n,c,rfl⟩:=h.slice;obtain⟨a',n',c',rfl⟩:=ha.slice;have hb0:=(((Below.refl w.heap.size w).alloc (Nat.le_refl _) (.cells #[.slice a n c,.slice a' n' c'] 270)).alloc (by simp) (.cells #[.slice none 0 0,.slice none 0 0] 270));have hz0:((w.alloc (.cells #[.slice a n c,.slice a' n' c'] 270)).alloc (.cells #[.slice none 0 0,.slice none 0 0] 270)).heap.size=w.heap.size+2:=by simp
 have hrow:=ai (w.alloc (.cells #[.slice a n c,.slice a' n' c'] 270)) (.cells #[.slice none 0 0,.slice none 0 0] 270);rw[show (w.alloc (.cells #[.slice a n c,.slice a' n' c'] 270)).heap.size=w.heap.size+1 from by simp] at hrow;have hrow1:=aU (ai w (.cells #[.slice a n c,.slice a' n' c'] 270)) (.cells #[.slice none 0 0,.slice none 0 0] 270);obtain⟨W,hW⟩:∃ W,W=(w.alloc (.cells #[.slice a n c,.slice a' n' c'] 270)).alloc (.cells #[.slice none 0 0,.slice none 0 0] 270):=⟨_,rfl⟩;rw[← hW] at hb0 hz0 hrow hrow1;have k0:W.cell? ⟨w.heap.size,0,none⟩=some (.slice a n c):=(aa hrow1 0).1;have k1:W.cell? ⟨w.heap.size,1,none⟩=some (.slice a' n' c'):=(aa hrow1 1).1;have ow:=wF W B (.slice a n c) _ (h.below hb0) (by first | omega | (simp;done) | (simp;omega)) B2 (.slice a' n' c') _ (ha.below hb0) (by first | omega | (simp;done) | (simp;omega));have HW:=k_ hW;have HROW:=k_ hrow;have HROW1:=k_ hrow1;clear hW hrow hrow1 h ha;have OW:=k_ ow;clear ow;have HB0:=k_ hb0;clear hb0;have HZ0:=k_ hz0;clear hz0
 go_enter Tryz.func309,Tryz.ntmps309
 go_upto_region 1 with fail
 rw[← HW.out];go_wp2_with fail;refine OW.out.mono ?_;rintro e w3 ⟨v3,u3,rfl,ho3,hu3,hb3⟩;obtain⟨a3,n3,c3,rfl⟩:=ho3.slice;obtain⟨a4,n4,c4,rfl⟩:=hu3.slice;have hrow3:=(fb_ hb3).heap HROW1.out (fun h=>h);have hrow4:=(fb_ hb3).heap HROW.out (fun h=>h);have f0:w3.frozen? ⟨w.heap.size,0,none⟩=false:=(aa hrow3 0).2;have f1:w3.frozen? ⟨w.heap.size,1,none⟩=false:=(aa hrow3 1).2;have k0:w3.cell? ⟨w.heap.size,0,none⟩=some (.slice a n c):=(aa hrow3 0).1;have k1:w3.cell? ⟨w.heap.size,1,none⟩=some (.slice a' n' c'):=(aa hrow3 1).1;have hs:=SOwn.start hrow3 hrow4 ho3 hu3 (Nat.le_of_eq HZ0.out.symm) (Nat.le_of_eq HZ0.out.symm) (HB0.out.trans (hb3.mono HB0.out.size));clear hrow3 hrow4 ho3 hu3 hb3;have HS:=k_ hs;clear hs
 go_upto_region 2 with fail
 obtain⟨w4,hw4⟩:∃ w4,w4=(w3.setCell ⟨w.heap.size,0,none⟩ (.slice a3 n3 c3)).setCell ⟨w.heap.size,1,none⟩ (.slice a4 n4 c4):=⟨_,rfl⟩;rw[← hw4] at HS ⊢;clear hw4 f0 f1 k0 k1;obtain⟨k0,k1,f0,f1⟩:=HS.out.cells;obtain⟨g3,cc3,he3,hc3,_⟩:=iJ HS.out.om
 injection he3 with e1 e2 e3
 subst e1 e2 e3;rw[hN] at k0 HS hc3;have un:=fun wr (hw:Below w4.heap.size w4 wr)=>qB wr (some ⟨g3,0,none⟩) N c3 _ (.slice a4 n4 c4) _ (HS.out.oa.below hw) (by simp)
 have hr4:=Below.refl w4.heap.size w4;simp only[hu] at un;have UN:=k_ un;clear un;have HR4:=k_ hr4;clear hr4;go_wp2_with fail;refine(UN.out _ HR4.out).mono ?_;rintro e w5 ⟨rfl,hb5⟩;have hs5:=HS.out.below hb5;clear hb5 k0 k1 f0 f1 HS;obtain⟨k0,k1,f0,f1⟩:=hs5.cells;obtain⟨_,_,he,_,ho6⟩:=iJ hs5.om
 injection he with e1 e2 e3
 injection e1 with e1
 injection e1 with e1
 subst e1 e3;clear e2;have hs6:=hs5.set0 ho6;clear ho6 hs5;have HS:=k_ hs6;clear hs6
 dsimp only
 go_upto_region 7 with fail
 obtain⟨w6,hw6⟩:∃ w6,w6=w5.setCell ⟨w.heap.size,0,none⟩ (.slice (some ⟨g3,0,none⟩) l.length c3):=⟨_,rfl⟩;rw[← hw6] at HS ⊢;clear hw6 k0 f0 k1 f1;obtain⟨k0,k1,f0,f1⟩:=HS.out.cells;obtain rfl:n4=1:=by
  obtain⟨_,_,he,_⟩:=aP HS.out.oa
  injection he
 have en:=fun wr=>yR wr (some ⟨g3,0,none⟩) l.length c3 a4 c4 N
 have EN:=k_ en;clear en;go_wp2_with fail;refine(EN.out _).mono ?_;rintro e w7 ⟨rfl,hb7⟩;have hs7:=HS.out.below hb7;clear k0 k1 f0 f1 HS hb7;have HS:=k_ hs7;clear hs7;obtain⟨k0,k1,f0,f1⟩:=HS.out.cells;obtain⟨q0,q1,g0,g1⟩:=HS.out.rcells;have hd:=HS.out.done;have HP:=k_ (show nQ w _ _ (.returned (.agg #[_,_])) _ from⟨_,_,rfl,hd.2⟩);have HR:=k_ hd.1;clear hd
 go_wp2_with (with_reducible refine bodyPost_ret ?_ rfl HP.out;have j0:=(aa HR.out 0).1;have j1:=(aa HR.out 1).1;simp at j0 j1;simp[results,Tryz.results309,go_sem,j0,j1])
end Go.Proofs.YtlofbhoicbemnaaGreatDoor.Tk
