/- Walks: where it may go on, the program's and the reference's. Walks: where it may go on, the reference's; the kinds behind a place. A .. -/
import Derived.Test.YtlofbhoicbemnaaGreatDoorGBf
import Derived.Test.YtlofbhoicbemnaaGreatDoorGBg
import Derived.ArgAppend
set_option linter.unusedVariables false
set_option linter.unusedSimpArgs false
set_option maxRecDepth 100000
set_option maxHeartbeats 3200000
namespace Go.Proofs.YtlofbhoicbemnaaGreatDoor
open Go.ChangeShapes Go.WideShapes Go.ChangeAt Go.RowKit
theorem GG {p:Prg} {fn pc:Int} {i:Ins} (h:iAt p fn pc=some i):∃ j m:Nat,fn=j∧pc=m∧∃ hj:j<p.funcs.length,p.funcs[j].code[m]?=some i:=by
 unfold iAt at h
 by_cases h1:0≤pc∧pc<(codeOf p fn).length
 ·rw[if_pos h1] at h
  unfold codeOf at h h1
  by_cases h2:au fn p.funcs.length=true
  ·rw[if_pos h2] at h h1
   obtain⟨h3,h4⟩:=di h2;have hj:fn.toNat<p.funcs.length:=by omega
   refine⟨fn.toNat,pc.toNat,by omega,by omega,hj,?_⟩
   simpa[hj] using h
  ·rw[if_neg h2] at h1
   simp at h1
   omega
 ·rw[if_neg h1] at h
  cases h
theorem zN {p:Prg} {j m:Nat} {i:Ins} (hj:j<p.funcs.length) (h:p.funcs[j].code[m]?=some i):iAt p j m=some i:=by
 have hm:m<p.funcs[j].code.length:=by
  rcases Nat.lt_or_ge m p.funcs[j].code.length with h' | h'
  ·exact h'
  ·rw[List.getElem?_eq_none h'] at h;cases h
 have hw:au (j:Int) p.funcs.length=true:=by simp[au];omega
 unfold iAt codeOf;rw[if_pos hw];simp only[Int.toNat_natCast,List.getElem?_eq_getElem hj,Option.map_some,Option.getD_some];rw[if_pos ⟨by omega,by omega⟩];exact h
theorem uZ (p:Prg) (f:Fun) (i:Ins):(il p f i == 1)=false:=by
 unfold il
 repeat' split
 all_goals rfl
def oG (p:Prg) (fn pc:Int):List Int:=match iAt p fn pc with | none=>[] | some i=>dB i pc
def mr (l:List Int) (w:World) (e:Ending) (w':World):Prop:=∃ v,e=.returned v∧Own aG w' w.heap.size v l∧Below w.heap.size w w'
theorem jg {w w':World} (h:Below w.heap.size w w'):mr [] w (.returned (.slice none 0 0)) w':=⟨_,rfl,Own.nil _ _ _,h⟩
theorem jh {w w':World} (h:Below w.heap.size w w') (l:List Int) (cs:Array Value) (hc:cs.toList=l.flatMap aG.enc) (hl:l.length≤10):mr l w (.returned (.slice (some ⟨w'.heap.size,0,none⟩) l.length l.length)) (w'.alloc (.cells cs 3)):=by
 have ho:=kH aG w' l cs hc (by unfold maxLen;omega);exact⟨_,rfl,ho.base (fun k hk=>Nat.le_trans h.size (ho.lt hk).1),h.alloc h.size _⟩
theorem oC (w:World) (D:Nat→Prop) (hD:∀ k,D k→k<w.heap.size) (p:Prg) (c0 c1 c2:Value) (hv:aD w D p c0 c1 c2) (hp:pM p) (hq:qP p) (fn pc:Int) (hfn:aJ fn) (hpc:aJ pc) :
  Calls Tryz.prog 162 #[.agg #[c0,c1,c2],.agg #[.int .i64 fn,.int .i64 pc]] w (mr (oG p fn pc) w):=by
 have hP:∀ wr,Below w.heap.size w wr→aD wr D p c0 c1 c2:=fun wr hb=>hv.fr (fb_ hb) (fun _ _ h=>h)
 have ci:=fun wr (hb:Below w.heap.size w wr)=>nX wr D p c0 c1 c2 fn pc (fun k hk=>Nat.lt_of_lt_of_le (hD k hk) hb.size) (hP wr hb) hfn hpc (nV hq fn) (lN hq) (tT hp) hq.1.1
 have hPP:=hP;obtain⟨⟨a0,m0,rfl,_⟩,⟨a1,m1,rfl,_⟩,a2,m2,rfl,_⟩:=hv;have hbx:=fun wr h=>nz w #[.slice a0 p.globals.length m0,.slice a1 p.shapes.length m1,.slice a2 p.funcs.length m2] #[.int .i64 fn,.int .i64 pc] 48 147 wr h
 have hz0:((w.alloc (.cells #[.slice a0 p.globals.length m0,.slice a1 p.shapes.length m1,.slice a2 p.funcs.length m2] 48)).alloc (.cells #[.int .i64 fn,.int .i64 pc] 147)).heap.size=w.heap.size+2:=by simp
 obtain⟨W,hW⟩:∃ W,W=(w.alloc (.cells #[.slice a0 p.globals.length m0,.slice a1 p.shapes.length m1,.slice a2 p.funcs.length m2] 48)).alloc (.cells #[.int .i64 fn,.int .i64 pc] 147):=⟨_,rfl⟩;rw[← hW] at hbx hz0;have hs:∀ wr,Below W.heap.size W wr→wr.cell? ⟨w.heap.size,0,none⟩=some (.slice a0 p.globals.length m0)∧wr.cell? ⟨w.heap.size,1,none⟩=some (.slice a1 p.shapes.length m1)∧wr.cell? ⟨w.heap.size,2,none⟩=some (.slice a2 p.funcs.length m2)∧wr.cell? ⟨w.heap.size+1,0,none⟩=some (.int .i64 fn)∧wr.cell? ⟨w.heap.size+1,1,none⟩=some (.int .i64 pc):=fun wr h=>by
  rw[hz0] at h;have hb:=hbx wr h;exact⟨hb.1 0 _ rfl,hb.1 1 _ rfl,hb.1 2 _ rfl,hb.2.1 0 _ rfl,hb.2.1 1 _ rfl⟩
 have hbw:∀ wr,Below W.heap.size W wr→Below w.heap.size w wr:=fun wr h=>by rw[hz0] at h;exact(hbx wr h).2.2.1
 have HW:=k_ hW;clear hW hbx hP;have ci:=ci W (hbw W (Below.refl _ _))
 cases hi:iAt p fn pc with
 | none =>
   have hnx:oG p fn pc=[]:=by unfold oG;rw[hi]
   rw[hnx];rw[lL hi] at ci;obtain⟨k0,k1,k2,k3,k4⟩:=hs W (Below.refl _ _);clear hs hPP hi hnx hp hq hD;have CI:=k_ ci;clear ci;have HBW:=k_ hbw;clear hbw
   go_enter Tryz.func162,Tryz.ntmps162
   go_upto_region 1 with fail
   rw[← HW.out];go_wp2_with fail;refine CI.out.mono ?_;rintro e w1 ⟨rfl,hb1⟩;have HB3:=k_ (HBW.out _ hb1);clear hb1;go_wp2_with fail
   go_ret
   exact jg HB3.out
 | some i =>
   have hnx:oG p fn pc=dB i pc:=by unfold oG;rw[hi]
   obtain⟨NL,hNL⟩:∃ NL,NL=dB i pc:=⟨_,rfl⟩;rw[hnx,← hNL];rw[jN hi] at ci;have he:=uZ p ((p.funcs[fn.toNat]?).getD lH) i;obtain⟨j,m,rfl,rfl,hj,hcd⟩:=GG hi;have hmm:m<p.funcs[j].code.length:=by
    rcases Nat.lt_or_ge m p.funcs[j].code.length with h' | h'
    ·exact h'
    ·rw[List.getElem?_eq_none h'] at hcd;cases hcd
   have hm3:=(hq.2.2.2.2 _ (List.getElem_mem hj)).2.2;generalize il p ((p.funcs[((j:Int)).toNat]?).getD lH) i=E at *;obtain⟨_,_,_,_,e1,hfs⟩:=hPP W (hbw W (Below.refl _ _))
   injection e1 with e1 e2 e3
   clear e2 e3;rw[← e1] at hfs;clear e1;obtain⟨bb,o,rfl,_,y0,y1,y2,y3,y4,g0,g1,g2,g3,g4,hfv⟩:=hfs j hj;obtain⟨rfl,rfl,⟨e0,e1,rfl,_⟩,⟨e2,e3,rfl,_⟩,e4,e5,rfl,hcs⟩:=hfv;obtain⟨cb,co,rfl,_,q0,q1,q2,q3⟩:=hcs m hmm;rw[List.getElem?_eq_getElem hmm] at hcd
   injection hcd with hcd
   rw[hcd] at q0 q1 q2 q3;have hj1:(j:Int)<p.funcs.length:=by omega
   have hm1:(m:Int)<(p.funcs[j].code.length:Int):=by omega
   have i1:IntKind.i64.wrap ((m:Int)+1)=(m:Int)+1:=IntWalk.i64_in _ (by omega);clear hPP hi hnx hp hq hD hcs hfs hcd hm3 hmm;generalize p.funcs[j]=f at *;generalize f.code.length=cn at *;generalize f.args.length=an at *;generalize f.objects.length=on at *;generalize f.result=fr at *;generalize f.slots=fs at *;clear hj;obtain⟨xop,xa,xb,xc⟩:=i
   dsimp only at q0 q1 q2 q3
   obtain⟨k0,k1,k2,k3,k4⟩:=hs W (Below.refl _ _);have CI:=k_ ci;clear ci;have HBW:=k_ hbw;clear hbw;have HS:=k_ hs;clear hs;have HNL:=k_ hNL;clear hNL
   go_enter Tryz.func162,Tryz.ntmps162
   go_upto_region 1 with fail
   rw[← HW.out];go_wp2_with fail;refine CI.out.mono ?_;rintro e w1 ⟨rfl,hb1⟩;replace q0:=ae hb1 q0;replace q1:=ae hb1 q1;replace q2:=ae hb1 q2;replace q3:=ae hb1 q3;replace g0:=ae hb1 g0;replace g1:=ae hb1 g1;replace g2:=ae hb1 g2;replace g3:=ae hb1 g3;replace g4:=ae hb1 g4;clear k0 k1 k2 k3 k4;obtain⟨k0,k1,k2,k3,k4⟩:=HS.out w1 hb1;have b0:=World.block_lt k0;have b3:=World.block_lt k3;have bg:=World.block_lt g0;have bq:=World.block_lt q0
   dsimp only at b0 b3 bg bq
   have HB1:=k_ hb1;clear hb1
   go_upto_region 3 with fail
   go_cut [5] (fun s wx=>∃ z:Nat,s=.pointer (some ⟨z,0,none⟩)∧wx.heap[z]?=some (.cells #[.int .i64 xop,.int .i64 xa,.int .i64 xb,.int .i64 xc] 63)∧Below W.heap.size W wx)
   case first =>
    go_region
    all_goals
     go_wp2_with fail
     go_meet
     case rel=>exact⟨_,rfl,ai _ _,(HB1.out.drew).alloc (HB1.out.size) _⟩
   case rest =>
    obtain⟨z,rfl,hz,hRz⟩:=hcut;clear k0 k1 k2 k3 k4 q0 q1 q2 q3 g0 g1 g2 g3 g4;obtain⟨⟨o0,o1,o2,o3⟩,_⟩:=gH hz;obtain⟨_,_,_,k3,k4⟩:=HS.out wc hRz;have HB3:=k_ (HBW.out _ hRz);have o1':=o1;clear hz hRz o1' HB1 CI HBW HS
    by_cases h22:xop=22
    ·subst h22
     have e:NL=[]:=by rw[HNL.out];simp[dB]
     have HE:=k_ e;clear e HNL;go_wp2_with fail
     go_ret
     rw[HE.out];exact jg HB3.out
    by_cases h25:xop=25
    ·subst h25
     have e:NL=[]:=by rw[HNL.out];simp[dB]
     have HE:=k_ e;clear e HNL;go_wp2_with fail
     go_ret
     rw[HE.out];exact jg HB3.out
    by_cases h27:xop=27
    ·subst h27
     have e:NL=[]:=by rw[HNL.out];simp[dB]
     have HE:=k_ e;clear e HNL;go_wp2_with fail
     go_ret
     rw[HE.out];exact jg HB3.out
    by_cases h9:xop=9
    ·subst h9
     have e:NL=[xb]:=by rw[HNL.out];simp[dB, *]
     have HE:=k_ e;clear e HNL;go_wp2_with fail
     go_ret
     rw[HE.out];exact jh HB3.out [xb] #[.int .i64 xb] rfl (by simp)
    by_cases h10:xop=10
    ·subst h10
     by_cases hb:xb=(m:Int)+1
     ·subst hb
      have e:NL=[(m:Int)+1]:=by rw[HNL.out];simp[dB, *]
      have HE:=k_ e;clear e HNL;go_wp2_with fail
      go_ret
      rw[HE.out];exact jh HB3.out [(m:Int)+1] #[.int .i64 ((m:Int)+1)] rfl (by simp)
     ·have hb':(xb == (m:Int)+1)=false:=by simpa using hb
      have hb2:(xb != (m:Int)+1)=true:=by simpa using hb
      have e:NL=[(m:Int)+1,xb]:=by rw[HNL.out];simp[dB, *]
      have HE:=k_ e;clear e HNL;go_wp2_with fail
      go_ret
      rw[HE.out];exact jh HB3.out [(m:Int)+1,xb] #[.int .i64 ((m:Int)+1),.int .i64 xb] rfl (by simp)
    have n22:(xop == 22)=false:=by simpa using h22
    have n25:(xop == 25)=false:=by simpa using h25
    have n27:(xop == 27)=false:=by simpa using h27
    have n9:(xop == 9)=false:=by simpa using h9
    have n10:(xop == 10)=false:=by simpa using h10
    have e:NL=[(m:Int)+1]:=by rw[HNL.out];simp[dB, *]
    have HE:=k_ e;clear e HNL;go_wp2_with fail
    go_ret
    rw[HE.out];exact jh HB3.out [(m:Int)+1] #[.int .i64 ((m:Int)+1)] rfl (by simp)
theorem aQ.wide {w:World} {D D':Nat→Prop} {a:Option Addr} {l:List Int} (h:aQ w D a l) (hd:∀ k,D k→D' k):aQ w D' a l:=fun j hj=>by
 obtain⟨b,o,h1,h2,h3⟩:=h j hj;exact⟨b,o,h1,hd b h2,h3⟩
theorem eH.wide {w:World} {D D':Nat→Prop} {a:Option Addr} {l:List Ins} (h:eH w D a l) (hd:∀ k,D k→D' k):eH w D' a l:=fun j hj=>by
 obtain⟨b,o,h1,h2,h3⟩:=h j hj;exact⟨b,o,h1,hd b h2,h3⟩
theorem dP.wide {w:World} {D D':Nat→Prop} {f:Fun} {c0 c1 c2 c3 c4:Value} (h:dP w D f c0 c1 c2 c3 c4) (hd:∀ k,D k→D' k):dP w D' f c0 c1 c2 c3 c4:=by
 obtain⟨h1,h2,⟨a,c,h3,h4⟩,⟨a',c',h5,h6⟩,a'',c'',h7,h8⟩:=h;exact⟨h1,h2,⟨a,c,h3,h4.wide hd⟩,⟨a',c',h5,h6.wide hd⟩,a'',c'',h7,h8.wide hd⟩
theorem aD.wide {w:World} {D D':Nat→Prop} {p:Prg} {c0 c1 c2:Value} (h:aD w D p c0 c1 c2) (hd:∀ k,D k→D' k):aD w D' p c0 c1 c2:=by
 obtain⟨⟨a,c,h1,h2⟩,⟨a1,c1',h3,h4⟩,a2,c2',h5,h6⟩:=h;refine⟨⟨a,c,h1,h2.wide hd⟩,⟨a1,c1',h3,fun j hj=>?_⟩,a2,c2',h5,fun j hj=>?_⟩
 ·obtain⟨b,o,e1,e2,a',c',e3,e4⟩:=h4 j hj
  exact⟨b,o,e1,hd b e2,a',c',e3,e4.wide hd⟩
 ·obtain⟨b,o,e1,e2,x0,x1,x2,x3,x4,y0,y1,y2,y3,y4,e3⟩:=h6 j hj
  exact⟨b,o,e1,hd b e2,x0,x1,x2,x3,x4,y0,y1,y2,y3,y4,e3.wide hd⟩
def gy (p:Prg) (fn pc:Int) (K:List Int):Int × List Int :=
 match iAt p fn pc with
 | none=>(1,[])
 | some i=>if (K.length:Int)≠(iG p fn.toNat).slots then (1,[]) else if cu p (iG p fn.toNat).result i K then (0,dL p (iG p fn.toNat) i K) else (3,[])
def oU (r:Int × List Int) (w:World) (e:Ending) (w':World):Prop:=∃ v,e=.returned (.tuple #[v,.int .i64 r.1])∧Own aG w' w.heap.size v r.2∧Below w.heap.size w w'
theorem kX {w w':World} (E:Int) (h:Below w.heap.size w w'):oU (E,[]) w (.returned (.tuple #[.slice none 0 0,.int .i64 E])) w':=⟨_,rfl,Own.nil _ _ _,h⟩
theorem vT {w w':World} {v:Value} {L:List Int} (ho:Own aG w' w.heap.size v L) (h:Below w.heap.size w w'):oU (0,L) w (.returned (.tuple #[v,.int .i64 0])) w':=⟨_,rfl,ho,h⟩
theorem Gc (w:World) (D:Nat→Prop) (hD:∀ k,D k→k<w.heap.size) (p:Prg) (c0 c1 c2:Value) (hv:aD w D p c0 c1 c2) (hp:pM p) (hq:qP p) (hf:PrgFit p) (fn pc:Int) (hfn:aJ fn) (hpc:aJ pc) (ka:Option Addr) (K:List Int) (kc:Nat) (hk:aQ w D ka K) (hkl:K.length≤100000) :
  Calls Tryz.prog 164 #[.agg #[c0,c1,c2],.agg #[.int .i64 fn,.int .i64 pc],.slice ka K.length kc] w (oU (gy p fn pc K) w):=by
 have hP:∀ wr,Below w.heap.size w wr→aD wr D p c0 c1 c2:=fun wr hb=>hv.fr (fb_ hb) (fun _ _ h=>h)
 have ci:=fun wr (hb:Below w.heap.size w wr)=>nX wr D p c0 c1 c2 fn pc (fun k hk=>Nat.lt_of_lt_of_le (hD k hk) hb.size) (hP wr hb) hfn hpc (nV hq fn) (lN hq) (tT hp) hq.1.1
 have hPP:=hP;obtain⟨⟨a0,m0,rfl,_⟩,⟨a1,m1,rfl,_⟩,a2,m2,rfl,_⟩:=hv;have hbx:=fun wr h=>nz w #[.slice a0 p.globals.length m0,.slice a1 p.shapes.length m1,.slice a2 p.funcs.length m2] #[.int .i64 fn,.int .i64 pc] 48 147 wr h
 have hz0:((w.alloc (.cells #[.slice a0 p.globals.length m0,.slice a1 p.shapes.length m1,.slice a2 p.funcs.length m2] 48)).alloc (.cells #[.int .i64 fn,.int .i64 pc] 147)).heap.size=w.heap.size+2:=by simp
 obtain⟨W,hW⟩:∃ W,W=(w.alloc (.cells #[.slice a0 p.globals.length m0,.slice a1 p.shapes.length m1,.slice a2 p.funcs.length m2] 48)).alloc (.cells #[.int .i64 fn,.int .i64 pc] 147):=⟨_,rfl⟩;rw[← hW] at hbx hz0;have hs:∀ wr,Below W.heap.size W wr→wr.cell? ⟨w.heap.size,0,none⟩=some (.slice a0 p.globals.length m0)∧wr.cell? ⟨w.heap.size,1,none⟩=some (.slice a1 p.shapes.length m1)∧wr.cell? ⟨w.heap.size,2,none⟩=some (.slice a2 p.funcs.length m2)∧wr.cell? ⟨w.heap.size+1,0,none⟩=some (.int .i64 fn)∧wr.cell? ⟨w.heap.size+1,1,none⟩=some (.int .i64 pc):=fun wr h=>by
  rw[hz0] at h;have hb:=hbx wr h;exact⟨hb.1 0 _ rfl,hb.1 1 _ rfl,hb.1 2 _ rfl,hb.2.1 0 _ rfl,hb.2.1 1 _ rfl⟩
 have hbw:∀ wr,Below W.heap.size W wr→Below w.heap.size w wr:=fun wr h=>by rw[hz0] at h;exact(hbx wr h).2.2.1
 have HW:=k_ hW;clear hW hbx hP;have ci:=ci W (hbw W (Below.refl _ _))
 cases hi:iAt p fn pc with
 | none =>
   have hnx:gy p fn pc K=(1,[]):=by unfold gy;rw[hi]
   rw[hnx];rw[lL hi] at ci;obtain⟨k0,k1,k2,k3,k4⟩:=hs W (Below.refl _ _);clear hs hPP hi hnx hp hq hD hf hk;generalize K.length=kl at *;have CI:=k_ ci;clear ci;have HBW:=k_ hbw;clear hbw
   go_enter Tryz.func164,Tryz.ntmps164
   go_upto_region 1 with fail
   rw[← HW.out];go_wp2_with fail;refine CI.out.mono ?_;rintro e w1 ⟨rfl,hb1⟩;have HB3:=k_ (HBW.out _ hb1);clear hb1;go_wp2_with fail
   go_ret2
   exact kX 1 HB3.out
 | some i =>
   obtain⟨j,m,rfl,rfl,hj,hcd⟩:=GG hi;have hfa:iG p ((j:Int)).toNat=p.funcs[j]:=by unfold iG;simp[hj]
   have hnx:gy p (j:Int) (m:Int) K=if (K.length:Int)≠p.funcs[j].slots then (1,[]) else if cu p p.funcs[j].result i K then (0,dL p p.funcs[j] i K) else (3,[]):=by unfold gy;rw[hi,hfa]
   rw[hnx];rw[jN hi] at ci;have he:=uZ p ((p.funcs[((j:Int)).toNat]?).getD lH) i;have hmm:m<p.funcs[j].code.length:=by
    rcases Nat.lt_or_ge m p.funcs[j].code.length with h' | h'
    ·exact h'
    ·rw[List.getElem?_eq_none h'] at hcd;cases hcd
   have hff:=hf.fn _ (List.getElem_mem hj);have hso:=Am hf (hff.ins m i hcd) (by have:=hff.args;omega);have hzi:=El hq.1.1 hi;have hob:∀ x ∈ p.funcs[j].objects,0≤x∧x<16:=fun x hx=>by have:=di (hff.objs x hx);have:=hf.shapes;omega
   have hm3:=(hq.2.2.2.2 _ (List.getElem_mem hj)).2.2;have hsl:=hff.slots;have hsa:=hff.args;generalize il p ((p.funcs[((j:Int)).toNat]?).getD lH) i=E at *;obtain⟨_,_,_,_,e1,hfs⟩:=hPP W (hbw W (Below.refl _ _))
   injection e1 with e1 e2 e3
   clear e2 e3;rw[← e1] at hfs;clear e1;obtain⟨bb,o,rfl,_,y0,y1,y2,y3,y4,g0,g1,g2,g3,g4,hfv⟩:=hfs j hj;have hfw:=hfv;obtain⟨rfl,rfl,⟨e0,e1,rfl,_⟩,⟨e2,e3,rfl,_⟩,e4,e5,rfl,hcs⟩:=hfv;obtain⟨cb,co,rfl,_,q0,q1,q2,q3⟩:=hcs m hmm;rw[List.getElem?_eq_getElem hmm] at hcd
   injection hcd with hcd
   rw[hcd] at q0 q1 q2 q3;have hj1:(j:Int)<p.funcs.length:=by omega
   have hm1:(m:Int)<(p.funcs[j].code.length:Int):=by omega
   clear hi hnx hp hq hcs hfs hcd hm3 hmm hff hfa hf;generalize p.funcs[j]=f at *;obtain⟨k0,k1,k2,k3,k4⟩:=hs W (Below.refl _ _);have hC0:=hbw W (Below.refl _ _)
   by_cases hkn:(K.length:Int)=f.slots
   ·rw[if_neg (by omega)]
    have hkn2:f.slots.toNat=K.length:=by omega
    rw[hkn2] at hso;have af:=fun W' (h:Below W.heap.size W W')=>uG W' D p f K (.slice a0 p.globals.length m0) (.slice a1 p.shapes.length m1) (.slice (some ⟨bb,o,none⟩) p.funcs.length m2) (.slice e0 f.args.length e1) (.slice e2 f.objects.length e3) (.slice (some ⟨cb,co,none⟩) f.code.length e5) (.slice ka K.length kc) i ⟨hPP W' (hbw W' h),hfw.fr (fb_ h) (fun _ _ h=>h),⟨_,_,rfl,hk.fr (Fr.of_below (hbw W' h) (fun _=>False)) (fun _ _ h=>h)⟩,fun k hk=>Nat.lt_of_lt_of_le (hD k hk) (hbw W' h).size⟩ hso (by omega) hob hzi
    unfold bT at af;have hne:((K.length:Int) != f.slots)=false:=by simpa using hkn
    clear hPP hD hk hfw hso hob hsl hsa hkn2;generalize dL p f i K=KO at *;generalize cu p f.result i K=R at *;obtain⟨SR,hsr⟩:∃ SR:Int × List Int,SR=if R=true then (0,KO) else (3,[]):=⟨_,rfl⟩;rw[← hsr];have HSR:=k_ hsr;clear hsr;generalize f.code.length=cn at *;generalize f.args.length=an at *;generalize f.objects.length=on at *;generalize f.result=fr at *;generalize hfsl:f.slots=fs at *;generalize K.length=kl at *;subst hkn;clear hfsl hj;obtain⟨xop,xa,xb,xc⟩:=i
    dsimp only at q0 q1 q2 q3 af
    have CI:=k_ ci;clear ci;have HBW:=k_ hbw;clear hbw;have HS:=k_ hs;clear hs;have AF:=k_ af;clear af;have HC0:=k_ hC0;clear hC0
    go_enter Tryz.func164,Tryz.ntmps164
    go_upto_region 1 with fail
    rw[← HW.out];go_wp2_with fail;refine CI.out.mono ?_;rintro e w1 ⟨rfl,hb1⟩;replace q0:=ae hb1 q0;replace q1:=ae hb1 q1;replace q2:=ae hb1 q2;replace q3:=ae hb1 q3;replace g0:=ae hb1 g0;replace g1:=ae hb1 g1;replace g2:=ae hb1 g2;replace g3:=ae hb1 g3;replace g4:=ae hb1 g4;clear k0 k1 k2 k3 k4;obtain⟨k0,k1,k2,k3,k4⟩:=HS.out w1 hb1;have b0:=World.block_lt k0;have b3:=World.block_lt k3;have bg:=World.block_lt g0;have bq:=World.block_lt q0
    dsimp only at b0 b3 bg bq
    have HB1:=k_ hb1;clear hb1
    go_upto_region 4 with fail
    have hly:=ai w1 (.cells #[.slice e0 an e1,.int .i64 fr,.int .i64 kl,.slice e2 on e3,.slice (some ⟨cb,co,none⟩) cn e5] 66);have hb2:=HB1.out.alloc HB1.out.size (.cells #[.slice e0 an e1,.int .i64 fr,.int .i64 kl,.slice e2 on e3,.slice (some ⟨cb,co,none⟩) cn e5] 66);have hb12:=(Below.refl w1.heap.size w1).alloc (Nat.le_refl _) (.cells #[.slice e0 an e1,.int .i64 fr,.int .i64 kl,.slice e2 on e3,.slice (some ⟨cb,co,none⟩) cn e5] 66);obtain⟨w2,hw2⟩:∃ w2,w2=w1.alloc (.cells #[.slice e0 an e1,.int .i64 fr,.int .i64 kl,.slice e2 on e3,.slice (some ⟨cb,co,none⟩) cn e5] 66):=⟨_,rfl⟩;rw[← hw2] at hly hb2 hb12 ⊢;obtain⟨⟨z0,z1,z2,z3,z4⟩,_⟩:=aB hly;replace q0:=ae hb12 q0;replace q1:=ae hb12 q1;replace q2:=ae hb12 q2;replace q3:=ae hb12 q3;clear k0 k1 k2 k3 k4 g0 g1 g2 g3 g4 b0 b3 bg bq hly hb12 hw2;obtain⟨k0,k1,k2,k3,k4⟩:=HS.out w2 hb2;have HR0:=k_ hb2.drew;clear hb2
    go_cut [9,10] (fun s9 s10 wx=>s10=.bool R∧Own aG wx w.heap.size s9 KO∧Below w.heap.size w wx)
    case first =>
     have hS:∀ w',Below w2.heap.size w2 w'→w'.cell? ⟨w.heap.size,0,none⟩=some (.slice a0 p.globals.length m0)∧w'.cell? ⟨w.heap.size,1,none⟩=some (.slice a1 p.shapes.length m1)∧w'.cell? ⟨w.heap.size,2,none⟩=some (.slice (some ⟨bb,o,none⟩) p.funcs.length m2)∧w'.cell? ⟨w.heap.size+1,1,none⟩=some (.int .i64 m)∧w'.cell? ⟨w1.heap.size,0,none⟩=some (.slice e0 an e1)∧w'.cell? ⟨w1.heap.size,1,none⟩=some (.int .i64 fr)∧w'.cell? ⟨w1.heap.size,2,none⟩=some (.int .i64 kl)∧w'.cell? ⟨w1.heap.size,3,none⟩=some (.slice e2 on e3)∧w'.cell? ⟨w1.heap.size,4,none⟩=some (.slice (some ⟨cb,co,none⟩) cn e5)∧w'.cell? ⟨cb,co+m * 4,none⟩=some (.int .i64 xop)∧w'.cell? ⟨cb,co+m * 4+1,none⟩=some (.int .i64 xa)∧w'.cell? ⟨cb,co+m * 4+2,none⟩=some (.int .i64 xb)∧w'.cell? ⟨cb,co+m * 4+3,none⟩=some (.int .i64 xc):=fun w' h=>⟨ae h k0,ae h k1,ae h k2,ae h k4,ae h z0,ae h z1,ae h z2,ae h z3,ae h z4,ae h q0,ae h q1,ae h q2,ae h q3⟩
     have hSd:=hS w2.drew (Below.refl w2.heap.size w2).drew;have HSS:=k_ hS;clear hS k0 k1 k2 k3 k4 z0 z1 z2 z3 z4 q0 q1 q2 q3
     go_region_held3 (fun w'=>w'.cell? ⟨w.heap.size,0,none⟩=some (.slice a0 p.globals.length m0)∧w'.cell? ⟨w.heap.size,1,none⟩=some (.slice a1 p.shapes.length m1)∧w'.cell? ⟨w.heap.size,2,none⟩=some (.slice (some ⟨bb,o,none⟩) p.funcs.length m2)∧w'.cell? ⟨w.heap.size+1,1,none⟩=some (.int .i64 m)∧w'.cell? ⟨w1.heap.size,0,none⟩=some (.slice e0 an e1)∧w'.cell? ⟨w1.heap.size,1,none⟩=some (.int .i64 fr)∧w'.cell? ⟨w1.heap.size,2,none⟩=some (.int .i64 kl)∧w'.cell? ⟨w1.heap.size,3,none⟩=some (.slice e2 on e3)∧w'.cell? ⟨w1.heap.size,4,none⟩=some (.slice (some ⟨cb,co,none⟩) cn e5)∧w'.cell? ⟨cb,co+m * 4,none⟩=some (.int .i64 xop)∧w'.cell? ⟨cb,co+m * 4+1,none⟩=some (.int .i64 xa)∧w'.cell? ⟨cb,co+m * 4+2,none⟩=some (.int .i64 xb)∧w'.cell? ⟨cb,co+m * 4+3,none⟩=some (.int .i64 xc)) (first | with_reducible exact hSd | with_reducible exact hS7 | go_keep) (first
      | (go_at_call 161
         refine(AF.out _ HR0.out).mono ?_;rintro e w3 ⟨v,rfl,ho3,hb3⟩;have hS7:=HSS.out w3 ((Below.refl w2.heap.size w2).drew.trans hb3);have HO3:=k_ (ho3.base (fun k hk=>Nat.le_trans (Nat.le_trans HC0.out.size HR0.out.size) (ho3.lt hk).1));have HB3:=k_ (HBW.out _ (HR0.out.trans (hb3.mono HR0.out.size)));clear ho3 hb3))
     all_goals
      go_wp2_with fail
      go_meet
      exact⟨rfl,HO3.out,HB3.out⟩
    case rest =>
     obtain⟨rfl,ho,hb⟩:=hcut;have HO:=k_ ho;have HB:=k_ hb;clear ho hb k0 k1 k2 k3 k4 q0 q1 q2 q3
     cases R
     ·have e:=HSR.out
      rw[if_neg (by decide)] at e;subst e;clear HSR;go_wp2_with fail
      go_ret2
      exact kX 3 HB.out
     ·have e:=HSR.out
      rw[if_pos (by first | rfl | trivial)] at e;subst e;clear HSR;go_wp2_with fail
      go_ret2
      exact vT HO.out HB.out
   ·rw[if_pos hkn]
    have hne:((K.length:Int) != f.slots)=true:=by simpa using hkn
    clear hPP hD hk hfw hso hob hsl hsa hkn;generalize f.code.length=cn at *;generalize f.args.length=an at *;generalize f.objects.length=on at *;generalize f.result=fr at *;generalize f.slots=fs at *;generalize K.length=kl at *;clear hj;obtain⟨xop,xa,xb,xc⟩:=i
    dsimp only at q0 q1 q2 q3
    have CI:=k_ ci;clear ci;have HBW:=k_ hbw;clear hbw;have HS:=k_ hs;clear hs;have HC0:=k_ hC0;clear hC0
    go_enter Tryz.func164,Tryz.ntmps164
    go_upto_region 1 with fail
    rw[← HW.out];go_wp2_with fail;refine CI.out.mono ?_;rintro e w1 ⟨rfl,hb1⟩;replace g0:=ae hb1 g0;replace g1:=ae hb1 g1;replace g2:=ae hb1 g2;replace g3:=ae hb1 g3;replace g4:=ae hb1 g4;clear k0 k1 k2 k3 k4 q0 q1 q2 q3;obtain⟨k0,k1,k2,k3,k4⟩:=HS.out w1 hb1;have HB3:=k_ (HBW.out _ hb1);clear hb1;go_wp2_with fail
    go_ret2
    exact kX 1 HB3.out
open Go.Maps
theorem qy (w:World):(zeroValue 44).run Tryz.prog w=.ok (.slice none 0 0) w:=by first | rfl | kernel_rfl
def plA (x:Pl):Value:=.agg #[.int .i64 x.1.1,.int .i64 x.1.2]
theorem vO:Tryz.prog.underlying 187=some (.map plK.k 44):=Tryz.underlying187
def dV (w:World) (b n:Nat) (V:Nat→Prop) (C:Pl→Option (List Int)):Prop :=
 ∃ g:Pl→Option Hd,bf plK Hd.val w b n g∧∀ x,(C x=none→g x=none)∧∀ K,C x=some K→∃ a c,g x=some ⟨a,K.length,c⟩∧aQ w V a K
theorem dV.lt {w:World} {b n:Nat} {V:Nat→Prop} {C:Pl→Option (List Int)} (h:dV w b n V C):b<w.heap.size:=let ⟨_,h,_⟩:=h;h.lt
theorem dV.fr {F:Nat→Prop} {w w':World} {b n:Nat} {V:Nat→Prop} {C:Pl→Option (List Int)} (h:dV w b n V C) (hf:Fr F w w') (hb:¬ F b) (hV:∀ k,V k→¬ F k):dV w' b n V C:=by
 obtain⟨g,h1,h2⟩:=h;refine⟨g,h1.fr hf hb,fun x=>⟨(h2 x).1,fun K hK=>?_⟩⟩;obtain⟨a,c,h3,h4⟩:=(h2 x).2 K hK;exact⟨a,c,h3,h4.fr hf hV⟩
theorem dV.wide {w:World} {b n:Nat} {V V':Nat→Prop} {C:Pl→Option (List Int)} (h:dV w b n V C) (hV:∀ k,V k→V' k):dV w b n V' C:=by
 obtain⟨g,h1,h2⟩:=h;refine⟨g,h1,fun x=>⟨(h2 x).1,fun K hK=>?_⟩⟩;obtain⟨a,c,h3,h4⟩:=(h2 x).2 K hK;exact⟨a,c,h3,h4.wide hV⟩
theorem dV.made (w:World) (V:Nat→Prop):dV (w.alloc (.map #[] 0)) w.heap.size 0 V (fun _=>none) :=
 ⟨fun _=>none,bf.made plK Hd.val w,fun x=>⟨fun _=>rfl,fun K h=>by cases h⟩⟩
theorem dV.none_run {w:World} {b n:Nat} {V:Nat→Prop} {C:Pl→Option (List Int)} (h:dV w b n V C) (x:Pl) (hx:C x=none) :
  (Instr.lookup 187 (.map (some b)) (plA x) true).run Tryz.prog w=.ok (.tuple #[.slice none 0 0,.bool false]) w∧(Instr.lookup 187 (.map (some b)) (plA x) false).run Tryz.prog w=.ok (.slice none 0 0) w:=by
 obtain⟨g,h1,h2⟩:=h;have hl:=(h1.look vO (qy w) x trivial).2 ((h2 x).1 hx);exact⟨hl.2,hl.1⟩
theorem dV.some_run {w:World} {b n:Nat} {V:Nat→Prop} {C:Pl→Option (List Int)} (h:dV w b n V C) (x:Pl) (K:List Int) (hx:C x=some K):∃ a c,aQ w V a K ∧
  (Instr.lookup 187 (.map (some b)) (plA x) true).run Tryz.prog w=.ok (.tuple #[.slice a K.length c,.bool true]) w∧(Instr.lookup 187 (.map (some b)) (plA x) false).run Tryz.prog w=.ok (.slice a K.length c) w:=by
 obtain⟨g,h1,h2⟩:=h;obtain⟨a,c,h3,h4⟩:=(h2 x).2 K hx;have hl:=(h1.look vO (qy w) x trivial).1 _ h3;exact⟨a,c,h4,hl.2,hl.1⟩
theorem dV.put {w:World} {b n:Nat} {V:Nat→Prop} {C:Pl→Option (List Int)} (h:dV w b n V C) (hn:n<maxLen) (x:Pl) (a:Option Addr) (K:List Int) (c:Nat) (hs:aQ w V a K) (hV:∀ k,V k→k≠b) :
  ∃ w',(Instr.mapUpdate 187 (.map (some b)) (plA x) (.slice a K.length c)).run Tryz.prog w=.ok () w'∧dV w' b (if (C x).isSome then n else n+1) V (upd C x (some K))∧w.mapTurned w' b:=by
 obtain⟨g,h1,h2⟩:=h;obtain⟨w',hr,h3,h4⟩:=h1.put vO hn x trivial (⟨a,K.length,c⟩:Hd);have hgC:(g x).isSome=(C x).isSome:=by
  cases hc:C x with
  | none=>rw[(h2 x).1 hc];rfl
  | some K' =>
    obtain⟨a',c',h5,_⟩:=(h2 x).2 K' hc;rw[h5]
    rfl
 rw[hgC] at h3;have hf:=bi h4;refine⟨w',hr,⟨_,h3,fun y=>?_⟩,h4⟩;unfold upd
 by_cases hy:y=x
 ·rw[if_pos hy,if_pos hy]
  refine⟨fun h=>(by cases h),fun K' hK'=>?_⟩
  injection hK' with e
  subst e;exact⟨a,c,rfl,hs.fr hf hV⟩
 ·rw[if_neg hy,if_neg hy]
  refine⟨(h2 y).1,fun K' hK'=>?_⟩;obtain⟨a',c',h5,h6⟩:=(h2 y).2 K' hK';exact⟨a',c',h5,h6.fr hf hV⟩
def Que (w:World) (B:Nat) (v:Value) (l:List Int):Prop :=
 (∃ a,v=.slice a 0 0∧l=[]∧∀ k,v.ownBlock=some k→B≤k∧k<w.heap.size) ∨
 ∃ g pre c,v=.slice (some ⟨g,pre.length,none⟩) l.length c∧l.length≤c∧Own aG w B (.slice (some ⟨g,0,none⟩) (pre ++ l).length (pre.length+c)) (pre ++ l)
theorem Que.nil (w:World) (B:Nat):Que w B (.slice none 0 0) []:=.inl ⟨none,rfl,rfl,fun k h=>by cases h⟩
theorem Que.own {w:World} {B g c:Nat} {l:List Int} (hc:l.length≤c) (h:Own aG w B (.slice (some ⟨g,0,none⟩) l.length c) l):Que w B (.slice (some ⟨g,0,none⟩) l.length c) l :=
 .inr ⟨g,[],c,rfl,hc,by simpa using h⟩
theorem Que.lt {w:World} {B:Nat} {v:Value} {l:List Int} (h:Que w B v l) {k:Nat} (hk:v.ownBlock=some k):B≤k∧k<w.heap.size:=by
 rcases h with⟨a,rfl,rfl,h⟩ | ⟨g,pre,c,rfl,_,h⟩
 ·exact h k hk
 ·exact h.lt (k:=k) (by simpa[Value.ownBlock] using hk)
theorem Que.fr {F:Nat→Prop} {w w':World} {B:Nat} {v:Value} {l:List Int} (h:Que w B v l) (hf:Fr F w w') (hn:∀ k,v.ownBlock=some k→¬ F k):Que w' B v l:=by
 rcases h with⟨a,rfl,rfl,h⟩ | ⟨g,pre,c,rfl,hc,h⟩
 ·exact .inl ⟨a,rfl,rfl,fun k hk=>⟨(h k hk).1,Nat.lt_of_lt_of_le (h k hk).2 hf.size⟩⟩
 ·exact .inr ⟨g,pre,c,rfl,hc,h.fr hf (fun k hk=>hn k (by simpa[Value.ownBlock] using hk))⟩
theorem Que.slice {w:World} {B:Nat} {v:Value} {l:List Int} (h:Que w B v l):∃ a c,v=.slice a l.length c:=by
 rcases h with⟨a,rfl,rfl,_⟩ | ⟨g,pre,c,rfl,_⟩
 ·exact⟨a,0,rfl⟩
 ·exact⟨_,c,rfl⟩
theorem Que.first {w:World} {B:Nat} {v:Value} {x:Int} {l:List Int} (h:Que w B v (x :: l)) :
  ∃ g o c,v=.slice (some ⟨g,o,none⟩) (x :: l).length c∧w.cell? ⟨g,o,none⟩=some (.int .i64 x)∧v.ownBlock=some g ∧
   ∃ v',Que w B v' l∧(∀ k,v'.ownBlock=some k→v.ownBlock=some k)∧∀ wx:World,(Instr.slice 44 v (some (.int .i64 1)) none none).run Tryz.prog wx=.ok v' wx:=by
 rcases h with⟨a,rfl,h0,_⟩ | ⟨g,pre,c,rfl,hc,h⟩
 ·cases h0
 ·obtain⟨a,c',hv,hsl⟩:=bI h
  injection hv with e1 e2 e3
  subst e1;obtain⟨b,o,hb,_,hx⟩:=hsl pre.length (by simp)
  injection hb with hb
  injection hb with hb1 hb2
  subst hb1 hb2;rw[Nat.zero_add] at hx;have hl1:(x :: l).length=l.length+1:=rfl;refine⟨g,pre.length,c,rfl,by simpa using hx,rfl,?_⟩;have hrun:∀ wx:World,(Instr.slice 44 (.slice (some ⟨g,pre.length,none⟩) (x :: l).length c) (some (.int .i64 1)) none none).run Tryz.prog wx=.ok (.slice (if c=1 then some ⟨g,pre.length,none⟩ else some ⟨g,pre.length+1,none⟩) l.length (c - 1)) wx:=fun wx=>by
   have hsz:(Tryz.prog.info? 3).map (·.size)=some 1:=by kernel_rfl
   obtain⟨i0,hi,hz0,hz1,hz2⟩:=info_parts aG.info;have hz1:i0.size=1:=hz1;have hi:Tryz.prog.info? 3=some i0:=hi;have hz:(sizeOf 3).run Tryz.prog wx=.ok 1 wx:=by simp[sizeOf,typeInfo,hi,hz1]
   have ha:(⟨g,pre.length,none⟩:Addr).add 1=⟨g,pre.length+1,none⟩:=addr_add _ rfl 1;have h01:(0:Int)≤1∧(1:Int)≤(l.length:Int)+1:=by omega
   simp[Instr.slice,run_underlying Tryz.underlying44,Instr.sliceBounds,Instr.sliceBound,hz,asIntOf,ha,h01]
  by_cases h1:c=1
  ·have hl0:l=[]:=List.length_eq_zero_iff.1 (by omega)
   subst hl0;refine⟨.slice (some ⟨g,pre.length,none⟩) 0 0,.inl ⟨_,rfl,rfl,fun k hk=>h.lt (k:=k) (by simpa[Value.ownBlock] using hk)⟩,fun k hk=>hk,fun wx=>?_⟩;rw[hrun wx,if_pos h1,h1]
   rfl
  ·refine⟨.slice (some ⟨g,pre.length+1,none⟩) l.length (c - 1),.inr ⟨g,pre ++ [x],c - 1,by simp,by omega,?_⟩,fun k hk=>hk,fun wx=>?_⟩
   ·have e:pre ++ [x] ++ l=pre ++ x :: l:=by simp
    rw[e,show (pre ++ [x]).length+(c - 1)=pre.length+c from by simp;omega];exact h
   ·rw[hrun wx,if_neg h1]
theorem Que.append {w:World} {B:Nat} {v:Value} {l:List Int} (h:Que w B v l) (hB:B≤w.heap.size) (ty:TypeId) (x:Int) (b c:Nat) (hx:w.cell? ⟨b,0,none⟩=some (.int .i64 x)) (hl:l.length≤1000000) :
  ∃ v' w',(Builtin.append_ #[44,44] ty #[v,.slice (some ⟨b,0,none⟩) 1 c]).run Tryz.prog w=.ok v' w'∧Que w' B v' (l ++ [x])∧w.grownBy w' v.ownBlock∧eO w v v':=by
 obtain⟨i0,hi,hz0,hz1,hz2⟩:=info_parts aG.info;have hz1:i0.size=1:=hz1;have hne:∀ j u,[Value.int .i64 x][j]?=some u→w.cell? ((⟨b,0,none⟩:Addr).add j)=some u:=fun j u hj=>by
  match j,hj with
  | 0,hj =>
    simp at hj
    subst hj;exact hx
 have h1c:∀ u ∈ [Value.int .i64 x],u.oneCell'=true:=fun u hu=>by simp at hu;subst hu;rfl
 have hfl:∀ m:List Int,m.flatMap aG.enc=m.map (Value.int .i64):=fun m=>by
  induction m with
  | nil=>rfl
  | cons y m ih=>rw[List.flatMap_cons,ih];rfl
 have grown:∀ (v':Value) (w':World),w'.ownsRow w.heap.size 3 1 v' (l.length+1) (l.map (Value.int .i64) ++ [.int .i64 x])→Que w' B v' (l ++ [x])∧∀ k,v'.ownBlock=some k→w.heap.size≤k:=fun v' w' ho=>by
  have ho2:Own aG w' w.heap.size v' (l ++ [x]):=by
   unfold Own;rw[hfl,List.map_append,List.length_append];exact ho
  refine⟨?_,fun k hk=>(ho2.lt hk).1⟩
  rcases id ho2.2 with⟨_,h0⟩ | ⟨g,cap,cur,rfl,_,_,hc,_⟩
  ·simp at h0
  ·exact Que.own (by simpa using hc) (ho2.base (fun k hk=>Nat.le_trans hB (ho2.lt hk).1))
 have hby:(l.length+1) * i0.bytes≤140737488355328:=by
  have h1:=aG.hby;have h2:(l.length+1) * aG.bytes≤1000001 * 1000:=Nat.mul_le_mul (by omega) h1;rw[hz2]
  omega
 rcases h with⟨a,rfl,rfl,hk⟩ | ⟨g,pre,cap,rfl,hc,ho⟩
 ·cases a with
  | none =>
    obtain⟨v',w',hr,h2,h3,h4⟩:=iD aG w ty w.heap.size [] [x] (.slice none 0 0) (Own.nil _ _ _) b 0 c (fun j u hj=>by
     match j,hj with
     | 0,hj=>simp[aG] at hj;subst hj;exact hx) (by simp) (Nat.le_refl _)
    refine⟨v',w',hr,(grown v' w' (by have:=h2;unfold Own at this;rw[hfl] at this;exact this)).1,h3,h4⟩
  | some a =>
    obtain⟨v',w',hr,h2,h3⟩:=run_append_arg_grows (P:=Tryz.prog) w 44 ty 3 i0 aG.zero 1 i0.bytes Tryz.underlying44 hi hz0 hz1 rfl rfl (by decide) a 0 0 [] rfl (fun j u hj=>by cases hj) ⟨b,0,none⟩ 1 c [.int .i64 x] rfl hne (by decide) (by unfold maxLen;omega) (by simpa using hby);have hg:=grown v' w' h2;refine⟨v',w',hr,hg.1,?_,fun k hk=>.inr (hg.2 k hk)⟩;exact⟨h3.os,h3.tape,h3.output,h3.size,fun k hk hn=>h3.block k hk (fun e=>by cases e)⟩
 ·have hcells:∀ j u,((pre ++ l).map (Value.int .i64))[j]?=some u→w.cell? ⟨g,j,none⟩=some u:=fun j u hj=>by
   have:=World.ownsRow.cells (g:=g) (show w.ownsRow B aG.e aG.size _ _ _ from ho) rfl j u (by rw[hfl];exact hj);rw[addr_add _ rfl] at this
   simpa using this
  by_cases hroom:l.length+1≤cap
  ·have hlen:(pre ++ l).length=pre.length+l.length:=List.length_append
   obtain⟨ho1,ho2⟩:=ho
   rcases ho2 with⟨hv,_⟩ | ⟨g',cap',cur,hv,hbg,hg,hnc,hcm,hcs,htake⟩
   ·cases hv
   injection hv with e1 e2 e3
   injection e1 with e1
   injection e1 with e1
   subst e1 e3;have hcs:cur.size=(pre.length+cap) * 1:=hcs;have hin:∀ j,j<1→(w.cell? ⟨g,(pre ++ l).length * i0.size+j,none⟩).isSome=true∧w.frozen? ⟨g,(pre ++ l).length * i0.size+j,none⟩=false:=fun j hj=>by
    refine⟨?_,(aa hg _).2⟩;rw[(aa hg _).1,Array.getElem?_eq_getElem (by rw[hz1];omega)]
    rfl
   have hr4:=run_append_room_cells (P:=Tryz.prog) w 44 ty 3 i0 Tryz.underlying44 hi g pre.length l.length cap ⟨b,0,none⟩ 1 c [.int .i64 x] (by rw[hz1];rfl) hne h1c (by omega) (fun j hj=>by rw[show pre.length+l.length * i0.size=(pre ++ l).length * i0.size from by rw[hz1];omega];exact(hin j hj).1) (fun j hj=>by rw[show pre.length+l.length * i0.size=(pre ++ l).length * i0.size from by rw[hz1];omega];exact(hin j hj).2);rw[show pre.length+l.length * i0.size=(pre ++ l).length from by rw[hz1];omega] at hr4;have hsc:w.setCells g (pre ++ l).length [.int .i64 x]=w.setCell ⟨g,(pre ++ l).length,none⟩ (.int .i64 x):=rfl;rw[hsc] at hr4;have hgrow:w.grownBy (w.setCell ⟨g,(pre ++ l).length,none⟩ (.int .i64 x)) (Value.slice (some ⟨g,pre.length,none⟩) l.length cap).ownBlock:=⟨rfl,rfl,rfl,by simp[World.setCell],fun k hk hn=>Below.heap_setCell _ _ _ _ (fun e=>hn (by rw[e];rfl))⟩;refine⟨_,_,hr4,.inr ⟨g,pre,cap,by simp,by simpa using hroom,?_⟩,hgrow,fun k hk=>.inl (by simpa[Value.ownBlock] using hk)⟩;have hl3:(pre ++ l ++ [x]).length=(pre ++ l).length+1:=by rw[List.length_append];rfl
   rw[show pre ++ (l ++ [x])=pre ++ l ++ [x] from by simp];refine⟨by rw[aG.len],.inr ⟨g,pre.length+cap,cur.setIfInBounds (pre ++ l).length (.int .i64 x),rfl,hbg,?_,by omega,hcm,by rw[Array.size_setIfInBounds];exact hcs,?_⟩⟩
   ·simp only[World.setCell,Array.getElem?_modify,if_pos rfl,hg,Option.map]
    rfl
   ·rw[hfl,List.map_append,← hfl,hl3]
    have hsz:aG.size=1:=rfl;rw[hsz,Nat.mul_one] at htake ⊢;rw[Array.toList_setIfInBounds];have hlt:(pre ++ l).length<cur.toList.length:=by simp only[Array.length_toList];omega
    rw[List.take_add_one,List.take_set_of_le (Nat.le_refl _),htake,List.getElem?_set_self hlt]
    rfl
  ·obtain⟨v',w',hr,h2,h3⟩:=run_append_arg_grows (P:=Tryz.prog) w 44 ty 3 i0 aG.zero 1 i0.bytes Tryz.underlying44 hi hz0 hz1 rfl rfl (by decide) ⟨g,pre.length,none⟩ l.length cap (l.map (Value.int .i64)) (by simp) (fun j u hj=>by
    rw[addr_add _ rfl];exact hcells (pre.length+j) u (by
     rw[List.map_append,List.getElem?_append_right (by simp),List.length_map,Nat.add_sub_cancel_left];exact hj)) ⟨b,0,none⟩ 1 c [.int .i64 x] rfl hne (by omega) (by unfold maxLen;omega) hby
   have hg:=grown v' w' h2;exact⟨v',w',hr,hg.1,⟨h3.os,h3.tape,h3.output,h3.size,fun k hk hn=>h3.block k hk (fun e=>by cases e)⟩,fun k hk=>.inr (hg.2 k hk)⟩
end Go.Proofs.YtlofbhoicbemnaaGreatDoor
