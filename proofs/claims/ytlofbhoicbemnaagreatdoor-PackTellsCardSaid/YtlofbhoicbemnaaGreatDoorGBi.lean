/- Walk: kinds are brought to a place. A function's flow, step by step, plainly; rows that are made and copied into. What holds while a .. -/
import Derived.Test.YtlofbhoicbemnaaGreatDoorGBh
import Derived.Laws.IdiomCopy
set_option linter.unusedVariables false
set_option linter.unusedSimpArgs false
set_option maxRecDepth 100000
set_option maxHeartbeats 6400000
namespace Go.Proofs.YtlofbhoicbemnaaGreatDoor
open Go.ChangeShapes Go.WideShapes Go.ChangeAt Go.RowKit Go.Maps
theorem E8 {w:World} {ops:Array Oper} {rest:List Oper} {o:Oper} {a:Act} {Q:Exit→Act→World→Prop} (hgd:o.guard=none) (s x:Operand)
  (ho:o.op=.call { callee:=.builtin .append,args:=#[s,x],argTypes:=#[44,44] })
  (B:Nat) (l:List Int) (v:Value) (hs:a.eval s=v) (hq:Que w B v l) (z:Int) (b c:Nat) (hx:a.eval x=.slice (some ⟨b,0,none⟩) 1 c)
  (hc:w.cell? ⟨b,0,none⟩=some (.int .i64 z)) (hl:l.length≤1000000) (hB:B≤w.heap.size)
  (h:∀ v' w',Que w' B v' (l ++ [z])→w.grownBy w' v.ownBlock→eO w v v'→wpList Tryz.prog ops Q rest (a.put o.dst v') w'):wpList Tryz.prog ops Q (o :: rest) a w:=by
 refine wpList_plain hgd fun K' hK'=>?_
 obtain⟨v',w',hr,h2,h3,h4⟩:=hq.append hB o.type z b c hc hl;unfold Oper.wp
 simp[execOp,ho,resolve,invoke,builtin,hs,hx,hr,Result.andThen]
 exact hK' _ _ (h v' w' h2 h3 h4)
structure WalkV (w:World) (B wb b n:Nat) (V:Nat→Prop) (c0 c1 c2:Value) (fn:Int) (C:Pl→Option (List Int)) (tv:Value) (l:List Int):Prop where
 row:w.heap[wb]?=some (.cells #[c0,c1,c2,.int .i64 fn,.map (some b),tv] 190)
 map:dV w b n V C
 que:Que w B tv l
 vlo:∀ k,V k→B≤k∧k<w.heap.size∧k≠wb∧k≠b∧tv.ownBlock≠some k
 bs:B≤wb∧B≤b∧wb≠b∧tv.ownBlock≠some wb∧tv.ownBlock≠some b
def WF (wb b:Nat) (tv:Value):Nat→Prop:=fun k=>k=wb∨k=b∨tv.ownBlock=some k
def Ap (o:Option (List Int)) (K:List Int):List Int:=match o with | none=>K | some was=>joinL was K
def lF (o:Option (List Int)) (K:List Int):Bool:=match o with | none=>true | some was=>!decide (was=joinL was K)
theorem WalkV.cells {w:World} {B wb b n:Nat} {V:Nat→Prop} {c0 c1 c2:Value} {fn:Int} {C:Pl→Option (List Int)} {tv:Value} {l:List Int} (h:WalkV w B wb b n V c0 c1 c2 fn C tv l) {w':World} (hf:w'.heap[wb]?=w.heap[wb]?) :
  w'.cell? ⟨wb,0,none⟩=some c0∧w'.cell? ⟨wb,1,none⟩=some c1∧w'.cell? ⟨wb,2,none⟩=some c2∧w'.cell? ⟨wb,3,none⟩=some (.int .i64 fn)∧w'.cell? ⟨wb,4,none⟩=some (.map (some b))∧w'.cell? ⟨wb,5,none⟩=some tv∧w'.frozen? ⟨wb,5,none⟩=false:=by
 have hr:=h.row;rw[← hf] at hr;exact⟨(aa hr 0).1,(aa hr 1).1,(aa hr 2).1,(aa hr 3).1,(aa hr 4).1,(aa hr 5).1,(aa hr 5).2⟩
theorem WalkV.fr {F:Nat→Prop} {w w':World} {B wb b n:Nat} {V:Nat→Prop} {c0 c1 c2:Value} {fn:Int} {C:Pl→Option (List Int)} {tv:Value} {l:List Int} (h:WalkV w B wb b n V c0 c1 c2 fn C tv l) (hf:Fr F w w') (h1:¬ F wb) (h2:¬ F b) (h3:∀ k,V k→¬ F k) (h4:∀ k,tv.ownBlock=some k→¬ F k):WalkV w' B wb b n V c0 c1 c2 fn C tv l :=
 ⟨hf.heap h.row h1,h.map.fr hf h2 h3,h.que.fr hf h4,fun k hk=>by obtain⟨a1,a2,a3⟩:=h.vlo k hk;have:=hf.size;exact⟨a1,by omega,a3⟩,h.bs⟩
theorem WalkV.below {w w':World} {B wb b n:Nat} {V:Nat→Prop} {c0 c1 c2:Value} {fn:Int} {C:Pl→Option (List Int)} {tv:Value} {l:List Int} (h:WalkV w B wb b n V c0 c1 c2 fn C tv l) (hb:Below w.heap.size w w'):WalkV w' B wb b n V c0 c1 c2 fn C tv l :=
 h.fr (fb_ hb) (fun h=>h) (fun h=>h) (fun _ _ h=>h) (fun _ _ h=>h)
theorem xX {w w2 w3 w4:World} {B wb b n n':Nat} {V:Nat→Prop} {c0 c1 c2:Value} {fn:Int} {C C':Pl→Option (List Int)} {tv tv' v:Value} {l N:List Int} {x:Int} {ob:Obj} (h:WalkV w B wb b n V c0 c1 c2 fn C tv l) (hB:B≤w.heap.size)
  (hb2:Below w.heap.size w w2) (ho:Own aG w2 w.heap.size v N) (hm:dV w3 b n' (fun k=>V k∨v.ownBlock=some k) C') (ht:w2.mapTurned w3 b) (hg:(w3.alloc ob).grownBy w4 tv.ownBlock) (hq:Que w4 B tv' (l ++ [x])) (hfr:eO (w3.alloc ob) tv tv') :
  WalkV (w4.setCell ⟨wb,5,none⟩ tv') B wb b n' (fun k=>V k∨v.ownBlock=some k) c0 c1 c2 fn C' tv' (l ++ [x])∧Fr (WF wb b tv) w (w4.setCell ⟨wb,5,none⟩ tv')∧(∀ k,tv'.ownBlock=some k→tv.ownBlock=some k∨w.heap.size≤k):=by
 obtain⟨b1,b2,b3,b4,b5⟩:=h.bs;have hwb:=aj h.row;have hbl:=h.map.lt;have f23:=bi ht;have f3a:=(Fr.refl (fun _=>False) w3).alloc ob;have s2:=hb2.size;have s3:=f23.size;have sa:(w3.alloc ob).heap.size=w3.heap.size+1:=by simp
 have s4:=hg.size;have f34:Fr (fun k=>tv.ownBlock=some k) w3 w4:=((Fr.refl (fun k=>tv.ownBlock=some k) w3).alloc ob).grown hg (fun k hk _=>hk);have f45:Fr (fun k=>k=wb) w4 (w4.setCell ⟨wb,5,none⟩ tv'):=(Fr.refl (fun k=>k=wb) w4).setCell (p:=⟨wb,5,none⟩) (fun _=>rfl) tv';have f24:Fr (WF wb b tv) w2 w4:=(f23.mono (G:=WF wb b tv) (fun k hk=>.inr (.inl hk))).trans f34 (fun k _ hk=>.inr (.inr hk));have f25:Fr (WF wb b tv) w2 (w4.setCell ⟨wb,5,none⟩ tv'):=f24.trans f45 (fun k _ hk=>.inl hk);have r2:=(fb_ hb2).heap h.row (fun h=>h);have r3:=f23.heap r2 (fun e=>b3 e);have r4:=f34.heap r3 b4;have r5:=ag r4 5 tv';have hvb:∀ k,v.ownBlock=some k→w.heap.size≤k∧k<w2.heap.size:=fun k hk=>ho.lt hk
 have htl:∀ k,tv.ownBlock=some k→B≤k∧k<w.heap.size:=fun k hk=>h.que.lt hk
 have htn:∀ k,tv'.ownBlock=some k→tv.ownBlock=some k∨w3.heap.size+1≤k:=fun k hk=>(hfr k hk).elim .inl (fun e=>.inr (by omega))
 have hVk:∀ k,(V k∨v.ownBlock=some k)→B≤k∧k<w2.heap.size∧k≠wb∧k≠b∧tv.ownBlock≠some k:=fun k hk=>by
  rcases hk with hk | hk
  ·obtain⟨a1,a2,a3,a4,a5⟩:=h.vlo k hk
   exact⟨a1,by omega,a3,a4,a5⟩
  ·have:=hvb k hk
   exact⟨by omega,this.2,by omega,by omega,fun e=>by have:=htl k e;omega⟩
 refine⟨⟨r5,?_,hq.fr f45 (fun k hk e=>by subst e;exact(htn k hk).elim b4 (fun e=>by omega)),fun k hk=>?_,b1,b2,b3,fun e=>(htn _ e).elim b4 (fun e=>by omega),fun e=>(htn _ e).elim b5 (fun e=>by omega)⟩,?_,fun k hk=>(htn k hk).elim .inl (fun e=>.inr (by omega))⟩
 ·exact(hm.fr f34 b5 (fun k hk=>(hVk k hk).2.2.2.2)).fr f45 (fun e=>b3 e.symm) (fun k hk e=>(hVk k hk).2.2.1 e)
 ·obtain⟨a1,a2,a3,a4,a5⟩:=hVk k hk
  have:=f45.size;have:=f34.size;exact⟨a1,by omega,a3,a4,fun e=>(htn k e).elim a5 (fun e=>by omega)⟩
 ·exact(Fr.of_below hb2 (WF wb b tv)).trans f25 (fun _ _ h=>h)
def uf (w:World) (B wb b n:Nat) (V:Nat→Prop) (c0 c1 c2:Value) (fn:Int) (C:Pl→Option (List Int)) (tv:Value) (l:List Int) (at':Pl) (K:List Int) (e:Ending) (w':World):Prop :=
 e=.returned (.tuple #[])∧∃ V' tv',WalkV w' B wb b (if (C at').isSome then n else n+1) V' c0 c1 c2 fn (upd C at' (some (Ap (C at') K))) tv' (if lF (C at') K then l ++ [at'.1.2] else l)∧Fr (WF wb b tv) w w'∧(∀ k,tv'.ownBlock=some k→tv.ownBlock=some k∨w.heap.size≤k)
theorem yo (w:World) (B wb b n:Nat) (V:Nat→Prop) (c0 c1 c2:Value) (fn:Int) (C:Pl→Option (List Int)) (tv:Value) (l:List Int) (h:WalkV w B wb b n V c0 c1 c2 fn C tv l) (hB:B≤w.heap.size) (pc:Int) (hpl:aJ fn∧aJ pc) (D:Nat→Prop) (ka:Option Addr) (K:List Int) (kc:Nat) (hk:aQ w D ka K) (hKl:K.length≤100000) (hCl:∀ x K',C x=some K'→K'.length≤100000) (hn:n<maxLen) (hl:l.length≤1000000) :
  Calls Tryz.prog 160 #[.pointer (some ⟨wb,0,none⟩),.int .i64 pc,.slice ka K.length kc] w (uf w B wb b n V c0 c1 c2 fn C tv l ⟨(fn,pc),hpl⟩ K):=by
 obtain⟨at',hat⟩:∃ at':Pl,at'=⟨(fn,pc),hpl⟩:=⟨_,rfl⟩;have hplA:plA at'=.agg #[.int .i64 fn,.int .i64 pc]:=by rw[hat];rfl
 have hpc:at'.1.2=pc:=by rw[hat]
 rw[← hat];clear hat;have hb1:=(Below.refl w.heap.size w).alloc (Nat.le_refl _) (.cells #[.int .i64 fn,.int .i64 pc] 147);have hly:=ai w (.cells #[.int .i64 fn,.int .i64 pc] 147);obtain⟨j0,j1,j2,j3,j4,j5,j6⟩:=h.cells rfl;obtain⟨y,hy⟩:∃ y,y=w.heap.size:=⟨_,rfl⟩;obtain⟨w1,hw1⟩:∃ w1,w1=w.alloc (.cells #[.int .i64 fn,.int .i64 pc] 147):=⟨_,rfl⟩;rw[← hw1] at hb1 hly;rw[← hy] at hly;have hsz1:w.heap.size≤w1.heap.size:=hb1.size;obtain⟨⟨y0,y1⟩,_⟩:(w1.cell? ⟨y,0,none⟩=some (.int .i64 fn)∧w1.cell? ⟨y,1,none⟩=some (.int .i64 pc))∧True:=⟨⟨(aa hly 0).1,(aa hly 1).1⟩,trivial⟩;have h1:=h.below hb1;have hk1:=hk.fr (fb_ hb1) (fun _ _ h=>h);have HH:=k_ h;have HHB:=k_ hB;have HN:=k_ hn;have HL:=k_ hl;have HPC:=k_ hpc;have HPLA:=k_ hplA;have HW1:=k_ hw1;have HYY:=k_ hy;obtain⟨k0,k1,k2,k3,k4,k5,k6⟩:=h1.cells rfl
 cases ho:C at' with
 | none =>
   have hlkd:(Instr.lookup 187 (.map (some b)) (.agg #[.int .i64 fn,.int .i64 pc]) true).run Tryz.prog w1.drew=.ok (.tuple #[.slice none 0 0,.bool false]) w1.drew:=by
    have:=((h1.below ((Below.refl w1.heap.size w1).drew)).map.none_run at' ho).1;rw[hplA] at this;exact this
   obtain⟨o,hoo⟩:∃ o:Option (List Int),o=none:=⟨_,rfl⟩;obtain⟨NW,hNN⟩:∃ NW:List Int,NW=K:=⟨_,rfl⟩;have hOC:C at'=o:=by rw[ho,hoo]
   have hNW:Ap o K=NW:=by rw[hoo,hNN];rfl
   have hCG:lF o K=true:=by rw[hoo];rfl
   clear hoo ho h1 hly hplA hw1 hy hpc;have hcl:Calls Tryz.prog 108 #[.slice ka K.length kc] w1.drew.drew fun e w'=>∃ v,e=.returned v∧Own aG w' w1.drew.drew.heap.size v NW∧Below w1.drew.drew.heap.size w1.drew.drew w':=by
    rw[hNN];exact bX w1.drew.drew _ ka K kc (show aQ w1.drew.drew D ka K from hk1) (by omega)
   have HBX:=k_ (show Below w.heap.size w w1.drew from hb1.drew);have HY0:=k_ (show w1.drew.drew.cell? ⟨y,0,none⟩=some (.int .i64 fn) from y0);have HY1:=k_ (show w1.drew.drew.cell? ⟨y,1,none⟩=some (.int .i64 pc) from y1);have HNN:=k_ hNN;clear h hB hn hl hk hk1 hCl hNN hb1 hsz1;have HCL:=k_ hcl;clear hcl;have HOC:=k_ hOC;clear hOC;have HNW:=k_ hNW;clear hNW;have HCG:=k_ hCG;clear hCG
   go_enter Tryz.func160,Tryz.ntmps160
   go_upto_region 1 with fail
   rw[← HYY.out,← HW1.out];clear j0 j1 j2 j3 j4 j5 j6
   go_cut [7,8] (fun s7 s8 wx=>s7=.slice none 0 0∧s8=.bool false∧wx=w1.drew)
   case first =>
    go_region_law (fail)
    all_goals
     go_wp2_with fail
     go_meet
     exact⟨rfl,rfl,rfl⟩
   case rest =>
    obtain⟨rfl,rfl,rfl⟩:=hcut;clear hlkd;replace k0:w1.drew.cell? _=_:=k0;replace k1:w1.drew.cell? _=_:=k1;replace k2:w1.drew.cell? _=_:=k2;replace k3:w1.drew.cell? _=_:=k3;replace k4:w1.drew.cell? _=_:=k4;replace k5:w1.drew.cell? _=_:=k5;replace y0:w1.drew.cell? _=_:=y0;replace y1:w1.drew.cell? _=_:=y1;obtain⟨wD,hwD⟩:∃ wD,wD=w1.drew:=⟨_,rfl⟩;rw[← hwD] at k0 k1 k2 k3 k4 k5 y0 y1 HCL HBX HY0 HY1 ⊢;clear hwD HW1
    go_upto_region 6 with fail
    go_cut [] (fun wx=>∃ v w2,Below w.heap.size w w2∧Own aG w2 w.heap.size v NW∧dV wx b (if o.isSome=true then n else n+1) (fun k=>V k∨v.ownBlock=some k) (upd C at' (some NW))∧w2.mapTurned wx b)
    case first =>
     go_region_law (first
      | (go_simp
         go_at_call 108
         refine HCL.out.mono ?_;rintro e w2 ⟨v,rfl,ho2,hb2⟩;obtain⟨va,vc,rfl,hvs⟩:=bI ho2;have hbx2:=hb2;have hb2:=HBX.out.drew.trans (hb2.mono HBX.out.size);have hk2:w2.cell? ⟨wb,4,none⟩=some (.map (some b)):=ae hb2 (HH.out.cells rfl).2.2.2.2.1;have hk3:w2.cell? ⟨y,0,none⟩=some (.int .i64 fn):=ae hbx2 HY0.out;have hk4:w2.cell? ⟨y,1,none⟩=some (.int .i64 pc):=ae hbx2 HY1.out;have ho2:=ho2.base (B':=w.heap.size) (fun k hk=>Nat.le_trans HBX.out.size (ho2.lt hk).1);have HO2:=k_ ho2;have HB2:=k_ hb2;have HM2:=k_ ((HH.out.below hb2).map.wide (V':=fun k=>V k∨(Value.slice va NW.length vc).ownBlock=some k) (fun k hk=>.inl hk));have HVS:=k_ (hvs.wide (D':=fun k=>V k∨(Value.slice va NW.length vc).ownBlock=some k) (fun k hk=>.inr hk));have HVB:=k_ (show ∀ k,(V k∨(Value.slice va NW.length vc).ownBlock=some k)→k≠b from fun k hk=>hk.elim (fun h=>(HH.out.vlo k h).2.2.2.1) (fun h=>by have:=(HO2.out.lt h).1;have:=HH.out.map.lt;omega));obtain⟨w3,hrun,hm3,ht3⟩:=HM2.out.put HN.out at' va NW vc HVS.out HVB.out;rw[HPLA.out] at hrun;clear ho2 hb2 hvs hbx2))
     all_goals
      clear hrun;have hoo:(if (C at').isSome then n else n+1)=if o.isSome=true then n else n+1:=by rw[HOC.out]
      rw[hoo] at hm3;have HM3:=k_ hm3;have HT3:=k_ ht3;clear hm3 ht3 hoo;go_wp2_with fail
      go_meet
      exact⟨_,_,HB2.out,HO2.out,HM3.out,HT3.out⟩
    case rest =>
     obtain⟨v,w2,hb2,ho2,hm3,ht3⟩:=hcut;have r3:=(bi ht3).heap ((fb_ hb2).heap HH.out.row (fun h=>h)) (fun e=>HH.out.bs.2.2.1 e);obtain⟨k0,k1,k2,k3,k4,k5,k6⟩:=HH.out.cells (r3.trans HH.out.row.symm);have q3:Que wc B tv l:=(HH.out.que.fr (fb_ hb2) (fun _ _ h=>h)).fr (bi ht3) (fun k hk e=>HH.out.bs.2.2.2.2 (by rw[← e];exact hk));have hsz:B≤wc.heap.size:=by have:=hb2.size;have:=(bi ht3).size;have:=HHB.out;omega
     have q4:=q3.fr ((Fr.refl (fun _=>False) wc).alloc (.cells #[.int .i64 pc] 3)) (fun _ _ h=>h);have hwl:=aj r3;have HB2:=k_ hb2;clear hb2;have HO2:=k_ ho2;clear ho2;have HM3:=k_ hm3;clear hm3;have HT3:=k_ ht3;clear ht3;have Q3:=k_ q3;clear q3;have Q4:=k_ q4;clear q4;have HSZ:=k_ hsz;clear hsz
     go_wp2_with (at_builtin;refine E8 rfl (.tmp 49) (.tmp 51) rfl B l tv rfl Q4.out pc wc.heap.size 1 rfl (aI _ _ _ _ 0) HL.out ?c1 ?_)
     case c1=>have:=HSZ.out;simp;omega
     intro v5 w5 hq5 hg5 hf5;obtain⟨f1,f2,f3⟩:=xX HH.out HHB.out HB2.out HO2.out HM3.out HT3.out hg5 hq5 hf5;have r5:=((Fr.refl (fun k=>tv.ownBlock=some k) wc).alloc (.cells #[.int .i64 pc] 3)).grown hg5 (fun k hk _=>hk) |>.heap r3 HH.out.bs.2.2.2.1
     have k7:w5.cell? ⟨wb,5,none⟩=some tv:=(aa r5 5).1;have k8:w5.frozen? ⟨wb,5,none⟩=false:=(aa r5 5).2;obtain⟨va5,vc5,hv5⟩:=hq5.slice;obtain⟨ln,hln⟩:∃ ln,ln=(l ++ [pc]).length:=⟨_,rfl⟩;rw[← hln] at hv5;clear hln;subst hv5;clear k0 k1 k2 k3 k4 k5 k6 hq5 hg5 hf5 r3 r5 hwl;have F1:=k_ f1;clear f1;have F2:=k_ f2;clear f2;have F3:=k_ f3;clear f3;go_wp2_with fail
     go_end0
     exact⟨rfl,_,_,by rw[HOC.out,HNW.out,HCG.out,if_pos rfl,HPC.out];exact F1.out,F2.out,F3.out⟩
 | some was =>
   obtain⟨wa,wc',hws,hlk,_⟩:=(h1.below ((Below.refl w1.heap.size w1).drew)).map.some_run at' was ho;rw[hplA] at hlk;obtain⟨J,hJ⟩:∃ J,J=joinL was K:=⟨_,rfl⟩;have hwl:=hCl _ _ ho;have hJl:J.length≤100000:=by rw[hJ,fT];omega
   have hjo:=FL w1.drew _ _ wa ka was K wc' kc hws (show aQ w1.drew D ka K from hk1) hwl hKl;rw[← hJ] at hjo;obtain⟨o,hoo⟩:∃ o:Option (List Int),o=some was:=⟨_,rfl⟩;have hOC:C at'=o:=by rw[ho,hoo]
   have hNW:Ap o K=J:=by rw[hoo,hJ];rfl
   have hCG:lF o K=!decide (was=J):=by rw[hoo,hJ];rfl
   have hos:o.isSome=true:=by rw[hoo];rfl
   have HSAME:=k_ (show was=J→upd C at' (some J)=C from fun e=>by
    funext x
    unfold upd
    by_cases hx:x=at'
    ·rw[if_pos hx,hx,ho,e]
    ·rw[if_neg hx])
   clear hoo ho h1 hly hplA hw1 hy hpc hJ;have HBX:=k_ (show Below w.heap.size w w1.drew from hb1.drew);have HY0:=k_ (show w1.drew.cell? ⟨y,0,none⟩=some (.int .i64 fn) from y0);have HY1:=k_ (show w1.drew.cell? ⟨y,1,none⟩=some (.int .i64 pc) from y1);have HWS:=k_ hws;have HKL:=k_ hKl;have HJL:=k_ hJl;have HWL:=k_ hwl;have hlk':(Instr.lookup 187 (.map (some b)) (.agg #[.int .i64 fn,.int .i64 pc]) true).run Tryz.prog w1.drew=.ok (.tuple #[.slice wa was.length wc',.bool true]) w1.drew:=hlk;clear h hB hn hl hk hk1 hCl hb1 hsz1 hws hlk hJl hwl;have HJO:=k_ hjo;clear hjo;have HOC:=k_ hOC;clear hOC;have HNW:=k_ hNW;clear hNW;have HCG:=k_ hCG;clear hCG;have HOS:=k_ hos;clear hos
   go_enter Tryz.func160,Tryz.ntmps160
   go_upto_region 1 with fail
   rw[← HYY.out,← HW1.out];clear j0 j1 j2 j3 j4 j5 j6
   go_cut [7,8] (fun s7 s8 wx=>s7=.slice wa was.length wc'∧s8=.bool true∧wx=w1.drew)
   case first =>
    go_region_law (fail)
    all_goals
     go_wp2_with fail
     go_meet
     exact⟨rfl,rfl,rfl⟩
   case rest =>
    obtain⟨rfl,rfl,rfl⟩:=hcut;clear hlk' k0 k1 k2 k3 k4 k5 k6 y0 y1 hKl;obtain⟨wD,hwD⟩:∃ wD,wD=w1.drew:=⟨_,rfl⟩;rw[← hwD] at HBX HY0 HY1 HJO HWS ⊢;clear hwD HW1;go_wp2_with fail;refine HJO.out.mono ?_;rintro e w2 ⟨v,rfl,ho2,hb2⟩;obtain⟨ja,jc,rfl,hjs⟩:=bI ho2;have eq:=Hy w2 _ _ wa ja was J wc' jc (HWS.out.fr (fb_ hb2) (fun _ _ h=>h)) hjs (by have:=HWL.out;omega) (by have:=HJL.out;omega);have hb3:=HBX.out.trans (hb2.mono HBX.out.size);have y0:=ae hb2 HY0.out;have y1:=ae hb2 HY1.out;have HO2:=k_ ho2;have HJS:=k_ hjs;clear ho2 hjs hb2 HJO HWS
    by_cases hE:was=J
    ·rw[show decide (was=J)=true from by simp[hE]] at eq
     have hu:=HSAME.out hE;have hcg:lF o K=false:=by rw[HCG.out];simp[hE]
     clear hE HSAME;have EQ:=k_ eq;clear eq;have HU:=k_ hu;clear hu;have HCG:=k_ hcg;clear hcg;have HB3:=k_ hb3;clear hb3;go_wp2_with fail;refine EQ.out.mono ?_;rintro e w3 ⟨rfl,m3,rfl⟩;have hh:=HH.out.below (below_drewN HB3.out m3);have hf:=Fr.of_below (below_drewN HB3.out m3) (WF wb b tv);have HH2:=k_ hh;have HF:=k_ hf;clear hh hf;go_wp2_with fail
     go_end0
     exact⟨rfl,V,tv,by rw[HOC.out,HNW.out,HCG.out,HU.out,HOS.out,if_pos rfl,if_neg (by decide)];exact HH2.out,HF.out,fun k hk=>.inl hk⟩
    ·rw[show decide (was=J)=false from by simp[hE]] at eq
     have hcg:lF o K=true:=by rw[HCG.out];simp[hE]
     clear hE HSAME;have HEQ:=k_ eq;have HB3:=k_ hb3;clear eq HCG hb3;have HCG:=k_ hcg;clear hcg;go_wp2_with fail;refine HEQ.out.mono ?_;rintro e w3 ⟨rfl,m3,rfl⟩;obtain⟨NW,hNN⟩:∃ NW:List Int,NW=J:=⟨_,rfl⟩;have hcl:Calls Tryz.prog 108 #[.slice ja J.length jc] (w2.drewN m3).drew fun e w'=>∃ v,e=.returned v∧Own aG w' (w2.drewN m3).drew.heap.size v NW∧Below (w2.drewN m3).drew.heap.size (w2.drewN m3).drew w':=by
      rw[hNN];exact bX (w2.drewN m3).drew _ ja J jc (show aQ (w2.drewN m3).drew _ ja J from HJS.out) (by have:=HJL.out;omega)
     have hnw:Ap o K=NW:=by rw[HNW.out,hNN]
     have HBX:=k_ (below_drewN HB3.out m3);have hcell:=fun a v (h:w2.cell? a=some v)=>(show (w2.drewN m3).cell? a=some v from h)
     obtain⟨k0,k1,k2,k3,k4,k5,k6⟩:=(HH.out.below HB3.out).cells rfl;replace k0:=hcell _ _ k0;replace k1:=hcell _ _ k1;replace k2:=hcell _ _ k2;replace k3:=hcell _ _ k3;replace k4:=hcell _ _ k4;replace k5:=hcell _ _ k5;replace y0:=hcell _ _ y0;replace y1:=hcell _ _ y1;have HY0:=k_ (show (w2.drewN m3).drew.cell? ⟨y,0,none⟩=some (.int .i64 fn) from y0);have HY1:=k_ (show (w2.drewN m3).drew.cell? ⟨y,1,none⟩=some (.int .i64 pc) from y1);clear k6 HNW hNN hcell;have HCL:=k_ hcl;clear hcl;have HNW:=k_ hnw;clear hnw;obtain⟨wE,hwE⟩:∃ wE,wE=w2.drewN m3:=⟨_,rfl⟩;rw[← hwE] at k0 k1 k2 k3 k4 k5 y0 y1 HCL HBX HY0 HY1 ⊢;clear hwE HB3 HEQ
     go_upto_region 6 with fail
     go_cut [] (fun wx=>∃ v w2,Below w.heap.size w w2∧Own aG w2 w.heap.size v NW∧dV wx b (if o.isSome=true then n else n+1) (fun k=>V k∨v.ownBlock=some k) (upd C at' (some NW))∧w2.mapTurned wx b)
     case first =>
      go_region_law (first
       | (go_simp
          go_at_call 108
          refine HCL.out.mono ?_;rintro e w2 ⟨v,rfl,ho2,hb2⟩;obtain⟨va,vc,rfl,hvs⟩:=bI ho2;have hbx2:=hb2;have hb2:=HBX.out.drew.trans (hb2.mono HBX.out.size);have hk2:w2.cell? ⟨wb,4,none⟩=some (.map (some b)):=ae hb2 (HH.out.cells rfl).2.2.2.2.1;have hk3:w2.cell? ⟨y,0,none⟩=some (.int .i64 fn):=ae hbx2 HY0.out;have hk4:w2.cell? ⟨y,1,none⟩=some (.int .i64 pc):=ae hbx2 HY1.out;have ho2:=ho2.base (B':=w.heap.size) (fun k hk=>Nat.le_trans HBX.out.size (ho2.lt hk).1);have HO2:=k_ ho2;have HB2:=k_ hb2;have HM2:=k_ ((HH.out.below hb2).map.wide (V':=fun k=>V k∨(Value.slice va NW.length vc).ownBlock=some k) (fun k hk=>.inl hk));have HVS:=k_ (hvs.wide (D':=fun k=>V k∨(Value.slice va NW.length vc).ownBlock=some k) (fun k hk=>.inr hk));have HVB:=k_ (show ∀ k,(V k∨(Value.slice va NW.length vc).ownBlock=some k)→k≠b from fun k hk=>hk.elim (fun h=>(HH.out.vlo k h).2.2.2.1) (fun h=>by have:=(HO2.out.lt h).1;have:=HH.out.map.lt;omega));obtain⟨w3,hrun,hm3,ht3⟩:=HM2.out.put HN.out at' va NW vc HVS.out HVB.out;rw[HPLA.out] at hrun;clear ho2 hb2 hvs hbx2))
      all_goals
       clear hrun;have hoo:(if (C at').isSome then n else n+1)=if o.isSome=true then n else n+1:=by rw[HOC.out]
       rw[hoo] at hm3;have HM3:=k_ hm3;have HT3:=k_ ht3;clear hm3 ht3 hoo;go_wp2_with fail
       go_meet
       exact⟨_,_,HB2.out,HO2.out,HM3.out,HT3.out⟩
     case rest =>
      obtain⟨v,w2,hb2,ho2,hm3,ht3⟩:=hcut;have r3:=(bi ht3).heap ((fb_ hb2).heap HH.out.row (fun h=>h)) (fun e=>HH.out.bs.2.2.1 e);obtain⟨k0,k1,k2,k3,k4,k5,k6⟩:=HH.out.cells (r3.trans HH.out.row.symm);have q3:Que wc B tv l:=(HH.out.que.fr (fb_ hb2) (fun _ _ h=>h)).fr (bi ht3) (fun k hk e=>HH.out.bs.2.2.2.2 (by rw[← e];exact hk));have hsz:B≤wc.heap.size:=by have:=hb2.size;have:=(bi ht3).size;have:=HHB.out;omega
      have q4:=q3.fr ((Fr.refl (fun _=>False) wc).alloc (.cells #[.int .i64 pc] 3)) (fun _ _ h=>h);have hwl:=aj r3;have HB2:=k_ hb2;clear hb2;have HO2:=k_ ho2;clear ho2;have HM3:=k_ hm3;clear hm3;have HT3:=k_ ht3;clear ht3;have Q3:=k_ q3;clear q3;have Q4:=k_ q4;clear q4;have HSZ:=k_ hsz;clear hsz
      go_wp2_with (at_builtin;refine E8 rfl (.tmp 49) (.tmp 51) rfl B l tv rfl Q4.out pc wc.heap.size 1 rfl (aI _ _ _ _ 0) HL.out ?c1 ?_)
      case c1=>have:=HSZ.out;simp;omega
      intro v5 w5 hq5 hg5 hf5;obtain⟨f1,f2,f3⟩:=xX HH.out HHB.out HB2.out HO2.out HM3.out HT3.out hg5 hq5 hf5;have r5:=((Fr.refl (fun k=>tv.ownBlock=some k) wc).alloc (.cells #[.int .i64 pc] 3)).grown hg5 (fun k hk _=>hk) |>.heap r3 HH.out.bs.2.2.2.1
      have k7:w5.cell? ⟨wb,5,none⟩=some tv:=(aa r5 5).1;have k8:w5.frozen? ⟨wb,5,none⟩=false:=(aa r5 5).2;obtain⟨va5,vc5,hv5⟩:=hq5.slice;obtain⟨ln,hln⟩:∃ ln,ln=(l ++ [pc]).length:=⟨_,rfl⟩;rw[← hln] at hv5;clear hln;subst hv5;clear k0 k1 k2 k3 k4 k5 k6 hq5 hg5 hf5 r3 r5 hwl;have F1:=k_ f1;clear f1;have F2:=k_ f2;clear f2;have F3:=k_ f3;clear f3;go_wp2_with fail
      go_end0
      exact⟨rfl,_,_,by rw[HOC.out,HNW.out,HCG.out,if_pos rfl,HPC.out];exact F1.out,F2.out,F3.out⟩
theorem yX {R:Nat→Prop} (n:Nat) (h:R n):∃ k,R k∧∀ m,R m→k≤m:=by
 induction n using Nat.strongRecOn with
 | _ n ih =>
   by_cases hl:∃ m,m<n∧R m
   ·obtain⟨m,h1,h2⟩:=hl
    exact ih m h1 h2
   ·exact⟨n,h,fun m hm=>Nat.le_of_not_lt (fun hlt=>hl ⟨m,hlt,hm⟩)⟩
open Classical in
noncomputable def pQ (R:Nat→Prop):Nat:=if h:∃ k,R k∧∀ m,R m→k≤m then Classical.choose h else 0
theorem yf {R:Nat→Prop} (h:∃ n,R n):R (pQ R):=by
 obtain⟨n,hn⟩:=h;have h:=yX n hn;unfold pQ;rw[dif_pos h];exact(Classical.choose_spec h).1
theorem CV {R:Nat→Prop} {n:Nat} (hn:R n):pQ R≤n:=by
 have h:=yX n hn;unfold pQ;rw[dif_pos h];exact(Classical.choose_spec h).2 n hn
def gq (C:Pl→Option (List Int)) (j:Nat) (M:Flo):Pl→Option (List Int):=fun x=>if x.1.1=j then (if 0≤x.1.2 then M x.1.2.toNat else none) else C x
theorem lY (C:Pl→Option (List Int)) (j:Nat) (M:Flo) (q:Nat) (h:aJ (j:Int)∧aJ (q:Int)):gq C j M ⟨((j:Int),(q:Int)),h⟩=M q:=by
 unfold gq
 simp
theorem sV (C:Pl→Option (List Int)) (j:Nat) (M:Flo) (q:Nat) (K:List Int) (h:aJ (j:Int)∧aJ (q:Int)):upd (gq C j M) ⟨((j:Int),(q:Int)),h⟩ (some (Ap (M q) K))=gq C j (dm M q K):=by
 funext x
 obtain⟨⟨x1,x2⟩,hx⟩:=x;unfold upd gq dm Ap
 by_cases h1:x1=(j:Int)
 ·subst h1
  by_cases h2:0≤x2
  ·by_cases h3:x2=(q:Int)
   ·subst h3
    rw[if_pos rfl]
    simp
    cases M q <;> rfl
   ·have h4:x2.toNat≠q:=by omega
    rw[if_neg (by intro e;injection e with e;injection e with _ e;exact h3 e)]
    simp[h2,h4]
  ·rw[if_neg (by intro e;injection e with e;injection e with _ e;omega)]
   simp[h2]
 ·rw[if_neg (by intro e;injection e with e;injection e with e;exact h1 e)]
  simp[h1]
theorem yz (C:Pl→Option (List Int)) (j:Nat) (hC:∀ x:Pl,x.1.1=j→C x=none):gq C j (fun _=>none)=C:=by
 funext x
 unfold gq
 by_cases h:x.1.1=j
 ·rw[if_pos h,hC x h]
  split <;> rfl
 ·rw[if_neg h]
theorem yN (M:Flo) (q:Nat) (K:List Int):lF (M q) K=true↔changes M q K:=by
 unfold lF changes
 cases h:M q with
 | none=>simp
 | some was =>
   simp only[Bool.not_eq_true',decide_eq_false_iff_not];exact⟨fun h1 was' h2 e=>by injection h2 with h2;subst h2;exact h1 e.symm,fun h1 e=>h1 was rfl e.symm⟩
theorem FInv.from' {p:Prg} {f:Fun} {M:Flo} {Q:List Nat} {pc m0:Nat} {K0:List Int} {i:Ins} {rem:List Int} (h:FInv p f M (fun q m=>q ∈ Q∨(q=pc∧m ∈ (m0:Int) :: rem))) (h0:M pc=some K0∨pc ∈ Q) (hi:f.code[pc]?=some i) (hm:m0<f.code.length)
  (hK:(dL p f i K0).length=f.slots.toNat) (hlow:∀ S,Sol p f S→∃ L,S m0=some L∧Le L (dL p f i K0)) :
  FInv p f (dm M m0 (dL p f i K0)) (fun q m=>q ∈ (if lF (M m0) (dL p f i K0) then Q ++ [m0] else Q)∨(q=pc∧m ∈ rem))∧(dm M m0 (dL p f i K0) pc=some K0∨pc ∈ (if lF (M m0) (dL p f i K0) then Q ++ [m0] else Q)):=by
 obtain⟨h1,L,hL,hle⟩:=h.come m0 _ hm hK hlow;have hQ:∀ q,q ∈ Q→q ∈ (if lF (M m0) (dL p f i K0) then Q ++ [m0] else Q):=fun q hq=>by
  split
  ·exact List.mem_append_left _ hq
  ·exact hq
 have hC:changes M m0 (dL p f i K0)→m0 ∈ (if lF (M m0) (dL p f i K0) then Q ++ [m0] else Q):=fun hc=>by
  rw[if_pos ((yN _ _ _).2 hc)]
  simp
 have hpc:dm M m0 (dL p f i K0) pc=some K0∨pc ∈ (if lF (M m0) (dL p f i K0) then Q ++ [m0] else Q):=by
  rcases h0 with h0 | h0
  ·by_cases hc:changes M m0 (dL p f i K0)
   ·by_cases e:pc=m0
    ·exact .inr (e ▸ hC hc)
    ·exact .inl (by rw[dC e];exact h0)
   ·exact .inl (by rw[rR hc];exact h0)
  ·exact .inr (hQ _ h0)
 refine⟨⟨h1.low,h1.first,h1.len,fun q K' i' hq hi' m hm1 hml hn=>?_⟩,hpc⟩
 by_cases hP:(q ∈ Q∨(q=pc∧(m:Int) ∈ (m0:Int) :: rem))∨(q=m0∧changes M m0 (dL p f i K0))
 ·rcases hP with (hP | ⟨e1,e2⟩) | ⟨e1,e2⟩
  ·exact absurd (.inl (hQ q hP)) hn
  ·rcases List.mem_cons.1 e2 with e3 | e3
   ·have e3:m=m0:=by omega
    subst e3 e1
    rcases hpc with h2 | h2
    ·rw[h2] at hq
     injection hq with hq
     subst hq;rw[hi] at hi'
     injection hi' with hi'
     subst hi';exact⟨L,hL,hle⟩
    ·exact absurd (.inl h2) hn
   ·exact absurd (.inr ⟨e1,e3⟩) hn
  ·exact absurd (.inl (e1 ▸ hC e2)) hn
 ·exact h1.step q K' i' hq hi' m hm1 hml hP
theorem FInv.skip {p:Prg} {f:Fun} {M:Flo} {Q:List Nat} {pc:Nat} {m0:Int} {rem:List Int} (h:FInv p f M (fun q m=>q ∈ Q∨(q=pc∧m ∈ m0 :: rem))) (hm:¬ m0<f.code.length):FInv p f M (fun q m=>q ∈ Q∨(q=pc∧m ∈ rem)) :=
 ⟨h.low,h.first,h.len,fun q K' i' hq hi' m hm1 hml hn=>h.step q K' i' hq hi' m hm1 hml (fun hP=>by
  rcases hP with hP | ⟨e1,e2⟩
  ·exact hn (.inl hP)
  ·rcases List.mem_cons.1 e2 with e3 | e3
   ·omega
   ·exact hn (.inr ⟨e1,e3⟩))⟩
theorem FInv.pop {p:Prg} {f:Fun} {M:Flo} {Q:List Nat} {pc:Nat} {NL:List Int} {i:Ins} (h:FInv p f M (fun q _=>q ∈ pc :: Q)) (hi:f.code[pc]?=some i) (hN:dB i pc=NL):FInv p f M (fun q m=>q ∈ Q∨(q=pc∧m ∈ NL)) :=
 ⟨h.low,h.first,h.len,fun q K' i' hq hi' m hm1 hml hn=>h.step q K' i' hq hi' m hm1 hml (fun hP=>by
  rcases List.mem_cons.1 hP with e | e
  ·subst e
   rw[hi] at hi'
   injection hi' with hi'
   subst hi';exact hn (.inr ⟨rfl,hN ▸ hm1⟩)
  ·exact hn (.inl e))⟩
theorem zh {q:Nat} {t:TypeId}:∀ (vs:List Value) (w:World) (o:Nat) (cs:List Value),w.heap[q]?=some (.cells cs.toArray t)→o+vs.length≤cs.length→(w.setCells q o vs).heap[q]?=some (.cells (cs.take o ++ vs ++ cs.drop (o+vs.length)).toArray t)
 | [],w,o,cs,h,_=>by
   simp only[World.setCells,List.length_nil,Nat.add_zero,List.append_nil,List.take_append_drop];exact h
 | v :: vs,w,o,cs,h,hl=>by
   have hl:o+(vs.length+1)≤cs.length:=hl;have h1:=ag h o v;have e1:cs.toArray.setIfInBounds o v=(cs.set o v).toArray:=by simp
   rw[e1] at h1;have h2:=zh vs (w.setCell ⟨q,o,none⟩ v) (o+1) (cs.set o v) h1 (by simp;omega);have e2:(cs.set o v).take (o+1)=cs.take o ++ [v]:=by
    rw[List.take_add_one,List.take_set_of_le (Nat.le_refl _),List.getElem?_set_self (by omega)]
    rfl
   have e3:(cs.set o v).drop (o+1+vs.length)=cs.drop (o+(v :: vs).length):=by
    rw[List.drop_set_of_lt (by omega)]
    congr 1
    simp
    omega
   rw[e2,e3] at h2
   show ((w.setCell ⟨q,o,none⟩ v).setCells q (o+1) vs).heap[q]?=_
   rw[h2]
   simp
theorem oN {q:Nat}:∀ (vs:List Value) (w:World) (o:Nat),Fr (onB q) w (w.setCells q o vs)
 | [],w,o=>Fr.refl _ _
 | v :: vs,w,o=>((Fr.refl (onB q) w).setCell (p:=⟨q,o,none⟩) (fun _=>rfl) v).trans (oN vs _ _) (fun _ _ h=>h)
def eu (l:List Int):List Value:=l.map (Value.int .i64)
theorem IA (w:World) (n:Nat) (hn:n≤100000):(Instr.makeSlice 44 (.int .i64 n) (.int .i64 n)).run Tryz.prog w=.ok (.slice (some ⟨w.heap.size,0,none⟩) n n) (w.alloc (.cells (eu (List.replicate n 0)).toArray 3)):=by
 obtain⟨i0,hi,hz0,hz1,hz2⟩:=info_parts aG.info;have h:=run_makeSlice (P:=Tryz.prog) (w:=w) 44 3 i0 (.int .i64 0) Tryz.underlying44 hi hz0 .i64 .i64 (n:Int) (n:Int) (by omega) (Int.le_refl _) (by rw[hz1];show (n:Int).toNat * 1≤16777216;omega) (by rw[hz2];show (8:Int) * (n:Int)≤281474976710656;omega) (by omega);rw[h];simp only[Int.toNat_natCast,hz1];have e:madeCells (Value.int .i64 0).cells (n * aG.size)=(eu (List.replicate n 0)).toArray:=by
  show madeCells #[Value.int .i64 0] (n * 1)=_
  unfold madeCells eu
  apply Array.ext
  ·simp
  ·intro i h1 h2
   simp[Nat.mod_one]
 rw[e]
theorem H6 (w:World) (ty:TypeId) (g n:Nat) (R:List Int) (hR:R.length=n) (hrow:w.heap[g]?=some (.cells (eu R).toArray 3)) (D:Nat→Prop) (xa:Option Addr) (l:List Int) (c:Nat) (hl:aQ w D xa l) (hln:l.length≤n) :
  ∃ w',(Builtin.copy_ #[44,44] ty #[.slice (some ⟨g,0,none⟩) n n,.slice xa l.length c]).run Tryz.prog w=.ok (goInt l.length) w'∧w'.heap[g]?=some (.cells (eu (l ++ R.drop l.length)).toArray 3)∧Fr (onB g) w w':=by
 have hsz:(Tryz.prog.info? 3).map (·.size)=some 1:=by kernel_rfl
 by_cases h0:l.length=0
 ·have hl0:l=[]:=List.length_eq_zero_iff.1 h0
  subst hl0;have hr:=run_copy_none (P:=Tryz.prog) w 44 44 ty 3 (some ⟨g,0,none⟩) xa n n 0 c Tryz.underlying44 hsz (by show min 0 n=0;omega);exact⟨w,hr,by simpa using hrow,Fr.refl _ _⟩
 ·obtain⟨b,oo,rfl,_,_⟩:=hl 0 (by omega)
  have hcell:∀ j v,(eu l)[j]?=some v→w.cell? ((⟨b,oo,none⟩:Addr).add j)=some v:=fun j v hj=>by
   rw[addr_add _ rfl];unfold eu at hj;rw[List.getElem?_map] at hj;have hjl:j<l.length:=by
    rcases Nat.lt_or_ge j l.length with h | h
    ·exact h
    ·rw[List.getElem?_eq_none h] at hj;cases hj
   rw[List.getElem?_eq_getElem hjl] at hj;obtain⟨b',o',e,_,hc⟩:=hl j hjl
   injection e with e
   injection e with e1 e2
   subst e1 e2;rw[hc];exact hj
  have hlen:(eu l).length=l.length:=by simp[eu]
  have hRl:(eu R).length=n:=by simp[eu,hR]
  have hr:=run_copy_cells (P:=Tryz.prog) w 44 44 ty 3 g 0 n n ⟨b,oo,none⟩ l.length c (eu l) Tryz.underlying44 hsz (by rw[hlen];show l.length=min l.length n;omega) hcell (fun j hj=>by
   rw[(aa hrow _).1];rw[hlen] at hj;simp only[Nat.zero_add];rw[Array.getElem?_eq_getElem (by simp;omega)]
   rfl) (fun j hj=>(aa hrow _).2) (fun v hv=>by
   unfold eu at hv;obtain⟨z,_,rfl⟩:=List.mem_map.1 hv
   rfl)
  rw[hlen] at hr;have hs2:=zh (eu l) w 0 (eu R) hrow (by rw[hlen,hRl];omega);refine⟨_,hr,?_,oN _ _ _⟩;rw[hs2]
  simp[eu]
theorem aR {w:World} {g n:Nat} {R:List Int} {B:Nat} (hrow:w.heap[g]?=some (.cells (eu R).toArray 3)) (hR:R.length=n) (hn:n≤100000) (hB:B≤g):Own aG w B (.slice (some ⟨g,0,none⟩) R.length n) R:=by
 have hfl:∀ m:List Int,m.flatMap aG.enc=eu m:=fun m=>by
  unfold eu
  induction m with
  | nil=>rfl
  | cons y m ih=>rw[List.flatMap_cons,ih];rfl
 refine⟨aG.len R,.inr ⟨g,n,_,rfl,hB,hrow,by omega,by unfold maxLen;omega,by simp only[eu,List.size_toArray,List.length_map,hR];show n=n * 1;omega,?_⟩⟩;rw[hfl];have:aG.size=1:=rfl;rw[this,List.take_of_length_le (by simp[eu])]
def qv (Q:List Nat):List Int:=Q.map fun q:Nat=>(q:Int)
theorem J6 (b:Bool) (Q:List Nat) (m:Nat):(if b=true then qv Q ++ [(m:Int)] else qv Q)=qv (if b=true then Q ++ [m] else Q):=by
 cases b <;> simp[qv]
def RI (p:Prg) (f:Fun) (C0:Pl→Option (List Int)) (j B wb b nn:Nat) (c0 c1 c2:Value) (w0:World) (tv0:Value) (w:World) (M:Flo) (Q:List Nat) (P:Nat→Int→Prop):Prop :=
 ∃ n V tv,WalkV w B wb b n V c0 c1 c2 (j:Int) (gq C0 j M) tv (qv Q)∧FInv p f M P∧(∀ q ∈ Q,(M q).isSome=true)∧Fr (WF wb b tv0) w0 w∧(∀ k,tv.ownBlock=some k→tv0.ownBlock=some k∨w0.heap.size≤k)∧n+pot f.slots.toNat M f.code.length≤nn
def msr (f:Fun) (M:Flo) (Q:List Nat):Nat:=2 * pot f.slots.toNat M f.code.length+Q.length
theorem DJ {C0:Pl→Option (List Int)} {j:Nat} {M:Flo} {p:Prg} {f:Fun} {P:Nat→Int→Prop} (h:FInv p f M P) (hs:f.slots≤16) (hC:∀ x K,C0 x=some K→K.length≤100000):∀ x K,gq C0 j M x=some K→K.length≤100000:=fun x K hx=>by
 unfold gq at hx
 split at hx
 ·split at hx
  ·have:=(h.len _ _ hx).2
   omega
  ·cases hx
 ·exact hC x K hx
theorem EE {p:Prg} {f:Fun} {M:Flo} {P:Nat→Int→Prop} (h:FInv p f M P) {m0:Nat} {K:List Int} (hm:m0<f.code.length) (hK:K.length=f.slots.toNat) (Q:List Nat) (n:Nat) :
  msr f (dm M m0 K) (if lF (M m0) K=true then Q ++ [m0] else Q)≤msr f M Q∧(if (M m0).isSome=true then n else n+1)+pot f.slots.toNat (dm M m0 K) f.code.length≤n+pot f.slots.toNat M f.code.length:=by
 have hp:=xJ (M:=M) (s:=f.slots.toNat) (n:=f.code.length) (K:=K) hm hK (fun was hw=>(h.len _ _ hw).2);unfold msr
 by_cases hc:lF (M m0) K=true
 ·have hlt:=hp.2 ((yN _ _ _).1 hc)
  rw[if_pos hc,List.length_append,List.length_singleton];refine⟨by omega,?_⟩
  split <;> omega
 ·rw[if_neg hc]
  have hs:(M m0).isSome=true:=by
   cases hm0:M m0 with
   | none=>rw[hm0] at hc;exact absurd rfl hc
   | some _=>rfl
  rw[if_pos hs]
  omega
theorem GN {p:Prg} {f:Fun} {C0:Pl→Option (List Int)} {j B wb b nn n:Nat} {V:Nat→Prop} {tv:Value} {c0 c1 c2:Value} {w0 w w':World} {tv0:Value} {M:Flo} {Q:List Nat} {pc m0:Nat} {K0:List Int} {i:Ins} {rem:List Int} {hpl:aJ (j:Int)∧aJ (m0:Int)} {e:Ending}
  (hF:FInv p f M (fun q m=>q ∈ Q∨(q=pc∧m ∈ (m0:Int) :: rem))) (hQ:∀ q ∈ Q,(M q).isSome=true) (hfr:Fr (WF wb b tv0) w0 w) (htv:∀ k,tv.ownBlock=some k→tv0.ownBlock=some k∨w0.heap.size≤k) (hnn:n+pot f.slots.toNat M f.code.length≤nn)
  (h0:M pc=some K0∨pc ∈ Q) (hi:f.code[pc]?=some i) (hm:m0<f.code.length) (hK:(dL p f i K0).length=f.slots.toNat) (hlow:∀ S,Sol p f S→∃ L,S m0=some L∧Le L (dL p f i K0))
  (h:uf w B wb b n V c0 c1 c2 (j:Int) (gq C0 j M) tv (qv Q) ⟨((j:Int),(m0:Int)),hpl⟩ (dL p f i K0) e w') :
  e=.returned (.tuple #[])∧RI p f C0 j B wb b nn c0 c1 c2 w0 tv0 w' (dm M m0 (dL p f i K0)) (if lF (M m0) (dL p f i K0)=true then Q ++ [m0] else Q) (fun q m=>q ∈ (if lF (M m0) (dL p f i K0)=true then Q ++ [m0] else Q)∨(q=pc∧m ∈ rem)) ∧
   (dm M m0 (dL p f i K0) pc=some K0∨pc ∈ (if lF (M m0) (dL p f i K0)=true then Q ++ [m0] else Q))∧msr f (dm M m0 (dL p f i K0)) (if lF (M m0) (dL p f i K0)=true then Q ++ [m0] else Q)≤msr f M Q:=by
 obtain⟨he,V',tv',h1,h2,h3⟩:=h;rw[lY,sV] at h1;have e1:(⟨((j:Int),(m0:Int)),hpl⟩:Pl).1.2=(m0:Int):=rfl;rw[e1,J6] at h1;obtain⟨f1,f2⟩:=hF.from' h0 hi hm hK hlow;obtain⟨g1,g2⟩:=EE hF hm hK Q n;refine⟨he,⟨_,V',tv',h1,f1,fun q hq=>?_,?_,fun k hk=>?_,by omega⟩,f2,g1⟩
 ·by_cases hqm:q=m0
  ·subst hqm
   unfold dm
   simp
  ·rw[dC hqm]
   split at hq
   ·rcases List.mem_append.1 hq with hq | hq
    ·exact hQ q hq
    ·simp at hq;exact absurd hq hqm
   ·exact hQ q hq
 ·exact hfr.trans h2 (fun k hk hw=>by
   rcases hw with hw | hw | hw
   ·exact .inl hw
   ·exact .inr (.inl hw)
   ·exact(htv k hw).elim (fun h=>.inr (.inr h)) (fun h=>by omega))
 ·rcases h3 k hk with h3 | h3
  ·exact htv k h3
  ·exact .inr (by have:=hfr.size;omega)
theorem G6 {w:World} {B wb b n:Nat} {V:Nat→Prop} {c0 c1 c2:Value} {fn:Int} {C:Pl→Option (List Int)} {tv v':Value} {x:Int} {l:List Int} (h:WalkV w B wb b n V c0 c1 c2 fn C tv (x :: l)) (hq:Que w B v' l) (hs:∀ k,v'.ownBlock=some k→tv.ownBlock=some k) :
  WalkV (w.setCell ⟨wb,5,none⟩ v') B wb b n V c0 c1 c2 fn C v' l∧Fr (WF wb b tv) w (w.setCell ⟨wb,5,none⟩ v'):=by
 obtain⟨b1,b2,b3,b4,b5⟩:=h.bs;have f45:Fr (fun k=>k=wb) w (w.setCell ⟨wb,5,none⟩ v'):=(Fr.refl (fun k=>k=wb) w).setCell (p:=⟨wb,5,none⟩) (fun _=>rfl) v';refine⟨⟨ag h.row 5 v',h.map.fr f45 (fun e=>b3 e.symm) (fun k hk e=>(h.vlo k hk).2.2.1 e),hq.fr f45 (fun k hk e=>b4 (e ▸ hs k hk)),fun k hk=>?_,b1,b2,b3,fun e=>b4 (hs _ e),fun e=>b5 (hs _ e)⟩,f45.mono (fun k hk=>.inl hk)⟩;obtain⟨a1,a2,a3,a4,a5⟩:=h.vlo k hk;exact⟨a1,by have:=f45.size;omega,a3,a4,fun e=>a5 (hs _ e)⟩
theorem dV.some_runs {w:World} {b n:Nat} {V:Nat→Prop} {C:Pl→Option (List Int)} (h:dV w b n V C) (x:Pl) (K:List Int) (hx:C x=some K):∃ a c,aQ w V a K∧∀ W',Below w.heap.size w W' →
  (Instr.lookup 187 (.map (some b)) (plA x) true).run Tryz.prog W'=.ok (.tuple #[.slice a K.length c,.bool true]) W'∧(Instr.lookup 187 (.map (some b)) (plA x) false).run Tryz.prog W'=.ok (.slice a K.length c) W':=by
 obtain⟨g,h1,h2⟩:=h;obtain⟨a,c,h3,h4⟩:=(h2 x).2 K hx;refine⟨a,c,h4,fun W' hb=>?_⟩;have hl:=((h1.below hb).look vO (qy W') x trivial).1 _ h3;exact⟨hl.2,hl.1⟩
end Go.Proofs.YtlofbhoicbemnaaGreatDoor
namespace Go.Proofs.YtlofbhoicbemnaaGreatDoor
open Go.ChangeShapes Go.WideShapes Go.ChangeAt Go.RowKit
theorem Av {w:World} {B g n m:Nat} {K:List Int} (h:Own aG w B (.slice (some ⟨g,0,none⟩) n m) K) (k:Nat) (hk:k<K.length) :
  w.cell? ⟨g,k,none⟩=some (.int .i64 ((K[k]?).getD 0))∧w.frozen? ⟨g,k,none⟩=false∧B≤g∧∀ x,Own aG (w.setCell ⟨g,k,none⟩ (.int .i64 x)) B (.slice (some ⟨g,0,none⟩) n m) (K.set k x):=by
 obtain⟨g',c,e,h1,h2,h3,h4⟩:=mY h k hk
 injection e with e1 e2 e3
 injection e1 with e1
 injection e1 with e1
 subst e1;exact⟨by rw[h2];simp[hk],h3,h1,h4⟩
end Go.Proofs.YtlofbhoicbemnaaGreatDoor
