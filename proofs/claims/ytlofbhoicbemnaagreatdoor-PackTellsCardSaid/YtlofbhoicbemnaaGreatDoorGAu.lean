/- The readers of a state: its top, its last alarm. Walks: what a state does next. Walks: a state ends a frame. Walk: Task.Pop. Walks: .. -/
import Derived.Test.YtlofbhoicbemnaaGreatDoorGAt
import Derived.Laws.BitsAllLaws
set_option linter.unusedVariables false
set_option linter.unusedSimpArgs false
set_option maxRecDepth 100000
set_option maxHeartbeats 3200000
namespace Go.Proofs.YtlofbhoicbemnaaGreatDoor.Tk
open Go.ChangeShapes Go.WideShapes Go.ChangeAt Go.RowKit Go.Maps
theorem ku (w:World) (o:Obj) (cs:Array Value) (t:TypeId) (fz:Nat × Nat) (j:Nat):((w.alloc o).alloc (.cells cs t fz)).cell? ⟨w.heap.size+1,j,none⟩=cs[j]?:=by
 have:=aI (w.alloc o) cs t fz j;rw[show (w.alloc o).heap.size=w.heap.size+1 from by simp] at this;exact this
theorem yP (w:World) (a:Option Addr) (n c:Nat) (a':Option Addr) (c':Nat) :
  Calls Tryz.prog 305 #[.agg #[.slice a n c,.slice a' 0 c']] w fun e w'=>e=.returned (.tuple #[.agg #[.int .i64 0,.int .i64 0,.int .i64 0,.bool false,.bool false],.bool false])∧Below w.heap.size w w':=by
 go_enter Tryz.func305,Tryz.ntmps305
 go_wp2_with fail;refine bodyPost_ret ?_ rfl ⟨rfl,((Below.refl w.heap.size w).alloc (Nat.le_refl _) _).alloc (by simp) _⟩
 simp[results,Tryz.results305,go_sem,ku]
theorem vB (w:World) (a:Option Addr) (n c:Nat) (B:Nat) (av:Value) (A:List Alarm) (x:Alarm) (h:Own bG w B av (A ++ [x])) (hl:A.length≤100000) :
  Calls Tryz.prog 305 #[.agg #[.slice a n c,av]] w fun e w'=>e=.returned (.tuple #[.agg #[.int .i64 x.code,.int .i64 x.ptr,.int .i64 x.run,.bool x.exit,.bool x.recovered],.bool true])∧Below w.heap.size w w':=by
 obtain⟨g,cc,rfl,_,_⟩:=iJ h;have c0:=(eD h 0 _ rfl).1;have c1:=(eD h 1 _ rfl).1;have c2:=(eD h 2 _ rfl).1;have c3:=(eD h 3 _ rfl).1;have c4:=(eD h 4 _ rfl).1;have hbx:=(((Below.refl w.heap.size w).alloc (Nat.le_refl _) (.cells #[.slice a n c,.slice (some ⟨g,0,none⟩) (A.length+1) cc] 270)).alloc (by simp) (.cells #[.int .i64 0,.int .i64 0,.int .i64 0,.bool false,.bool false] 283));have hbz:=(((Below.refl w.heap.size w).alloc (Nat.le_refl _) (.cells #[.slice a n c,.slice (some ⟨g,0,none⟩) (A.length+1) cc] 270)).alloc (by simp) (.cells #[.int .i64 x.code,.int .i64 x.ptr,.int .i64 x.run,.bool x.exit,.bool x.recovered] 283));have k0:=ae hbx c0;have k1:=ae hbx c1;have k2:=ae hbx c2;have k3:=ae hbx c3;have k4:=ae hbx c4
 change World.cell? _ ⟨g,A.length * 5,none⟩=_ at k0
 change World.cell? _ ⟨g,A.length * 5+1,none⟩=_ at k1
 change World.cell? _ ⟨g,A.length * 5+2,none⟩=_ at k2
 change World.cell? _ ⟨g,A.length * 5+3,none⟩=_ at k3
 change World.cell? _ ⟨g,A.length * 5+4,none⟩=_ at k4
 have i1:IntKind.i64.wrap (((A.length+1:Nat):Int) - 1)=(A.length:Int):=by rw[show (((A.length+1:Nat):Int) - 1)=(A.length:Int) from by omega];exact IntWalk.i64_in _ (by omega)
 have n0:(((A.length+1:Nat):Int) == 0)=false:=by rw[beq_eq_false_iff_ne];omega
 have n1:(A.length:Int)<((A.length+1:Nat):Int):=by omega
 generalize A.length+1=N at *;have HB:=k_ hbz;clear h c0 c1 c2 c3 c4 hbx hbz
 go_enter Tryz.func305,Tryz.ntmps305
 go_wp2_with fail;refine bodyPost_ret ?_ rfl ⟨rfl,HB.out⟩
 simp[results,Tryz.results305,go_sem,ku]
theorem vo (w:World) (a:Option Addr) (c:Nat) (a':Option Addr) (n' c':Nat) :
  Calls Tryz.prog 304 #[.agg #[.slice a 0 c,.slice a' n' c']] w fun e w'=>e=.returned (.tuple #[.agg #[.bool false,.bool false,.int .i64 0],.bool false])∧Below w.heap.size w w':=by
 go_enter Tryz.func304,Tryz.ntmps304
 go_wp2_with fail;refine bodyPost_ret ?_ rfl ⟨rfl,((Below.refl w.heap.size w).alloc (Nat.le_refl _) _).alloc (by simp) _⟩
 simp[results,Tryz.results304,go_sem,ku]
theorem zY (w:World) (B:Nat) (v:Value) (l:List Mark) (m:Mark) (h:Own dN w B v (l ++ [m])) (hl:l.length≤100000) (a':Option Addr) (n' c':Nat) :
  Calls Tryz.prog 304 #[.agg #[v,.slice a' n' c']] w fun e w'=>e=.returned (.tuple #[.agg #[.bool m.leaving,.bool m.deferred,.int .i64 m.thunks],.bool true])∧Below w.heap.size w w':=by
 obtain⟨g,c,rfl,_,_⟩:=iJ h;have c0:=(eD h 0 _ rfl).1;have c1:=(eD h 1 _ rfl).1;have c2:=(eD h 2 _ rfl).1;have hbx:=(((Below.refl w.heap.size w).alloc (Nat.le_refl _) (.cells #[.slice (some ⟨g,0,none⟩) (l.length+1) c,.slice a' n' c'] 270)).alloc (by simp) (.cells #[.bool false,.bool false,.int .i64 0] 362));have hbz:=(((Below.refl w.heap.size w).alloc (Nat.le_refl _) (.cells #[.slice (some ⟨g,0,none⟩) (l.length+1) c,.slice a' n' c'] 270)).alloc (by simp) (.cells #[.bool m.leaving,.bool m.deferred,.int .i64 m.thunks] 362));have k0:=ae hbx c0;have k1:=ae hbx c1;have k2:=ae hbx c2
 change World.cell? _ ⟨g,l.length * 3,none⟩=_ at k0
 change World.cell? _ ⟨g,l.length * 3+1,none⟩=_ at k1
 change World.cell? _ ⟨g,l.length * 3+2,none⟩=_ at k2
 have i1:IntKind.i64.wrap (((l.length+1:Nat):Int) - 1)=(l.length:Int):=by rw[show (((l.length+1:Nat):Int) - 1)=(l.length:Int) from by omega];exact IntWalk.i64_in _ (by omega)
 have n0:(((l.length+1:Nat):Int) == 0)=false:=by rw[beq_eq_false_iff_ne];omega
 have n1:(l.length:Int)<((l.length+1:Nat):Int):=by omega
 generalize l.length+1=N at *;have HB:=k_ hbz;clear h c0 c1 c2 hbx hbz
 go_enter Tryz.func304,Tryz.ntmps304
 go_wp2_with fail;refine bodyPost_ret ?_ rfl ⟨rfl,HB.out⟩
 simp[results,Tryz.results304,go_sem,ku]
theorem kz {α:Type} (l:List α):l=[]∨∃ k x,l=k ++ [x]:=by
 rcases List.eq_nil_or_concat l with h | ⟨k,x,h⟩
 ·exact .inl h
 ·exact .inr ⟨k,x,by rw[h,List.concat_eq_append]⟩
def oK (A:List Alarm):Bool:=match A.getLast? with | none=>false | some x=>x.run == 0
theorem xm:oK []=false:=rfl
theorem uH (A:List Alarm) (x:Alarm):oK (A ++ [x])=(x.run == 0):=by unfold oK;rw[List.getLast?_concat]
theorem qB (w:World) (a:Option Addr) (n c:Nat) (B:Nat) (av:Value) (A:List Alarm) (h:Own bG w B av A) (hl:A.length≤100000) :
  Calls Tryz.prog 306 #[.agg #[.slice a n c,av]] w fun e w'=>e=.returned (.bool (oK A))∧Below w.heap.size w w':=by
 rcases kz A with rfl | ⟨A,x,rfl⟩
 ·obtain⟨a',n',c',rfl⟩:=h.slice
  obtain rfl:n'=0:=by
   obtain⟨_,_,he,_⟩:=aP h
   injection he
  have la:=fun w=>yP w a n c a' c'
  rw[xm];clear h;have LA:=k_ la;clear la
  go_enter Tryz.func306,Tryz.ntmps306
  go_wp2_with fail;refine(LA.out _).mono ?_;rintro e w1 ⟨rfl,hb⟩;have HB:=k_ (((Below.refl w.heap.size w).alloc (Nat.le_refl _) (.cells #[.slice a n c,.slice a' 0 c'] 270)).trans (hb.mono (by simp)));clear hb;go_wp2_with fail
  go_ret
  exact⟨rfl,HB.out.alloc HB.out.size _⟩
 ·have la:=fun wx (hx:Below w.heap.size w wx)=>vB wx a n c B av A x (h.below hx) (by simp at hl;omega)
  obtain⟨a',n',c',rfl⟩:=h.slice;rw[uH];have hb0:=(Below.refl w.heap.size w).alloc (Nat.le_refl _) (.cells #[.slice a n c,.slice a' n' c'] 270);clear h;obtain⟨x1,x2,x3,x4,x5⟩:=x;have LA:=k_ la;clear la;have HB0:=k_ hb0;clear hb0
  go_enter Tryz.func306,Tryz.ntmps306
  go_wp2_with fail;refine(LA.out _ HB0.out).mono ?_;rintro e w1 ⟨rfl,hb⟩;have HB:=k_ (HB0.out.trans (hb.mono HB0.out.size));clear hb;go_wp2_with fail
  go_ret
  exact⟨rfl,HB.out.alloc HB.out.size _⟩
def iK (M:List Mark) (A:List Alarm):Int:=match M.getLast? with
 | none=>(match A.getLast? with | none=>3 | some x=>if x.exit=false then 4 else 3)
 | some m=>if oK A=false∧m.leaving=false then 0 else if 0<m.thunks then 1 else 2
theorem zt (M:List Mark) (m:Mark) (A:List Alarm):iK (M ++ [m]) A=if oK A=false∧m.leaving=false then 0 else if 0<m.thunks then 1 else 2:=by unfold iK;rw[List.getLast?_concat]
theorem Cy (A:List Alarm) (x:Alarm):iK [] (A ++ [x])=if x.exit=false then 4 else 3:=by unfold iK;rw[List.getLast?_concat];rfl
theorem Ah (w:World) (B:Nat) (v:Value) (M:List Mark) (h:Own dN w B v M) (hl:M.length≤100000) (B2:Nat) (av:Value) (A:List Alarm) (ha:Own bG w B2 av A) (hla:A.length≤100000) :
  Calls Tryz.prog 237 #[.agg #[v,av]] w fun e w'=>e=.returned (.int .i64 (iK M A))∧Below w.heap.size w w':=by
 rcases kz M with rfl | ⟨l,m,rfl⟩
 ·obtain⟨a,n,c,rfl⟩:=h.slice
  obtain rfl:n=0:=by
   obtain⟨_,_,he,_⟩:=aP h
   injection he
  clear h
  rcases kz A with rfl | ⟨A,x,rfl⟩
  ·obtain⟨a',n',c',rfl⟩:=ha.slice
   obtain rfl:n'=0:=by
    obtain⟨_,_,he,_⟩:=aP ha
    injection he
   have la:=fun wx (_:Below w.heap.size w wx)=>yP wx a 0 c a' c'
   clear ha;have tp:=fun w=>vo w a c a' 0 c'
   have TP:=k_ tp;clear tp;have LA:=k_ la;clear la
   go_enter Tryz.func237,Tryz.ntmps237
   go_wp2_with fail;refine(TP.out _).mono ?_;rintro e w1 ⟨rfl,hb⟩;obtain⟨k0,hb1,hz⟩:=kL w _ _ w1 (hb.mono (by simp));have j0:=k0 0 _ rfl;have j1:=k0 1 _ rfl;have j0:=ae ((Below.refl w1.heap.size w1).alloc (Nat.le_refl _) (.cells #[.bool false,.bool false,.int .i64 0] 362)) j0;have j1:=ae ((Below.refl w1.heap.size w1).alloc (Nat.le_refl _) (.cells #[.bool false,.bool false,.int .i64 0] 362)) j1;have HB:=k_ (hb1.alloc hb1.size (.cells #[.bool false,.bool false,.int .i64 0] 362));clear hb hb1 k0;go_wp2_with fail;refine(LA.out _ HB.out).mono ?_;rintro e w2 ⟨rfl,hb⟩;have HB2:=k_ (HB.out.trans (hb.mono HB.out.size));clear hb;go_wp2_with fail
   go_ret
   exact⟨rfl,HB2.out.alloc HB2.out.size _⟩
  ·rw[Cy]
   have la:=fun wx (hx:Below w.heap.size w wx)=>vB wx a 0 c B2 av A x (ha.below hx) (by simp at hla;omega)
   obtain⟨a',n',c',rfl⟩:=ha.slice;clear ha;obtain⟨x1,x2,x3,x4,x5⟩:=x;have tp:=fun w=>vo w a c a' n' c'
   have TP:=k_ tp;clear tp;have LA:=k_ la;clear la
   go_enter Tryz.func237,Tryz.ntmps237
   go_wp2_with fail;refine(TP.out _).mono ?_;rintro e w1 ⟨rfl,hb⟩;obtain⟨k0,hb1,hz⟩:=kL w _ _ w1 (hb.mono (by simp));have j0:=k0 0 _ rfl;have j1:=k0 1 _ rfl;have j0:=ae ((Below.refl w1.heap.size w1).alloc (Nat.le_refl _) (.cells #[.bool false,.bool false,.int .i64 0] 362)) j0;have j1:=ae ((Below.refl w1.heap.size w1).alloc (Nat.le_refl _) (.cells #[.bool false,.bool false,.int .i64 0] 362)) j1;have HB:=k_ (hb1.alloc hb1.size (.cells #[.bool false,.bool false,.int .i64 0] 362));clear hb hb1 k0;go_wp2_with fail;refine(LA.out _ HB.out).mono ?_;rintro e w2 ⟨rfl,hb⟩;have HB2:=k_ (HB.out.trans (hb.mono HB.out.size));clear hb
   cases x4
   ·go_wp2_with fail
    go_ret
    exact⟨rfl,HB2.out.alloc HB2.out.size _⟩
   ·go_wp2_with fail
    go_ret
    exact⟨rfl,HB2.out.alloc HB2.out.size _⟩
 ·rw[zt]
  obtain⟨a',n',c',rfl⟩:=ha.slice;have tp:=fun wr (hw:Below w.heap.size w wr)=>zY wr B v l m (h.below hw) (by simp at hl;omega) a' n' c'
  obtain⟨g,c,rfl,_,_⟩:=iJ h;have hb0:=(Below.refl w.heap.size w).alloc (Nat.le_refl _) (.cells #[.slice (some ⟨g,0,none⟩) (l.length+1) c,.slice a' n' c'] 270);generalize l.length+1=N at *;have un:=fun wr (hw:Below w.heap.size w wr)=>qB wr (some ⟨g,0,none⟩) N c B2 (.slice a' n' c') A (ha.below hw) hla
  generalize oK A=u at *;obtain⟨b0,b1,b2⟩:=m;clear h ha;have TP:=k_ tp;clear tp;have UN:=k_ un;clear un;have HB0:=k_ hb0;clear hb0
  go_enter Tryz.func237,Tryz.ntmps237
  go_wp2_with fail;refine(TP.out _ HB0.out).mono ?_;rintro e w1 ⟨rfl,hb⟩;obtain⟨k0,hb1,hz⟩:=kL w _ _ w1 (hb.mono (by simp));have j0:=k0 0 _ rfl;have j1:=k0 1 _ rfl;have j0:=ae ((Below.refl w1.heap.size w1).alloc (Nat.le_refl _) (.cells #[.bool b0,.bool b1,.int .i64 b2] 362)) j0;have j1:=ae ((Below.refl w1.heap.size w1).alloc (Nat.le_refl _) (.cells #[.bool b0,.bool b1,.int .i64 b2] 362)) j1;have hrow:=ai w1 (.cells #[.bool b0,.bool b1,.int .i64 b2] 362);have HB:=k_ (hb1.alloc hb1.size (.cells #[.bool b0,.bool b1,.int .i64 b2] 362));have HROW:=k_ hrow;clear hb hb1 k0 hrow;go_wp2_with fail;refine(UN.out _ HB.out).mono ?_;rintro e w2 ⟨rfl,hb⟩;have HB2:=k_ (HB.out.trans (hb.mono HB.out.size));have hr2:=(fb_ hb).heap HROW.out (fun h=>h);have q0:w2.cell? ⟨w1.heap.size,0,none⟩=some (.bool b0):=(aa hr2 0).1;have q2:w2.cell? ⟨w1.heap.size,2,none⟩=some (.int .i64 b2):=(aa hr2 2).1;clear hb hr2
  by_cases hp:0<b2
  ·cases u <;> cases b0
   ·go_wp2_with fail
    go_ret
    exact⟨by simp,HB2.out⟩
   ·go_wp2_with fail
    go_ret
    exact⟨by simp[hp],HB2.out⟩
   ·go_wp2_with fail
    go_ret
    exact⟨by simp[hp],HB2.out⟩
   ·go_wp2_with fail
    go_ret
    exact⟨by simp[hp],HB2.out⟩
  ·cases u <;> cases b0
   ·go_wp2_with fail
    go_ret
    exact⟨by simp,HB2.out⟩
   ·go_wp2_with fail
    go_ret
    exact⟨by simp[hp],HB2.out⟩
   ·go_wp2_with fail
    go_ret
    exact⟨by simp[hp],HB2.out⟩
   ·go_wp2_with fail
    go_ret
    exact⟨by simp[hp],HB2.out⟩
theorem yR (w:World) (a:Option Addr) (n c:Nat) (a':Option Addr) (c':Nat) (k:Int) :
  Calls Tryz.prog 354 #[.agg #[.slice a n c,.slice a' 1 c'],.int .i64 k] w fun e w'=>e=.returned (.agg #[.slice a n c,.slice a' 1 c'])∧Below w.heap.size w w':=by
 go_enter Tryz.func354,Tryz.ntmps354
 go_upto_region 1 with fail
 go_wp2_with fail
 go_loopw [5] (fun i wr=>i=.int .i64 (-1)∧wr=(w.alloc (.cells #[.slice a n c,.slice a' 1 c'] 270)).alloc (.cells #[.slice none 0 0,.slice none 0 0] 270)) (fun _ _=>0)
 case atStart=>exact⟨rfl,rfl⟩
 case round =>
  obtain⟨rfl,rfl⟩:=hrel;go_wp2_with fail;refine bodyPost_ret ?_ rfl ⟨rfl,((Below.refl w.heap.size w).alloc (Nat.le_refl _) _).alloc (by simp) _⟩
  simp[results,Tryz.results354,go_sem,ku]
theorem vN {P:Program} {κ ν:Type} {K:KeyTy P κ} {val:ν→Value} {w:World} {b n:Nat} {f:κ→Option ν} {ops:Array Oper} {o:Oper} {a:Act} {G:Act→World→Prop} {Q:Exit→Act→World→Prop} {F:Prop} [DecidableEq κ] (hg:o.guard=none) (m x:Operand) (t e:TypeId) (hop:o.op=Op.call { callee:=Callee.builtin Builtin.delete,args:=#[m,x],argTypes:=#[t,K.k] }) (h:bf K val w b n f) (ht:P.underlying t=some (.map K.k e)) (k:κ) (hk:K.wf k)
  (hm:a.eval m=.map (some b)) (hx:a.eval x=K.key k)
  (hK:∀ w',bf K val w' b (if (f k).isSome then n - 1 else n) (upd f k none)→w.mapTurned w' b→G (a.put o.dst (.tuple #[])) w'):if Region.wanted o (yielded ops a.tmps)=true then Oper.wp P o a w G Q else F:=by
 have hw:Region.wanted o (yielded ops a.tmps)=true:=by simp[Region.wanted,hg]
 rw[if_pos hw];obtain⟨w',hrun,r1,r2⟩:=h.del ht k hk o.type;unfold Oper.wp
 simp[execOp,hop,resolve,invoke,builtin,hm,hx,hrun,Result.andThen]
 exact hK _ r1 r2
def qQ (kf:{ x:Int × Int // aJ x.1∧aJ x.2 }→Option Int) (d:Nat):{ x:Int × Int // aJ x.1∧aJ x.2 }→Option Int:=fun a=>if a.1=((d:Int),(0:Int)) then none else kf a
theorem EP (kf:{ x:Int × Int // aJ x.1∧aJ x.2 }→Option Int) (d:Nat) (h:aJ (d:Int)∧aJ 0) (a):upd kf ⟨((d:Int),(0:Int)),h⟩ none a=qQ kf d a:=by
 unfold upd qQ
 by_cases hx:a=⟨((d:Int),(0:Int)),h⟩
 ·rw[if_pos hx,if_pos (by rw[hx])]
 ·rw[if_neg hx,if_neg (fun e=>hx (Subtype.ext e))]
theorem TaskAt.turned {w w':World} {F:Nat→Prop} {tb:Nat} {p:TPrg} {T:Tk} {X:TB} (h:TaskAt w F tb p T X) {n:Nat} {f:{ x:Int × Int // aJ x.1∧aJ x.2 }→Option Int} (hm:bf spK (Value.int .i64) w' X.kb n f) (kc:Nat) (hn:n≤kc) (ht:w.mapTurned w' X.kb):TaskAt w' F tb p T { X with kf:=f,kc:=kc }∧Fr F w w':=by
 have hr:=bi ht;obtain⟨_,_,hk⟩:=h.kept;refine⟨?_,hr.mono fun k e=>e ▸ h.fk⟩
 constructor
 ·exact hr.heap h.row (fun e=>iU hk h.row e.symm)
 ·exact h.prg.fr hr fun k hk e=>(h.out k hk).1 (e ▸ h.fk)
 ·exact fun k hk=>⟨(h.out k hk).1,Nat.lt_of_lt_of_le (h.out k hk).2 hr.size⟩
 ·exact hr.heap h.srow (fun e=>iU hk h.srow e.symm)
 ·exact hr.heap h.wrow (fun e=>iU hk h.wrow e.symm)
 ·exact h.parts.fr hr fun k hk2 e=>by obtain⟨cur,f,hc⟩:=aR h.parts hk2;exact iU hk hc e.symm
 ·exact h.marks.fr hr fun k hk2 e=>by obtain⟨cur,f,hc⟩:=aR h.marks hk2;exact iU hk hc e.symm
 ·exact Nat.lt_of_lt_of_le h.kb hr.size
 ·exact⟨n,hn,hm⟩
 ·exact h.alarms.fr hr fun k hk2 e=>by obtain⟨cur,f,hc⟩:=aR h.alarms hk2;exact iU hk hc e.symm
 ·exact h.ft
 ·exact h.fs
 ·exact h.fw
 ·exact h.fk
 ·exact h.fp
 ·exact h.fm
 ·exact h.fa
 ·exact fun k hk=>Nat.lt_of_lt_of_le (h.flt k hk) hr.size
theorem TaskAt.popped {w:World} {F:Nat→Prop} {tb:Nat} {p:TPrg} {T:Tk} {X:TB} {P:List Part} {q:Part} {g n c:Nat} (h:TaskAt w F tb p T X) (hP:T.parts=P ++ [q]) (hv:X.pv=.slice (some ⟨g,0,none⟩) n c) :
  TaskAt (w.setCell ⟨tb,4,none⟩ (.slice (some ⟨g,0,none⟩) P.length c)) F tb p ⟨T.base,T.words,P,T.marks⟩ { X with pv:=.slice (some ⟨g,0,none⟩) P.length c }∧Fr F w (w.setCell ⟨tb,4,none⟩ (.slice (some ⟨g,0,none⟩) P.length c)):=by
 have hfs:Fr (fun k=>k=tb) w (w.setCell ⟨tb,4,none⟩ (.slice (some ⟨g,0,none⟩) P.length c)):=(Fr.refl (fun k=>k=tb) w).setCell (p:=⟨tb,4,none⟩) (fun _=>rfl) _;obtain⟨d1,d2,d3,d4,d5,d6,d7⟩:=h.distinct;have ho:=h.parts;rw[hP,hv] at ho;obtain⟨g',c',he,_,ho⟩:=iJ ho
 injection he with e1 e2 e3
 injection e1 with e1
 injection e1 with e1
 subst e1 e3;have hgo:X.pv.ownBlock=some g:=by rw[hv];rfl
 refine⟨?_,hfs.mono (fun k e=>e ▸ h.ft)⟩
 constructor
 ·have:=ag h.row 4 (.slice (some ⟨g,0,none⟩) P.length c)
  simpa using this
 ·exact h.prg.fr hfs fun k hk e=>(h.out k hk).1 (e ▸ h.ft)
 ·exact fun k hk=>⟨(h.out k hk).1,Nat.lt_of_lt_of_le (h.out k hk).2 hfs.size⟩
 ·exact hfs.heap h.srow (fun e=>d1 e.symm)
 ·exact hfs.heap h.wrow (fun e=>d2 e.symm)
 ·exact ho.fr hfs (fun k hk e=>(d4 k (by rw[hgo];exact hk)).1 e)
 ·exact h.marks.fr hfs (fun k hk e=>(d5 k hk).1 e)
 ·exact Nat.lt_of_lt_of_le h.kb hfs.size
 ·exact h.kept.imp fun n hm=>⟨hm.1,hm.2.fr hfs (fun e=>iU hm.2 h.row e)⟩
 ·exact h.alarms.fr hfs (fun k hk e=>(d7 k hk).1 e)
 ·exact h.ft
 ·exact h.fs
 ·exact h.fw
 ·exact h.fk
 ·exact fun k hk=>h.fp k (by rw[hgo];exact hk)
 ·exact h.fm
 ·exact h.fa
 ·exact fun k hk=>Nat.lt_of_lt_of_le (h.flt k hk) hfs.size
theorem Ik (w:World) (F:Nat→Prop) (tb:Nat) (p:TPrg) (T:Tk) (X:TB) (h:TaskAt w F tb p T X) (ht:jL T) (P:List Part) (q:Part) (hP:T.parts=P ++ [q]) (M:List Mark) (m:Mark) (hM:T.marks=M ++ [m]) (v:Int) (has:Bool) (T2:Tk) (M':List Mark) (A':List Alarm)
  (SPOP:∀ wr mv av,Own dN wr 0 mv (M ++ [m])→Own bG wr 0 av X.al→Calls Tryz.prog 309 #[.agg #[mv,av]] wr (nQ wr M' A'))
  (hno:(has && decide (0≤q.ret) && !m.deferred)=false→T2=⟨T.base,T.words,P,M'⟩)
  (hset:(has && decide (0≤q.ret) && !m.deferred)=true→∀ wr F' X',TaskAt wr F' tb p ⟨T.base,T.words,P,M'⟩ X'→Calls Tryz.prog 302 #[.pointer (some ⟨tb,0,none⟩),.int .i64 q.ret,.int .i64 v] wr fun e w'=>e=.returned (.bool true)∧TaskAt w' F' tb p T2 X'∧Fr F' wr w') :
  Calls Tryz.prog 246 #[.pointer (some ⟨tb,0,none⟩),.int .i64 v,.bool has] w fun e w'=>e=.returned (.bool true)∧∃ F' X',TaskAt w' F' tb p T2 X'∧X'.Q X A' (qQ X.kf P.length)∧(∀ k,F' k→F k∨w.heap.size≤k)∧Fr F w w':=by
 have hpl:T.parts.length=P.length+1:=by rw[hP];simp
 have hml:T.marks.length=M.length+1:=by rw[hM];simp
 obtain⟨a,c,hpv,hel⟩:=h.pv;obtain⟨g,rfl,hgo,k0,k1,k2,k3,k4⟩:=hel P.length (by omega);have hq:T.parts[P.length]'(by omega)=q:=by simp[hP]
 rw[hq] at k3;have hpo:=h.parts;rw[hP,hpv] at hpo;obtain⟨_,_,hpe,hcc,_⟩:=iJ hpo
 injection hpe with hx1 hx2 hpe
 clear hx1 hx2;rw[← hpe] at hcc;have hcc:P.length≤c:=by omega
 clear hpo hpe;obtain⟨a5,c5,hmv,hmel⟩:=aP h.marks;obtain⟨mb,rfl,_,hmc⟩:=hmel M.length (by omega);have hm:T.marks[M.length]'(by omega)=m:=by simp[hM]
 have l1:w.cell? ⟨mb,M.length * 3+1,none⟩=some (.bool (T.marks[M.length]'(by omega)).deferred):=hmc 1 _ rfl;rw[hm] at l1;obtain⟨q0,q1,q2,q3,q4,q5,q6,q7⟩:=h.cells;have tp:=mK w F tb p T X h ht.1 P.length hpl g hgo;have hok1:=ht.1;have hok2:=ht.2.1;have dp:=fun wr (hw:Below w.heap.size w wr)=>eF wr F tb p T X (h.below hw)
 have hT:=fun wr (hw:Below w.heap.size w wr)=>h.below hw
 rw[hpl] at dp hpv;rw[hml] at hmv;rw[hpv] at q4;rw[hmv] at q5;obtain⟨N,hN⟩:∃ N,N=P.length+1:=⟨_,rfl⟩;obtain⟨K,hK⟩:∃ K,K=M.length+1:=⟨_,rfl⟩;rw[← hN] at dp hpv q4;rw[← hK] at hmv q5;have i1:IntKind.i64.wrap ((N:Int) - 1)=(P.length:Int):=by rw[show ((N:Int) - 1)=(P.length:Int) from by omega];exact IntWalk.i64_in _ (by omega)
 have i2:IntKind.i64.wrap ((K:Int) - 1)=(M.length:Int):=by rw[show ((K:Int) - 1)=(M.length:Int) from by omega];exact IntWalk.i64_in _ (by omega)
 have n1:(M.length:Int)<(K:Int):=by omega
 have hMl:M.length≤1000:=by omega
 have hdb:aJ (P.length:Int):=by unfold aJ;omega
 have hz0:aJ 0:=by unfold aJ;omega
 have hHM:=k_ hM;have HPP:=k_ hP;have HMV:=k_ hmv;have HPV:=k_ hpv;have HSPOP:=k_ SPOP;clear SPOP;clear hel k0 k1 k2 k4 hmel hmc hm hq q0 q1 q2 q3 q6 hpl hml hN hK hM hP hmv hpv h ht hok1 hok2;have TP:=k_ tp;clear tp;have DP:=k_ dp;clear dp;have HT:=k_ hT;clear hT;have HNO:=k_ hno;clear hno;have HSET:=k_ hset;clear hset
 go_enter Tryz.func246,Tryz.ntmps246
 go_wp2_with fail;refine TP.out.mono ?_;rintro e w1 ⟨rfl,n1',rfl⟩
 dsimp only
 go_upto_region 4 with fail
 have hb0:Below w.heap.size w (w.drewN n1'):=below_drewN (Below.refl _ _) n1';have q4:=ae hb0 q4;have q5:=ae hb0 q5;have q7:=ae hb0 q7;have l1:=ae hb0 l1;have k3:=ae hb0 k3;have HB0:=k_ hb0;clear hb0;generalize w.drewN n1'=w1 at *
 go_quiet (fail)
 have hb1:Below w1.heap.size w1 (w1.drewN nq):=below_drewN (Below.refl _ _) nq;have q4:=ae hb1 q4;have q7:=ae hb1 q7;have k3:=ae hb1 k3;have hb2:=HB0.out.trans (hb1.mono HB0.out.size);generalize w1.drewN nq=w2 at *;have hr0:=hb2.drew;clear l1 q5 hb1;have HB2:=k_ hb2;clear hb2;have HR0:=k_ hr0;clear hr0
 go_upto_region 6 with fail
 obtain⟨kn,hkn,hkm⟩:=(HT.out _ HR0.out).kept;have ht2:Tryz.prog.underlying 265=some (.map spK.k 3):=Tryz.underlying265;have HKM:=k_ hkm;clear hkm;have HT2:=k_ ht2;clear ht2
 go_cut [] (fun wx=>TaskAt wx F tb p T { X with kf:=qQ X.kf P.length,kc:=X.kc }∧Fr F w wx)
 case first =>
  go_region_law (first | (go_simp;go_at_call 236;refine(DP.out _ HR0.out).mono ?_;rintro e wq ⟨rfl,rfl⟩) | (refine vN rfl (.tmp 36) (.tmp 40) 265 3 rfl HKM.out HT2.out ⟨((P.length:Int),(0:Int)),hdb,hz0⟩ trivial rfl rfl ?_;intro w9 hm9 ht9))
  all_goals
   obtain⟨hA,hB⟩:=(HT.out _ HR0.out).turned (f:=qQ X.kf P.length) (hm9.congr fun a _=>EP X.kf P.length ⟨hdb,hz0⟩ a) X.kc (by split <;> omega) ht9;have hC:=(Fr.of_below HR0.out F).trans hB (fun _ _ h=>h);clear hm9 ht9 hB;have HA:=k_ hA;clear hA;have HC:=k_ hC;clear hC;go_wp2_with fail
   go_meet
   first | exact⟨HA.out,HC.out⟩ | (case rel=>exact⟨HA.out,HC.out⟩)
 case rest =>
  obtain⟨hTc,hFc⟩:=hcut;clear q4 q7 k3;have q4:=hTc.cells.2.2.2.2.1;rw[HPV.out] at q4;have f4:wc.frozen? ⟨tb,4,none⟩=false:=(aa hTc.row 4).2;obtain⟨hTp,hFp⟩:=hTc.popped HPP.out HPV.out;have hTp:=hTp.below (Below.refl _ _).drew;have hFp:=(hFc.trans hFp (fun _ _ h=>h)).drew;clear hTc hFc HKM;have HTP:=k_ hTp;clear hTp;have HFP:=k_ hFp;clear hFp
  go_upto_region 7 with fail
  go_cut [] (fun wx=>∃ X',TaskAt wx F tb p ⟨T.base,T.words,P,T.marks⟩ X'∧X'.Q X X.al (qQ X.kf P.length)∧Fr F w wx)
  case first =>
   go_region_law (fail)
   all_goals
    go_wp2_with fail
    go_meet
    first | exact⟨_,HTP.out,⟨rfl,rfl,rfl,rfl⟩,HFP.out⟩ | (case rel=>exact⟨_,HTP.out,⟨rfl,rfl,rfl,rfl⟩,HFP.out⟩)
  case rest =>
   obtain⟨X2,hT3,hxq,hF3⟩:=hcut;clear q4 f4;have sp:=fun wr (hw:Below wc.heap.size wc wr)=>HSPOP.out wr X2.mv X2.av (by have:=(hT3.below hw).marks;rw[hHM.out] at this;exact this) (by have:=(hT3.below hw).alarms;rw[hxq.2.1] at this;exact this)
   have q5:=hT3.cells.2.2.2.2.2.1;have q6:=hT3.cells.2.2.2.2.2.2.1;obtain⟨a6,n6,c6,hmv2⟩:=hT3.marks.slice;obtain⟨a7,n7,c7,hav2⟩:=hT3.alarms.slice;rw[hmv2,hav2] at sp;rw[hmv2] at q5;rw[hav2] at q6;have HXQ:=k_ hxq;have HAV2:=k_ hav2;clear hxq hav2;have hw0:=Below.refl wc.heap.size wc;have SP:=k_ sp;clear sp;have HT3:=k_ hT3;clear hT3;have HF3:=k_ hF3;clear hF3;have HMV2:=k_ hmv2;clear hmv2;have HW0:=k_ hw0;clear hw0;go_wp2_with fail;refine(SP.out _ HW0.out).mono ?_;rintro e w4 ⟨v4,u4,rfl,ho4,hu4,hb4⟩;obtain⟨a4,n4,c4,rfl⟩:=ho4.slice;obtain⟨a8,n8,c8,rfl⟩:=hu4.slice;have hT4:=HT3.out.below hb4;have q5:=hT4.cells.2.2.2.2.2.1;have q6:=hT4.cells.2.2.2.2.2.2.1;have f5:w4.frozen? ⟨tb,5,none⟩=false:=(aa hT4.row 5).2;have f6:w4.frozen? ⟨tb,6,none⟩=false:=(aa hT4.row 6).2;obtain⟨hT5,hF5⟩:=hT4.mark ho4 hu4 (fun k hk=>hk.elim (fun h=>HT3.out.flt k h) (fun h=>(HT3.out.out k h).2));have hF6:=(HF3.out.trans (Fr.of_below hb4 F) (fun _ _ h=>h)).trans hF5 (fun k _ hk=>hk);have hnew:∀ k,(F k∨(Value.slice a4 n4 c4).ownBlock=some k)∨(Value.slice a8 n8 c8).ownBlock=some k→F k∨w.heap.size≤k:=fun k hk=>by
    rcases hk with (h1 | h1) | h1
    ·exact .inl h1
    ·have h2:=aZ ho4 h1
     have h3:=HF3.out.size;exact .inr (by omega)
    ·have h2:=aZ hu4 h1
     have h3:=HF3.out.size;exact .inr (by omega)
   have HXR:=k_ (show TB.Q { X2 with mv:=.slice a4 n4 c4,av:=.slice a8 n8 c8,al:=A' } X A' (qQ X.kf P.length) from⟨HXQ.out.1,rfl,HXQ.out.2.2.1,HXQ.out.2.2.2⟩);clear hT4 hb4 ho4 hu4 hF5;have HT5:=k_ hT5;clear hT5;have HF6:=k_ hF6;clear hF6;have HNEW:=k_ hnew;clear hnew
   dsimp only
   go_upto_region 9 with fail
   obtain⟨w5,hw5⟩:∃ w5,w5=(w4.setCell ⟨tb,5,none⟩ (.slice a4 n4 c4)).setCell ⟨tb,6,none⟩ (.slice a8 n8 c8):=⟨_,rfl⟩;rw[← hw5] at HT5 HF6 ⊢;clear hw5 q5 q6 f5 f6;obtain⟨rt,hrt⟩:∃ rt,rt=q.ret:=⟨_,rfl⟩;obtain⟨df,hdf⟩:∃ df,df=m.deferred:=⟨_,rfl⟩;rw[← hrt,← hdf] at HNO HSET ⊢;clear hrt hdf
   by_cases hyes:(has && decide (0≤rt) && !df)=true
   ·obtain⟨rfl,hr0',rfl⟩:has=true∧0≤rt∧df=false:=by
     simp at hyes
     exact⟨hyes.1.1,hyes.1.2,hyes.2⟩
    have st:=HSET.out hyes _ _ _ HT5.out;clear hyes HR0;have ST:=k_ st;clear st;go_wp2_with fail;refine ST.out.mono ?_;rintro e w6 ⟨rfl,hT6,hF7⟩;have hF8:=HF6.out.trans hF7 (fun k hk1 hk2=>(HNEW.out k hk2).elim (fun h=>h) (fun h=>absurd h (by omega)));clear hF7;have HT6:=k_ hT6;clear hT6;have HF8:=k_ hF8;clear hF8;go_wp2_with fail
    go_ret
    exact⟨rfl,_,_,HT6.out,HXR.out,HNEW.out,HF8.out⟩
   ·have hyes:(has && decide (0≤rt) && !df)=false:=by simpa using hyes
    have hT2:=HNO.out hyes;clear HNO HSET HR0;subst hT2;have hfin:∃ F' X',TaskAt w5 F' tb p ⟨T.base,T.words,P,M'⟩ X'∧X'.Q X A' (qQ X.kf P.length)∧(∀ k,F' k→F k∨w.heap.size≤k)∧Fr F w w5:=⟨_,_,HT5.out,HXR.out,HNEW.out,HF6.out⟩;clear HT5 HNEW HF6;have HFIN:=k_ hfin;clear hfin
    cases has
    ·clear hyes
     go_wp2_with fail
     go_ret
     obtain⟨F',X',h1,h4,h2,h3⟩:=HFIN.out;exact⟨rfl,F',X',h1,h4,h2,h3⟩
    ·cases df
     ·have hneg:¬ 0≤rt:=by simpa using hyes
      clear hyes;go_wp2_with fail
      go_ret
      obtain⟨F',X',h1,h4,h2,h3⟩:=HFIN.out;exact⟨rfl,F',X',h1,h4,h2,h3⟩
     ·clear hyes
      by_cases hneg:0≤rt
      ·go_wp2_with fail
       go_ret
       obtain⟨F',X',h1,h4,h2,h3⟩:=HFIN.out;exact⟨rfl,F',X',h1,h4,h2,h3⟩
      ·go_wp2_with fail
       go_ret
       obtain⟨F',X',h1,h4,h2,h3⟩:=HFIN.out;exact⟨rfl,F',X',h1,h4,h2,h3⟩
theorem qX (w:World) (F:Nat→Prop) (tb:Nat) (p:TPrg) (T:Tk) (X:TB) (h:TaskAt w F tb p T X) (hn:T.parts.length≤1000) (n:Nat) (h0:T.parts.length=n+1) :
  Calls Tryz.prog 175 #[.pointer (some ⟨tb,0,none⟩)] w fun e w'=>e=.returned (.int .i64 (T.parts[n]'(by omega)).fn)∧∃ m,w'=w.drewN m:=by
 obtain⟨a,c,hpv,hel⟩:=h.pv;obtain⟨g,rfl,hgo,k0,k1,k2,k3,k4⟩:=hel n (by omega);have tp:=mK w F tb p T X h hn n h0 g hgo;generalize (T.parts[n]'(by omega)).fn=x at *;clear h0 h hel k1 k2 k3 k4 hpv hgo hn;have TP:=k_ tp;clear tp
 go_enter Tryz.func175,Tryz.ntmps175
 go_wp2_with fail;refine TP.out.mono ?_;rintro e w' ⟨rfl,m,rfl⟩;have k0:=ae (below_drewN (Below.refl w.heap.size w) m) k0;go_wp2_with fail
 go_ret
 exact⟨rfl,m,rfl⟩
theorem iA (w:World) (F:Nat→Prop) (tb:Nat) (p:TPrg) (T:Tk) (X:TB) (h:TaskAt w F tb p T X) (hl:T.marks.length≤10000) (hla:X.al.length≤10000) :
  Calls Tryz.prog 171 #[.pointer (some ⟨tb,0,none⟩)] w fun e w'=>e=.returned (.int .i64 (iK T.marks X.al))∧Below w.heap.size w w':=by
 obtain⟨_,_,_,_,_,q5,q6,_⟩:=h.cells;have sp:=Ah w 0 X.mv T.marks h.marks (by omega) 0 X.av X.al h.alarms (by omega);obtain⟨a6,n6,c6,hmv2⟩:=h.marks.slice;obtain⟨a7,n7,c7,hav2⟩:=h.alarms.slice;rw[hmv2,hav2] at sp;rw[hmv2] at q5;rw[hav2] at q6;generalize iK T.marks X.al=x at *;clear hmv2 hav2 h;have SP:=k_ sp;clear sp
 go_enter Tryz.func171,Tryz.ntmps171
 go_wp2_with fail;refine SP.out.mono ?_;rintro e w4 ⟨rfl,hb4⟩;have HB4:=k_ hb4;clear hb4;go_wp2_with fail
 go_ret
 exact⟨rfl,HB4.out⟩
theorem bX (w:World) (g:Nat) (l:List Int) (c:Nat) (hc:∀ j (hj:j<l.length),w.cell? ⟨g,j,none⟩=some (.int .i64 l[j])) (hn:l.length≤100000) :
  Calls Tryz.prog 108 #[.slice (some ⟨g,0,none⟩) l.length c] w fun e w'=>∃ v',e=.returned v'∧Own aG w' w.heap.size v' l∧Below w.heap.size w w':=by
 have ho:=kH aG w [] #[] rfl (by decide);have hb0:=(Below.refl w.heap.size w).alloc (Nat.le_refl _) (.cells #[] aG.e);have hc1:∀ j u,(l.flatMap aG.enc)[j]?=some u→w.cell? ((⟨g,0,none⟩:Addr).add j)=some u:=fun j u hj=>by
  have hlt:j<l.length:=by
   have h1:=(List.getElem?_eq_some_iff.1 hj).1;have h2:=aG.len l;rw[h2] at h1;have h3:aG.size=1:=rfl;rw[h3] at h1
   omega
  have h4:=aG.get l j 0 hlt (by decide);have h5:(l.flatMap aG.enc)[j]?=some (.int .i64 l[j]):=by
   have h6:j * aG.size+0=j:=by show j * 1+0=j;omega
   rw[h6] at h4;rw[h4];rfl
  rw[h5] at hj
  injection hj with hj
  subst hj;have:=hc j hlt
  by_cases hj0:j=0
  ·subst hj0;simpa[Addr.add] using this
  ·simpa[Addr.add,hj0] using this
 have hc2:=fun j u hj=>l8 (o:=.cells #[] aG.e) (hc1 j u hj)
 have hnil:=fun w=>dY aG (some ⟨g,0,none⟩) l.length c w
 have hnil:∀ w,(binOp .eql 44 (.slice (some ⟨g,0,none⟩) l.length c) (.slice none 0 0)).run Tryz.prog w=.ok (.bool false) w:=hnil;clear hc hc1;have HC2:=k_ hc2;clear hc2;have HO:=k_ ho;clear ho;have HB0:=k_ hb0;clear hb0
 go_enter Tryz.func108,Tryz.ntmps108
 go_wp2_with (at_builtin;refine ed aG rfl (.tmp 5) (.tmp 6) rfl w.heap.size [] l _ rfl HO.out ⟨g,0,none⟩ c rfl HC2.out ?c1 ?c2 ?_)
 case c1=>simp;omega
 case c2=>simp
 intro v2 w2 hown2 hg2;have hB2:=below_grown HB0.out HO.out hg2 (by simp) (Nat.le_refl _);clear hg2;have HB2:=k_ hB2;clear hB2;have HOWN2:=k_ hown2;clear hown2;go_wp2_with fail
 go_ret
 exact⟨_,rfl,HOWN2.out,HB2.out⟩
theorem TaskAt.putPart {w:World} {F:Nat→Prop} {tb:Nat} {p:TPrg} {T:Tk} {X:TB} {P:List Part} {q y:Part} {g n c:Nat} (h:TaskAt w F tb p T X) (hP:T.parts=P ++ [q]) (hv:X.pv=.slice (some ⟨g,0,none⟩) n c) (r:Nat) (u:Value) (hy:xR.enc y=(xR.enc q).set r u) :
  TaskAt (w.setCell ⟨g,P.length * 5+r,none⟩ u) F tb p ⟨T.base,T.words,P ++ [y],T.marks⟩ X∧Fr F w (w.setCell ⟨g,P.length * 5+r,none⟩ u):=by
 have hgo:X.pv.ownBlock=some g:=by rw[hv];rfl
 have hfs:Fr (fun k=>k=g) w (w.setCell ⟨g,P.length * 5+r,none⟩ u):=(Fr.refl (fun k=>k=g) w).setCell (p:=⟨g,P.length * 5+r,none⟩) (fun _=>rfl) _;obtain⟨d1,d2,d3,d4,d5,d6,d7⟩:=h.distinct;obtain⟨e1,e2,e3⟩:=d4 g hgo;have ho:=h.parts;rw[hP,hv] at ho;have ho2:=mY ho r u y hy;have hF:∀ k,k=g→F k:=fun k e=>e ▸ h.fp g hgo
 refine⟨?_,hfs.mono hF⟩
 constructor
 ·exact hfs.heap h.row (fun e=>e1 e.symm)
 ·exact h.prg.fr hfs fun k hk e=>(h.out k hk).1 (hF k e)
 ·exact fun k hk=>⟨(h.out k hk).1,Nat.lt_of_lt_of_le (h.out k hk).2 hfs.size⟩
 ·exact hfs.heap h.srow (fun e=>e2 e.symm)
 ·exact hfs.heap h.wrow (fun e=>e3 e.symm)
 ·rw[hv];exact ho2
 ·exact h.marks.fr hfs (fun k hk e=>d6 k (e ▸ hgo) hk)
 ·exact Nat.lt_of_lt_of_le h.kb hfs.size
 ·exact h.kept.imp fun n hm=>⟨hm.1,hm.2.fr hfs (fun e=>by obtain⟨cur,f,hc⟩:=aR h.parts hgo;exact iU hm.2 hc e)⟩
 ·exact h.alarms.fr hfs (fun k hk e=>(d7 k hk).2.2.2.1 (e ▸ hgo))
 ·exact h.ft
 ·exact h.fs
 ·exact h.fw
 ·exact h.fk
 ·exact h.fp
 ·exact h.fm
 ·exact h.fa
 ·exact fun k hk=>Nat.lt_of_lt_of_le (h.flt k hk) hfs.size
theorem qV (w:World) (F:Nat→Prop) (tb:Nat) (p:TPrg) (T:Tk) (X:TB) (h:TaskAt w F tb p T X) (hn:T.parts.length≤1000) (n:Nat) (h0:T.parts.length=n+1) :
  Calls Tryz.prog 176 #[.pointer (some ⟨tb,0,none⟩)] w fun e w'=>e=.returned (.int .i64 (T.parts[n]'(by omega)).pc)∧∃ m,w'=w.drewN m:=by
 obtain⟨a,c,hpv,hel⟩:=h.pv;obtain⟨g,rfl,hgo,k0,k1,k2,k3,k4⟩:=hel n (by omega);have tp:=mK w F tb p T X h hn n h0 g hgo;generalize (T.parts[n]'(by omega)).pc=x at *;clear h0 h hel k0 k2 k3 k4 hpv hgo hn;have TP:=k_ tp;clear tp
 go_enter Tryz.func176,Tryz.ntmps176
 go_wp2_with fail;refine TP.out.mono ?_;rintro e w' ⟨rfl,m,rfl⟩;have k1:=ae (below_drewN (Below.refl w.heap.size w) m) k1;go_wp2_with fail
 go_ret
 exact⟨rfl,m,rfl⟩
theorem Ep (w:World) (F:Nat→Prop) (tb:Nat) (p:TPrg) (T:Tk) (X:TB) (h:TaskAt w F tb p T X) (hn:T.parts.length≤1000) (P:List Part) (q:Part) (hP:T.parts=P ++ [q]) (v:Int) :
  Calls Tryz.prog 247 #[.pointer (some ⟨tb,0,none⟩),.int .i64 v] w fun e w'=>e=.returned (.tuple #[])∧TaskAt w' F tb p ⟨T.base,T.words,P ++ [⟨q.fn,v,q.base,q.ret,q.ta,q.tn,q.tc⟩],T.marks⟩ X∧Fr F w w':=by
 have h0:T.parts.length=P.length+1:=by rw[hP];simp
 obtain⟨a,c,hpv,hel⟩:=h.pv;obtain⟨g,rfl,hgo,k0,k1,k2,k3,k4⟩:=hel P.length (by omega);have tp:=mK w F tb p T X h hn P.length h0 g hgo;have fin:=fun m=>(h.below (below_drewN (Below.refl w.heap.size w) m)).putPart hP (by rw[hpv]) 1 (.int .i64 v) (y:=⟨q.fn,v,q.base,q.ret,q.ta,q.tn,q.tc⟩) rfl
 have hfz:∀ m,(w.drewN m).frozen? ⟨g,P.length * 5+1,none⟩=false:=fun m=>by
  have ho:=(h.below (below_drewN (Below.refl w.heap.size w) m)).parts;rw[hpv,hP] at ho;exact(eD ho 1 _ rfl).2
 have hfr:=fun m=>Fr.of_below (below_drewN (Below.refl w.heap.size w) m) F
 generalize (T.parts[P.length]'(by omega)).pc=x at k1;clear h0 h hel k0 k2 k3 k4 hpv hgo hn hP;have TP:=k_ tp;clear tp;have FIN:=k_ fin;clear fin;have HFR:=k_ hfr;clear hfr
 go_enter Tryz.func247,Tryz.ntmps247
 go_wp2_with fail;refine TP.out.mono ?_;rintro e w' ⟨rfl,m,rfl⟩;have k1:=ae (below_drewN (Below.refl w.heap.size w) m) k1;have hfz:=hfz m;have FINM:=k_ (FIN.out m);have HFRM:=k_ (HFR.out m);generalize w.drewN m=wd at *;go_wp2_with fail
 go_end0
 first | exact⟨rfl,FINM.out.1,HFRM.out.trans FINM.out.2 (fun _ _ h=>h)⟩
def Kg (p:TPrg) (q:Part) (off:Int):Prop:=∃ (j:Nat) (hj:j<p.funcs.length),q.fn=j∧∃ k:Nat,k<p.funcs[j].objects.length∧(atN p p.funcs[j] k:Int)≤off - q.base∧off - q.base<atN p p.funcs[j] (k+1)
def Kz (p:TPrg) (T:Tk) (v:Int):Prop:=T.base≤v∧v<T.base+T.words.length∧∃ q ∈ T.parts,Kg p q (v - T.base)
structure SpotV where (x0 x1 x2:Int) (b3 b4:Bool) (x5:Int) (b6:Bool) (a7:Option Addr) (n7 c7:Nat) (a8:Option Addr) (n8 c8:Nat)
def x9:Elem Tryz.prog SpotV where
 e:=331
 t:=277
 size:=9
 bytes:=96
 zero:=.agg #[.int .i64 0,.int .i64 0,.int .i64 0,.bool false,.bool false,.int .i64 0,.bool false,.slice none 0 0,.slice none 0 0]
 enc:=fun x=>[.int .i64 x.x0,.int .i64 x.x1,.int .i64 x.x2,.bool x.b3,.bool x.b4,.int .i64 x.x5,.bool x.b6,.slice x.a7 x.n7 x.c7,.slice x.a8 x.n8 x.c8]
 ht:=Tryz.underlying277
 info:=by kernel_rfl
 hzs:=rfl
 hsz:=by decide
 hby:=by decide
 henc:=fun _=>rfl
 hone:=fun x u h=>by simp at h;rcases h with rfl | rfl | rfl | rfl | rfl | rfl | rfl | rfl | rfl <;> rfl
def Kh:Elem Tryz.prog (Option Addr × Nat × Nat) where
 e:=289
 t:=278
 size:=1
 bytes:=24
 zero:=.slice none 0 0
 enc:=fun x=>[.slice x.1 x.2.1 x.2.2]
 ht:=Tryz.underlying278
 info:=by kernel_rfl
 hzs:=rfl
 hsz:=by decide
 hby:=by decide
 henc:=fun _=>rfl
 hone:=fun x u h=>by simp at h;subst h;rfl
end Go.Proofs.YtlofbhoicbemnaaGreatDoor.Tk
