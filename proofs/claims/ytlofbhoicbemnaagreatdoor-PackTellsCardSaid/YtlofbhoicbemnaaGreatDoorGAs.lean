/- Walks: a slot is set, and read. Walks: Task.Set, Task.Slot. Walks: a state's lists, copied; one more mark. Lists of one's own: the last .. -/
import Derived.Test.YtlofbhoicbemnaaGreatDoorGAr
import Derived.WalkSmall
set_option linter.unusedVariables false
set_option linter.unusedSimpArgs false
set_option maxRecDepth 100000
set_option maxHeartbeats 1600000
namespace Go.Proofs.YtlofbhoicbemnaaGreatDoor.Tk
open Go.ChangeShapes Go.WideShapes Go.ChangeAt Go.RowKit Go.Maps
theorem aO {w:World} {a b:Nat} {cs cs':Array Value} {t t':TypeId} {f f':Nat × Nat} (h:w.heap[a]?=some (.cells cs t f)) (h':w.heap[b]?=some (.cells cs' t' f')) (ht:t≠t'):a≠b:=by
 rintro rfl;rw[h] at h'
 injection h' with e
 injection e with _ e2 _
 exact ht e2
theorem aR {P:Program} {α:Type} {E:Elem P α} {w:World} {B:Nat} {v:Value} {l:List α} (h:Own E w B v l) {k:Nat} (hk:v.ownBlock=some k):∃ cur f,w.heap[k]?=some (.cells cur E.e f):=by
 rcases h.2 with⟨rfl,_⟩ | ⟨g,cap,cur,rfl,hg,hh,_⟩
 ·cases hk
 ·simp[Value.ownBlock] at hk
  subst hk;exact⟨cur,_,hh⟩
theorem TaskAt.distinct {w:World} {F:Nat→Prop} {tb:Nat} {p:TPrg} {T:Tk} {X:TB} (h:TaskAt w F tb p T X) :
  tb≠X.sb∧tb≠X.wb∧X.sb≠X.wb∧(∀ k,X.pv.ownBlock=some k→k≠tb∧k≠X.sb∧k≠X.wb)∧(∀ k,X.mv.ownBlock=some k→k≠tb∧k≠X.sb∧k≠X.wb)∧(∀ k,X.pv.ownBlock=some k→X.mv.ownBlock≠some k)∧(∀ k,X.av.ownBlock=some k→k≠tb∧k≠X.sb∧k≠X.wb∧X.pv.ownBlock≠some k∧X.mv.ownBlock≠some k):=by
 have hw:=h.wrow;unfold intRow at hw;refine⟨aO h.row h.srow (by decide),aO h.row hw (by decide),aO h.srow hw (by decide),fun k hk=>?_,fun k hk=>?_,fun k hk hk2=>?_,fun k hk=>?_⟩
 ·obtain⟨cur,f,hc⟩:=aR h.parts hk
  exact⟨aO hc h.row (by decide),aO hc h.srow (by decide),aO hc hw (by decide)⟩
 ·obtain⟨cur,f,hc⟩:=aR h.marks hk
  exact⟨aO hc h.row (by decide),aO hc h.srow (by decide),aO hc hw (by decide)⟩
 ·obtain⟨cur,f,hc⟩:=aR h.parts hk
  obtain⟨cur2,f2,hc2⟩:=aR h.marks hk2;exact aO hc hc2 (by decide) rfl
 ·obtain⟨cur,f,hc⟩:=aR h.alarms hk
  refine⟨aO hc h.row (by decide),aO hc h.srow (by decide),aO hc hw (by decide),fun hk2=>?_,fun hk2=>?_⟩
  ·obtain⟨cur2,f2,hc2⟩:=aR h.parts hk2
   exact aO hc hc2 (by decide) rfl
  ·obtain⟨cur2,f2,hc2⟩:=aR h.marks hk2
   exact aO hc hc2 (by decide) rfl
theorem TaskAt.words {w w':World} {F:Nat→Prop} {tb:Nat} {p:TPrg} {T:Tk} {X:TB} (h:TaskAt w F tb p T X) (hf:Fr (fun k=>k=X.wb) w w') (l:List Int) (hl:l.length=T.words.length) (hw:w'.heap[X.wb]?=some (intRow l 3)):TaskAt w' F tb p ⟨T.base,l,T.parts,T.marks⟩ X where
 row:=hf.heap h.row h.distinct.2.1
 prg:=h.prg.fr hf fun k hk e=>(h.out k hk).1 (e ▸ h.fw)
 out:=fun k hk=>⟨(h.out k hk).1,Nat.lt_of_lt_of_le (h.out k hk).2 hf.size⟩
 srow:=by
  show w'.heap[X.sb]?=some (.cells #[.int .i64 T.base,.slice (some ⟨X.wb,0,none⟩) l.length l.length] _)
  rw[hl];exact hf.heap h.srow h.distinct.2.2.1
 wrow:=hw
 parts:=h.parts.fr hf fun k hk=>(h.distinct.2.2.2.1 k hk).2.2
 marks:=h.marks.fr hf fun k hk=>(h.distinct.2.2.2.2.1 k hk).2.2
 kb:=Nat.lt_of_lt_of_le h.kb hf.size
 kept:=h.kept.imp fun n hm=>⟨hm.1,hm.2.fr hf (by have hw:=h.wrow;unfold intRow at hw;exact iU hm.2 hw)⟩
 alarms:=h.alarms.fr hf fun k hk=>(h.distinct.2.2.2.2.2.2 k hk).2.2.1
 ft:=h.ft
 fs:=h.fs
 fw:=h.fw
 fk:=h.fk
 fp:=h.fp
 fm:=h.fm
 fa:=h.fa
 flt:=fun k hk=>Nat.lt_of_lt_of_le (h.flt k hk) hf.size
theorem TaskAt.store {w:World} {F:Nat→Prop} {tb:Nat} {p:TPrg} {T:Tk} {X:TB} (h:TaskAt w F tb p T X) (k:Nat) (v:Int):TaskAt (w.setCell ⟨X.wb,k,none⟩ (.int .i64 v)) F tb p ⟨T.base,T.words.set k v,T.parts,T.marks⟩ X :=
 h.words ((Fr.refl (fun k=>k=X.wb) w).setCell (p:=⟨X.wb,k,none⟩) (fun _=>rfl) _) _ (by simp) (sH h.wrow k v)
theorem EB (w:World) (F:Nat→Prop) (tb:Nat) (p:TPrg) (T:Tk) (X:TB) (h:TaskAt w F tb p T X) (ht:jL T) (n:Nat) (hn:T.parts.length=n+1) (j:Nat) (hj:j<p.funcs.length) (hfj:(T.parts[n]'(by omega)).fn=j) (bn:Nat) (hbn:(T.parts[n]'(by omega)).base=bn) (s:Nat) (hs:(s:Int)<p.funcs[j].slots) (hs2:s≤3000) (hin:bn+(2+s)<T.words.length) (v:Int) :
  Calls Tryz.prog 302 #[.pointer (some ⟨tb,0,none⟩),.int .i64 s,.int .i64 v] w fun e w'=>e=.returned (.bool true)∧TaskAt w' F tb p ⟨T.base,T.words.set (bn+(2+s)) v,T.parts,T.marks⟩ X∧Fr F w w':=by
 have hlt:n<T.parts.length:=by omega
 have dp:=fun wr (hw:Below w.heap.size w wr)=>eF wr F tb p T X (h.below hw)
 have of:=fun wr (hw:Below w.heap.size w wr)=>Gv wr F tb p T X (h.below hw) ht n hlt j hj hfj s hs hs2
 obtain⟨_,_,_,q3,_⟩:=h.cells;rw[hn] at dp;rw[hbn] at of;have i1:IntKind.i64.wrap (((n+1:Nat):Int) - 1)=(n:Int):=by rw[show (((n+1:Nat):Int) - 1)=(n:Int) from by omega];exact IntWalk.i64_in _ (by have:=ht.1;omega)
 have of:∀ wr,Below w.heap.size w wr→Calls Tryz.prog 182 #[.pointer (some ⟨tb,0,none⟩),.agg #[.int .i64 n,.int .i64 s]] wr fun e w'=>e=.returned (.int .i64 (bn+(2+s):Nat))∧Below wr.heap.size wr w':=fun wr hw=>by
  have:=of wr hw;rw[show ((bn:Int)+(2+(s:Int)))=((bn+(2+s):Nat):Int) from by omega] at this;exact this
 have st:=fun wr (hw:Below w.heap.size w wr)=>AY wr X.sb X.wb T.base T.words (h.below hw).st (bn+(2+s)) hin v
 have hfin:∀ wr,Below w.heap.size w wr→TaskAt (wr.setCell ⟨X.wb,bn+(2+s),none⟩ (.int .i64 v)) F tb p ⟨T.base,T.words.set (bn+(2+s)) v,T.parts,T.marks⟩ X∧Fr F w (wr.setCell ⟨X.wb,bn+(2+s),none⟩ (.int .i64 v)):=fun wr hw=>⟨(h.below hw).store _ _,(Fr.of_below hw F).setCell (p:=⟨X.wb,bn+(2+s),none⟩) (fun _=>h.fw) _⟩
 have hr0:=(Below.refl w.heap.size w).drew;generalize bn+(2+s)=off at *;obtain⟨N,hN⟩:∃ N,N=n+1:=⟨_,rfl⟩;rw[← hN] at i1 dp;clear hN hlt hbn hfj hj hs hs2 hin hn h ht;have DP:=k_ dp;clear dp;have OF:=k_ of;clear of;have ST:=k_ st;clear st;have HFIN:=k_ hfin;clear hfin;have HR0:=k_ hr0;clear hr0
 go_enter Tryz.func302,Tryz.ntmps302
 go_upto_region 1 with fail
 go_region_held3 (fun w'=>w'.cell? ⟨tb,3,none⟩=some (.pointer (some ⟨X.sb,0,none⟩))) (first | go_keep | exact q3 | exact qq3 | exact qq4) (first | (go_at_call 236;refine(DP.out _ HR0.out).mono ?_;rintro e wq ⟨rfl,rfl⟩) | (go_at_call 182;refine(OF.out _ HR0.out).mono ?_;rintro e w3 ⟨rfl,hb3⟩;have hbw:=HR0.out.trans (hb3.mono HR0.out.size);have qq3:=ae hbw q3) | (go_at_call 184;refine(ST.out w3 hbw).mono ?_;rintro e w4 ⟨rfl,rfl⟩;have qq4:=(HFIN.out w3 hbw).1.cells.2.2.2.1))
 all_goals
  have hf:=HFIN.out w3 hbw;clear hb3;have HF:=k_ hf;clear hf;have HBW:=k_ hbw;clear hbw;go_wp2_with fail
  go_ret
  exact⟨rfl,HF.out⟩
theorem GX (w:World) (F:Nat→Prop) (tb:Nat) (p:TPrg) (T:Tk) (X:TB) (h:TaskAt w F tb p T X) (ht:jL T) (n:Nat) (hn:T.parts.length=n+1) (j:Nat) (hj:j<p.funcs.length) (hfj:(T.parts[n]'(by omega)).fn=j) (bn:Nat) (hbn:(T.parts[n]'(by omega)).base=bn) (s:Nat) (hs:(s:Int)<p.funcs[j].slots) (hs2:s≤3000) (hin:bn+(2+s)<T.words.length) :
  Calls Tryz.prog 250 #[.pointer (some ⟨tb,0,none⟩),.int .i64 s] w fun e w'=>e=.returned (.int .i64 (T.words[bn+(2+s)]'hin))∧Below w.heap.size w w':=by
 have hlt:n<T.parts.length:=by omega
 have dp:=fun wr (hw:Below w.heap.size w wr)=>eF wr F tb p T X (h.below hw)
 have of:=fun wr (hw:Below w.heap.size w wr)=>Gv wr F tb p T X (h.below hw) ht n hlt j hj hfj s hs hs2
 obtain⟨_,_,_,q3,_⟩:=h.cells;rw[hn] at dp;rw[hbn] at of;have i1:IntKind.i64.wrap (((n+1:Nat):Int) - 1)=(n:Int):=by rw[show (((n+1:Nat):Int) - 1)=(n:Int) from by omega];exact IntWalk.i64_in _ (by have:=ht.1;omega)
 have of:∀ wr,Below w.heap.size w wr→Calls Tryz.prog 182 #[.pointer (some ⟨tb,0,none⟩),.agg #[.int .i64 n,.int .i64 s]] wr fun e w'=>e=.returned (.int .i64 (bn+(2+s):Nat))∧Below wr.heap.size wr w':=fun wr hw=>by
  have:=of wr hw;rw[show ((bn:Int)+(2+(s:Int)))=((bn+(2+s):Nat):Int) from by omega] at this;exact this
 have ld:∀ V:bP w,Calls Tryz.prog 183 _ V.val _:=fun V=>uM V.val X.sb X.wb T.base T.words (h.below V.2).st (bn+(2+s)) hin
 have dp:∀ V:bP w,Calls Tryz.prog 236 _ V.val _:=fun V=>dp V.val V.2
 have of:∀ V:bP w,Calls Tryz.prog 182 _ V.val _:=fun V=>of V.val V.2
 have Q3:=fun V:bP w=>V.cell q3
 generalize T.words[bn+(2+s)]=x at *;generalize bn+(2+s)=off at *;obtain⟨N,hN⟩:∃ N,N=n+1:=⟨_,rfl⟩;rw[← hN] at i1 dp;clear hN hlt hbn hfj hj hs hs2 hin hn h ht q3;have DP:=k_ dp;clear dp;have OF:=k_ of;clear of;have LD:=k_ ld;clear ld
 go_enter Tryz.func250,Tryz.ntmps250
 go_upto_region 3 with fail
 refine bu (by kernel_rfl) (by kernel_rfl) ?_
 repeat (go_big_quiet_step (first | (go_at_call 236;exact Calls.below_same (DP.out _)) | (go_at_call 182;exact Calls.below_of (OF.out _)) | (go_at_call 183;exact Calls.below_same (LD.out _))))
 refine wpQuiet_nil ?_;rintro _ ⟨WL,rfl⟩;have HL:=k_ WL.2;go_wp2_with fail
 go_ret
 exact⟨rfl,HL.out⟩
theorem l8 {w:World} {b j:Nat} {o:Obj} {v:Value} (h:w.cell? ((⟨b,0,none⟩:Addr).add j)=some v):(w.alloc o).cell? ((⟨b,0,none⟩:Addr).add j)=some v:=by
 have hb:((⟨b,0,none⟩:Addr).add j).block<w.heap.size:=World.block_lt h;rw[aY _ _ hb];exact h
theorem rU (w:World) (B:Nat) (v:Value) (l:List Mark) (h:Own dN w B v l) (hn:l.length≤100000) :
  Calls Tryz.prog 353 #[v] w fun e w'=>∃ v',e=.returned v'∧Own dN w' w.heap.size v' l∧Below w.heap.size w w':=by
 have hc:=fun g hg=>World.ownsRow.cells (g:=g) h hg
 rcases h.2 with⟨rfl,h0⟩ | ⟨g,cap,cur,rfl,hg,hh,_⟩
 ·have hl:l=[]:=List.length_eq_zero_iff.1 h0
  subst hl;have hnil:=fun w=>dY dN none 0 0 w
  have hnil:∀ w,(binOp .eql 267 (.slice none 0 0) (.slice none 0 0)).run Tryz.prog w=.ok (.bool true) w:=hnil;clear hc h h0
  go_enter Tryz.func353,Tryz.ntmps353
  go_wp2_with fail
  go_ret
  exact⟨_,rfl,Own.nil _ _ _,Below.refl _ _⟩
 ·have hc1:=hc g rfl
  have ho:=kH dN w [] #[] rfl (by decide);have hb0:=(Below.refl w.heap.size w).alloc (Nat.le_refl _) (.cells #[] dN.e);have hc2:=fun j u hj=>l8 (o:=.cells #[] dN.e) (hc1 j u hj)
  have hnil:=fun w=>dY dN (some ⟨g,0,none⟩) l.length cap w
  have hnil:∀ w,(binOp .eql 267 (.slice (some ⟨g,0,none⟩) l.length cap) (.slice none 0 0)).run Tryz.prog w=.ok (.bool false) w:=hnil;clear hc hc1 h;have HC2:=k_ hc2;clear hc2;have HO:=k_ ho;clear ho;have HB0:=k_ hb0;clear hb0
  go_enter Tryz.func353,Tryz.ntmps353
  go_wp2_with (at_builtin;refine ed dN rfl (.tmp 5) (.tmp 6) rfl w.heap.size [] l _ rfl HO.out ⟨g,0,none⟩ cap rfl HC2.out ?c1 ?c2 ?_)
  case c1=>simp;omega
  case c2=>simp
  intro v2 w2 hown2 hg2;have hB2:=below_grown HB0.out HO.out hg2 (by simp) (Nat.le_refl _);clear hg2;have HB2:=k_ hB2;clear hB2;have HOWN2:=k_ hown2;clear hown2;go_wp2_with fail
  go_ret
  exact⟨_,rfl,HOWN2.out,HB2.out⟩
theorem lD (w:World) (B:Nat) (v:Value) (l:List Alarm) (h:Own bG w B v l) (hn:l.length≤100000) :
  Calls Tryz.prog 239 #[v] w fun e w'=>∃ v',e=.returned v'∧Own bG w' w.heap.size v' l∧Below w.heap.size w w':=by
 have hc:=fun g hg=>World.ownsRow.cells (g:=g) h hg
 rcases h.2 with⟨rfl,h0⟩ | ⟨g,cap,cur,rfl,hg,hh,_⟩
 ·have hl:l=[]:=List.length_eq_zero_iff.1 h0
  subst hl;have hnil:=fun w=>dY bG none 0 0 w
  have hnil:∀ w,(binOp .eql 268 (.slice none 0 0) (.slice none 0 0)).run Tryz.prog w=.ok (.bool true) w:=hnil;clear hc h h0
  go_enter Tryz.func239,Tryz.ntmps239
  go_wp2_with fail
  go_ret
  exact⟨_,rfl,Own.nil _ _ _,Below.refl _ _⟩
 ·have hc1:=hc g rfl
  have ho:=kH bG w [] #[] rfl (by decide);have hb0:=(Below.refl w.heap.size w).alloc (Nat.le_refl _) (.cells #[] bG.e);have hc2:=fun j u hj=>l8 (o:=.cells #[] bG.e) (hc1 j u hj)
  have hnil:=fun w=>dY bG (some ⟨g,0,none⟩) l.length cap w
  have hnil:∀ w,(binOp .eql 268 (.slice (some ⟨g,0,none⟩) l.length cap) (.slice none 0 0)).run Tryz.prog w=.ok (.bool false) w:=hnil;clear hc hc1 h;have HC2:=k_ hc2;clear hc2;have HO:=k_ ho;clear ho;have HB0:=k_ hb0;clear hb0
  go_enter Tryz.func239,Tryz.ntmps239
  go_wp2_with (at_builtin;refine ed bG rfl (.tmp 5) (.tmp 6) rfl w.heap.size [] l _ rfl HO.out ⟨g,0,none⟩ cap rfl HC2.out ?c1 ?c2 ?_)
  case c1=>simp;omega
  case c2=>simp
  intro v2 w2 hown2 hg2;have hB2:=below_grown HB0.out HO.out hg2 (by simp) (Nat.le_refl _);clear hg2;have HB2:=k_ hB2;clear hB2;have HOWN2:=k_ hown2;clear hown2;go_wp2_with fail
  go_ret
  exact⟨_,rfl,HOWN2.out,HB2.out⟩
theorem iJ {P:Program} {α:Type} {E:Elem P α} {w:World} {B:Nat} {v:Value} {l:List α} {x:α} (h:Own E w B v (l ++ [x])):∃ g cap,v=.slice (some ⟨g,0,none⟩) (l.length+1) cap∧l.length+1≤cap∧Own E w B (.slice (some ⟨g,0,none⟩) l.length cap) l:=by
 have h0:w.ownsRow B E.e E.size v (l ++ [x]).length ((l ++ [x]).flatMap E.enc):=h;rw[List.length_append,List.flatMap_append] at h0;have h1:w.ownsRow B E.e E.size v (l.length+1) (l.flatMap E.enc ++ [x].flatMap E.enc):=h0
 rcases id h1.2 with⟨_,hz⟩ | ⟨g,cap,cur,hv,_,_,hc,_⟩
 ·exact absurd hz (by omega)
 subst hv;exact⟨g,cap,rfl,hc,ownsRow_pop (E.len l) h1⟩
theorem mY {P:Program} {α:Type} {E:Elem P α} {w:World} {B:Nat} {l:List α} {x:α} {g n cap:Nat} (h:Own E w B (.slice (some ⟨g,0,none⟩) n cap) (l ++ [x])) (r:Nat) (u:Value) (y:α) (hy:E.enc y=(E.enc x).set r u):Own E (w.setCell ⟨g,l.length * E.size+r,none⟩ u) B (.slice (some ⟨g,0,none⟩) n cap) (l ++ [y]):=by
 obtain⟨g',cap',he,_,_⟩:=iJ h
 injection he with e1 e2 e3
 injection e1 with e1
 injection e1 with e1
 subst e1 e2 e3;have h0:w.ownsRow B E.e E.size (.slice (some ⟨g,0,none⟩) (l.length+1) cap) (l ++ [x]).length ((l ++ [x]).flatMap E.enc):=h;rw[List.length_append,List.flatMap_append] at h0;have h1:w.ownsRow B E.e E.size (.slice (some ⟨g,0,none⟩) (l.length+1) cap) (l.length+1) (l.flatMap E.enc ++ [x].flatMap E.enc):=h0;have h2:=(World.ownsRow.stored h1 (l.length * E.size+r) u).1;unfold Own;rw[List.length_append,List.flatMap_append];have h3:(l.flatMap E.enc ++ [x].flatMap E.enc).set (l.length * E.size+r) u=l.flatMap E.enc ++ [y].flatMap E.enc:=by
  rw[← E.len l,List.set_append_right _ _ (Nat.le_add_right _ _),Nat.add_sub_cancel_left]
  simp[hy]
 rw[h3] at h2;exact h2
theorem eD {P:Program} {α:Type} {E:Elem P α} {w:World} {B:Nat} {l:List α} {x:α} {g n cap:Nat} (h:Own E w B (.slice (some ⟨g,0,none⟩) n cap) (l ++ [x])) (r:Nat) (u:Value) (hu:(E.enc x)[r]?=some u):w.cell? ⟨g,l.length * E.size+r,none⟩=some u∧w.frozen? ⟨g,l.length * E.size+r,none⟩=false:=by
 obtain⟨a,c,h1,h2⟩:=aP h
 injection h1 with e1 e2 e3
 obtain⟨b,h3,h4,h5⟩:=h2 l.length (by simp);rw[← e1] at h3
 injection h3 with h3
 injection h3 with h3
 subst h3;refine⟨h5 r u (by simpa using hu),?_⟩;obtain⟨g',cap',he,_,_⟩:=iJ h
 injection he with e4 e5 e6
 subst e5;have h0:w.ownsRow B E.e E.size (.slice (some ⟨g,0,none⟩) (l.length+1) cap) (l.length+1) ((l ++ [x]).flatMap E.enc):=by
  have h0:w.ownsRow B E.e E.size (.slice (some ⟨g,0,none⟩) (l.length+1) cap) (l ++ [x]).length ((l ++ [x]).flatMap E.enc):=h;rw[List.length_append] at h0;exact h0
 exact World.ownsRow.frozenAt h0 _
theorem aZ {P:Program} {α:Type} {E:Elem P α} {w:World} {B:Nat} {v:Value} {l:List α} (h:Own E w B v l) {k:Nat} (hk:v.ownBlock=some k):B≤k:=(h.lt hk).1
theorem wF (w:World) (B:Nat) (v:Value) (l:List Mark) (h:Own dN w B v l) (hn:l.length≤100000) (B2:Nat) (av:Value) (A:List Alarm) (ha:Own bG w B2 av A) (hna:A.length≤100000) :
  Calls Tryz.prog 303 #[.agg #[v,av]] w fun e w'=>∃ v' av',e=.returned (.agg #[v',av'])∧Own dN w' w.heap.size v' l∧Own bG w' w.heap.size av' A∧Below w.heap.size w w':=by
 obtain⟨a,n,c,rfl⟩:=h.slice;obtain⟨a',n',c',rfl⟩:=ha.slice;have hbx:=fun wr h=>nz w #[.slice a n c,.slice a' n' c'] #[.slice none 0 0,.slice none 0 0] 270 270 wr h
 have hz0:((w.alloc (.cells #[.slice a n c,.slice a' n' c'] 270)).alloc (.cells #[.slice none 0 0,.slice none 0 0] 270)).heap.size=w.heap.size+2:=by simp
 have hrow:=ai (w.alloc (.cells #[.slice a n c,.slice a' n' c'] 270)) (.cells #[.slice none 0 0,.slice none 0 0] 270);rw[show (w.alloc (.cells #[.slice a n c,.slice a' n' c'] 270)).heap.size=w.heap.size+1 from by simp] at hrow;obtain⟨W,hW⟩:∃ W,W=(w.alloc (.cells #[.slice a n c,.slice a' n' c'] 270)).alloc (.cells #[.slice none 0 0,.slice none 0 0] 270):=⟨_,rfl⟩;rw[← hW] at hbx hz0 hrow;have hb:=hbx W (by rw[← hz0];exact Below.refl _ _);have k0:=hb.1 0 _ rfl;have k1:=hb.1 1 _ rfl;have hb0:=hb.2.2.1;have cm:=rU W.drew B (.slice a n c) l ((h.below hb0).drew) hn;have ca:=fun wx (hx:Below W.heap.size W wx)=>lD wx B2 (.slice a' n' c') A ((ha.below hb0).below hx) hna
 have hr0:=(Below.refl W.heap.size W).drew;have hzw:w.heap.size+1<W.heap.size:=by omega
 have HW:=k_ hW;have HROW:=k_ hrow;have HZW:=k_ hzw;clear hW hbx hz0 hb hrow hzw h ha;have CM:=k_ cm;clear cm;have CA:=k_ ca;clear ca;have HB0:=k_ hb0;clear hb0;have HR0:=k_ hr0;clear hr0
 go_enter Tryz.func303,Tryz.ntmps303
 go_upto_region 1 with fail
 rw[← HW.out]
 go_region_held3 (fun w'=>w'.cell? ⟨w.heap.size,0,none⟩=some (.slice a n c)∧w'.cell? ⟨w.heap.size,1,none⟩=some (.slice a' n' c')) (first | go_keep | exact⟨k0,k1⟩ | exact⟨kk0,kk1⟩ | exact⟨kq0,kq1⟩) (first
  | (go_at_call 353
     refine CM.out.mono ?_;rintro e w3 ⟨v3,rfl,ho3,hb3⟩;obtain⟨a3,n3,c3,rfl⟩:=ho3.slice;have hb3':=HR0.out.trans (hb3.mono HR0.out.size);have kk0:=ae hb3' k0;have kk1:=ae hb3' k1;have hrow3:=(fb_ hb3').heap HROW.out (fun h=>h))
  | (go_at_call 239
     refine(CA.out _ hb3').mono ?_;rintro e w4 ⟨v4,rfl,ho4,hb4⟩;obtain⟨a4,n4,c4,rfl⟩:=ho4.slice;have hb4':=hb3'.trans (hb4.mono hb3'.size);have kq0:=ae hb4 kk0;have kq1:=ae hb4 kk1;have hrow4:=(fb_ hb4).heap hrow3 (fun h=>h);have ho5:=ho3.below hb4;have hz3:=hb3'.size;obtain⟨_,_,f0,f1⟩:_∧_∧w4.frozen? ⟨w.heap.size+1,0,none⟩=false∧w4.frozen? ⟨w.heap.size+1,1,none⟩=false:=⟨(aa hrow4 0).1,(aa hrow4 1).1,(aa hrow4 0).2,(aa hrow4 1).2⟩))
 have hf:Fr (fun q=>q=w.heap.size+1) w4 _:=((Fr.refl (fun q=>q=w.heap.size+1) w4).setCell (p:=⟨w.heap.size+1,0,none⟩) (fun _=>rfl) (.slice a3 n3 c3)).setCell (p:=⟨w.heap.size+1,1,none⟩) (fun _=>rfl) (.slice a4 n4 c4);have hr:=ag (ag hrow4 0 (.slice a3 n3 c3)) 1 (.slice a4 n4 c4);have hd0:W.drew.heap.size=W.heap.size:=rfl;have hlow:∀ k,(Value.slice a3 n3 c3).ownBlock=some k→w.heap.size+1<k:=fun k hk=>by have:=(ho3.lt hk).1;have:=HZW.out;omega
 have hlow4:∀ k,(Value.slice a4 n4 c4).ownBlock=some k→w.heap.size+1<k:=fun k hk=>by have:=(ho4.lt hk).1;have:=HZW.out;omega
 have ho:=(ho5.fr hf (fun k hk e=>by have:=hlow k hk;omega)).base (B':=w.heap.size) (fun k hk=>by have:=hlow k hk;omega);have hoA:=(ho4.fr hf (fun k hk e=>by have:=hlow4 k hk;omega)).base (B':=w.heap.size) (fun k hk=>by have:=hlow4 k hk;omega);have hbz:=HB0.out.trans (hb4'.mono HB0.out.size);have hbf:=hbz.trans (hf.below hbz.size (fun k hk=>by omega));have hP:(fun (e:Ending) (w':World)=>∃ v' av',e=.returned (.agg #[v',av'])∧Own dN w' w.heap.size v' l∧Own bG w' w.heap.size av' A∧Below w.heap.size w w') (.returned (.agg #[.slice a3 n3 c3,.slice a4 n4 c4])) _:=⟨_,_,rfl,ho,hoA,hbf⟩;clear hf ho hoA hbz hbf hlow hlow4 ho3 hb3 hb3' hrow3 ho4 ho5 hb4 hb4' hrow4;have HR:=k_ hr;clear hr;have HP:=k_ hP;clear hP
 go_wp2_with (with_reducible refine bodyPost_ret ?_ rfl HP.out;have k0:=(aa HR.out 0).1;have k1:=(aa HR.out 1).1;simp at k0 k1;simp[results,Tryz.results303,go_sem,k0,k1])
structure SOwn (w0:World) (M:List Mark) (A:List Alarm) (mv av:Value) (w:World):Prop where
 row:w.heap[w0.heap.size]?=some (.cells #[mv,av] 270)
 res:w.heap[w0.heap.size+1]?=some (.cells #[.slice none 0 0,.slice none 0 0] 270)
 om:Own dN w (w0.heap.size+2) mv M
 oa:Own bG w (w0.heap.size+2) av A
 b:Below w0.heap.size w0 w
 sz:w0.heap.size+2≤w.heap.size
theorem SOwn.below {w0 w w':World} {M:List Mark} {A:List Alarm} {mv av:Value} (h:SOwn w0 M A mv av w) (hb:Below w.heap.size w w'):SOwn w0 M A mv av w' where
 row:=(fb_ hb).heap h.row (fun h=>h)
 res:=(fb_ hb).heap h.res (fun h=>h)
 om:=h.om.below hb
 oa:=h.oa.below hb
 b:=h.b.trans (hb.mono h.b.size)
 sz:=Nat.le_trans h.sz hb.size
theorem SOwn.cells {w0 w:World} {M:List Mark} {A:List Alarm} {mv av:Value} (h:SOwn w0 M A mv av w):w.cell? ⟨w0.heap.size,0,none⟩=some mv∧w.cell? ⟨w0.heap.size,1,none⟩=some av∧w.frozen? ⟨w0.heap.size,0,none⟩=false∧w.frozen? ⟨w0.heap.size,1,none⟩=false:=⟨(aa h.row 0).1,(aa h.row 1).1,(aa h.row 0).2,(aa h.row 1).2⟩
theorem SOwn.rcells {w0 w:World} {M:List Mark} {A:List Alarm} {mv av:Value} (h:SOwn w0 M A mv av w):w.cell? ⟨w0.heap.size+1,0,none⟩=some (.slice none 0 0)∧w.cell? ⟨w0.heap.size+1,1,none⟩=some (.slice none 0 0)∧w.frozen? ⟨w0.heap.size+1,0,none⟩=false∧w.frozen? ⟨w0.heap.size+1,1,none⟩=false:=⟨(aa h.res 0).1,(aa h.res 1).1,(aa h.res 0).2,(aa h.res 1).2⟩
theorem SOwn.set {w0 w:World} {M M':List Mark} {A A':List Alarm} {mv av mv' av':Value} (h:SOwn w0 M A mv av w) (hm:Own dN w (w0.heap.size+2) mv' M') (ha:Own bG w (w0.heap.size+2) av' A'):SOwn w0 M' A' mv' av' ((w.setCell ⟨w0.heap.size,0,none⟩ mv').setCell ⟨w0.heap.size,1,none⟩ av'):=by
 have hf:Fr (fun q=>q=w0.heap.size) w ((w.setCell ⟨w0.heap.size,0,none⟩ mv').setCell ⟨w0.heap.size,1,none⟩ av'):=((Fr.refl (fun q=>q=w0.heap.size) w).setCell (p:=⟨w0.heap.size,0,none⟩) (fun _=>rfl) _).setCell (p:=⟨w0.heap.size,1,none⟩) (fun _=>rfl) _;refine⟨?_,hf.heap h.res (by show ¬ w0.heap.size+1=w0.heap.size;omega),hm.fr hf (fun k hk e=>by have:=aZ hm hk;omega),ha.fr hf (fun k hk e=>by have:=aZ ha hk;omega),h.b.trans (hf.below h.b.size (fun k hk=>by omega)),Nat.le_trans h.sz hf.size⟩;have:=ag (ag h.row 0 mv') 1 av'
 simpa using this
theorem SOwn.set0 {w0 w:World} {M M':List Mark} {A:List Alarm} {mv av mv':Value} (h:SOwn w0 M A mv av w) (hm:Own dN w (w0.heap.size+2) mv' M'):SOwn w0 M' A mv' av (w.setCell ⟨w0.heap.size,0,none⟩ mv'):=by
 have hf:Fr (fun q=>q=w0.heap.size) w (w.setCell ⟨w0.heap.size,0,none⟩ mv'):=(Fr.refl (fun q=>q=w0.heap.size) w).setCell (p:=⟨w0.heap.size,0,none⟩) (fun _=>rfl) _;refine⟨?_,hf.heap h.res (by show ¬ w0.heap.size+1=w0.heap.size;omega),hm.fr hf (fun k hk e=>by have:=aZ hm hk;omega),h.oa.fr hf (fun k hk e=>by have:=aZ h.oa hk;omega),h.b.trans (hf.below h.b.size (fun k hk=>by omega)),Nat.le_trans h.sz hf.size⟩;have:=ag h.row 0 mv'
 simpa using this
theorem SOwn.done {w0 w:World} {M:List Mark} {A:List Alarm} {mv av:Value} (h:SOwn w0 M A mv av w):((w.setCell ⟨w0.heap.size+1,0,none⟩ mv).setCell ⟨w0.heap.size+1,1,none⟩ av).heap[w0.heap.size+1]?=some (.cells #[mv,av] 270)∧Own dN ((w.setCell ⟨w0.heap.size+1,0,none⟩ mv).setCell ⟨w0.heap.size+1,1,none⟩ av) w0.heap.size mv M∧Own bG ((w.setCell ⟨w0.heap.size+1,0,none⟩ mv).setCell ⟨w0.heap.size+1,1,none⟩ av) w0.heap.size av A∧Below w0.heap.size w0 ((w.setCell ⟨w0.heap.size+1,0,none⟩ mv).setCell ⟨w0.heap.size+1,1,none⟩ av):=by
 have hf:Fr (fun q=>q=w0.heap.size+1) w ((w.setCell ⟨w0.heap.size+1,0,none⟩ mv).setCell ⟨w0.heap.size+1,1,none⟩ av):=((Fr.refl (fun q=>q=w0.heap.size+1) w).setCell (p:=⟨w0.heap.size+1,0,none⟩) (fun _=>rfl) _).setCell (p:=⟨w0.heap.size+1,1,none⟩) (fun _=>rfl) _;refine⟨?_,(h.om.fr hf (fun k hk e=>by have:=aZ h.om hk;omega)).base (fun k hk=>by have:=aZ h.om hk;omega),(h.oa.fr hf (fun k hk e=>by have:=aZ h.oa hk;omega)).base (fun k hk=>by have:=aZ h.oa hk;omega),h.b.trans (hf.below h.b.size (fun k hk=>by omega))⟩;have:=ag (ag h.res 0 mv) 1 av
 simpa using this
theorem SOwn.start {w0 w:World} {M:List Mark} {A:List Alarm} {mv av x y:Value} {B B2:Nat} (hr:w.heap[w0.heap.size]?=some (.cells #[x,y] 270)) (hs:w.heap[w0.heap.size+1]?=some (.cells #[.slice none 0 0,.slice none 0 0] 270)) (hm:Own dN w B mv M) (ha:Own bG w B2 av A) (hB:w0.heap.size+2≤B) (hB2:w0.heap.size+2≤B2) (hb:Below w0.heap.size w0 w):SOwn w0 M A mv av ((w.setCell ⟨w0.heap.size,0,none⟩ mv).setCell ⟨w0.heap.size,1,none⟩ av):=by
 have hf:Fr (fun q=>q=w0.heap.size) w ((w.setCell ⟨w0.heap.size,0,none⟩ mv).setCell ⟨w0.heap.size,1,none⟩ av):=((Fr.refl (fun q=>q=w0.heap.size) w).setCell (p:=⟨w0.heap.size,0,none⟩) (fun _=>rfl) _).setCell (p:=⟨w0.heap.size,1,none⟩) (fun _=>rfl) _;have hz:=aj hs;refine⟨?_,hf.heap hs (by show ¬ w0.heap.size+1=w0.heap.size;omega),(hm.fr hf (fun k hk e=>by have:=aZ hm hk;omega)).base (fun k hk=>by have:=aZ hm hk;omega),(ha.fr hf (fun k hk e=>by have:=aZ ha hk;omega)).base (fun k hk=>by have:=aZ ha hk;omega),hb.trans (hf.below hb.size (fun k hk=>by omega)),?_⟩
 ·have:=ag (ag hr 0 mv) 1 av
  simpa using this
 ·have:=hf.size
  omega
theorem SOwn.appendM {w0 w w5:World} {M M':List Mark} {A:List Alarm} {mv av v5:Value} {ob:Obj} (h:SOwn w0 M A mv av w) (ho:Own dN w5 (w0.heap.size+2) v5 M') (hg:(w.alloc ob).grownBy w5 mv.ownBlock):w5.heap[w0.heap.size]?=some (.cells #[mv,av] 270)∧SOwn w0 M' A v5 av (w5.setCell ⟨w0.heap.size,0,none⟩ v5):=by
 have hfr:Fr (fun k=>mv.ownBlock=some k) w w5:=((Fr.refl (fun k=>mv.ownBlock=some k) w).alloc ob).grown hg (fun k hk _=>hk);have hr:=hfr.heap h.row (fun e=>by have:=aZ h.om e;omega);have hs:=hfr.heap h.res (fun e=>by have:=aZ h.om e;omega);have ha:=h.oa.fr hfr (fun k hk e=>by
  obtain⟨c1,f1,h1⟩:=aR h.oa hk;obtain⟨c2,f2,h2⟩:=aR h.om e;exact aO h1 h2 (by decide) rfl)
 have hb:=h.b.trans (hfr.below h.b.size (fun k hk=>by have:=aZ h.om hk;omega));refine⟨hr,?_⟩;have hf:Fr (fun q=>q=w0.heap.size) w5 (w5.setCell ⟨w0.heap.size,0,none⟩ v5):=(Fr.refl (fun q=>q=w0.heap.size) w5).setCell (p:=⟨w0.heap.size,0,none⟩) (fun _=>rfl) _;refine⟨?_,hf.heap hs (by show ¬ w0.heap.size+1=w0.heap.size;omega),ho.fr hf (fun k hk e=>by have:=aZ ho hk;omega),ha.fr hf (fun k hk e=>by have:=aZ ha hk;omega),hb.trans (hf.below hb.size (fun k hk=>by omega)),Nat.le_trans (Nat.le_trans h.sz hfr.size) hf.size⟩;have:=ag hr 0 v5
 simpa using this
theorem SOwn.appendA {w0 w w5:World} {M:List Mark} {A A':List Alarm} {mv av v5:Value} {ob:Obj} (h:SOwn w0 M A mv av w) (ho:Own bG w5 (w0.heap.size+2) v5 A') (hg:(w.alloc ob).grownBy w5 av.ownBlock):w5.heap[w0.heap.size]?=some (.cells #[mv,av] 270)∧SOwn w0 M A' mv v5 (w5.setCell ⟨w0.heap.size,1,none⟩ v5):=by
 have hfr:Fr (fun k=>av.ownBlock=some k) w w5:=((Fr.refl (fun k=>av.ownBlock=some k) w).alloc ob).grown hg (fun k hk _=>hk);have hr:=hfr.heap h.row (fun e=>by have:=aZ h.oa e;omega);have hs:=hfr.heap h.res (fun e=>by have:=aZ h.oa e;omega);have hm:=h.om.fr hfr (fun k hk e=>by
  obtain⟨c1,f1,h1⟩:=aR h.om hk;obtain⟨c2,f2,h2⟩:=aR h.oa e;exact aO h1 h2 (by decide) rfl)
 have hb:=h.b.trans (hfr.below h.b.size (fun k hk=>by have:=aZ h.oa hk;omega));refine⟨hr,?_⟩;have hf:Fr (fun q=>q=w0.heap.size) w5 (w5.setCell ⟨w0.heap.size,1,none⟩ v5):=(Fr.refl (fun q=>q=w0.heap.size) w5).setCell (p:=⟨w0.heap.size,1,none⟩) (fun _=>rfl) _;refine⟨?_,hf.heap hs (by show ¬ w0.heap.size+1=w0.heap.size;omega),hm.fr hf (fun k hk e=>by have:=aZ hm hk;omega),ho.fr hf (fun k hk e=>by have:=aZ ho hk;omega),hb.trans (hf.below hb.size (fun k hk=>by omega)),Nat.le_trans (Nat.le_trans h.sz hfr.size) hf.size⟩;have:=ag hr 1 v5
 simpa using this
def nQ (w:World) (M:List Mark) (A:List Alarm) (e:Ending) (w':World):Prop:=∃ v' av',e=.returned (.agg #[v',av'])∧Own dN w' w.heap.size v' M∧Own bG w' w.heap.size av' A∧Below w.heap.size w w'
def pV (l:List Int) (o n:Nat):List Int:=(List.range n).foldl (fun s i=>s.set (o+i) 0) l
theorem sK (l:List Int) (o n:Nat):(pV l o n).length=l.length:=Dj n o l
theorem Cb (w:World) (sb wb:Nat) (base:Int) (l:List Int) (h:nC w sb wb base l) (hl:l.length≤100000) (o n:Nat) (hn:0<n) (hon:o+n≤l.length) :
  Calls Tryz.prog 301 #[.pointer (some ⟨sb,0,none⟩),.int .i64 o,.int .i64 (o+n:Nat)] w fun e w'=>e=.returned (.tuple #[])∧w'=w.setCells wb o (List.replicate n (.int .i64 0)):=by
 have ws:=mH w sb wb base l h;obtain⟨_,k1⟩:=h.cells;have hcl:∀ (c:Nat) ty,(Builtin.clear_ #[44] ty #[.slice (some ⟨wb,o,none⟩) n c]).run Tryz.prog w=.ok (.tuple #[]) (w.setCells wb o (List.replicate n (.int .i64 0))):=fun c ty =>
  Lib.run_clear_slice w 44 3 ty (.int .i64 0) Tryz.underlying44 dQ rfl rfl wb o n c hn (fun j hj=>by rw[(h.word (o+j) (by omega)).1];rfl) (fun j hj=>(h.word (o+j) (by omega)).2)
 clear h;obtain⟨e,he⟩:∃ e,e=o+n:=⟨_,rfl⟩;rw[← he];have n0:(0:Int)≤(o:Int):=by omega
 have n1:(e:Int)≤(l.length:Int):=by omega
 have n2:(o:Int)<(e:Int):=by omega
 have n3:¬ (l.length:Int)<(e:Int):=by omega
 have n4:e - o=n:=by omega
 have n5:e≤l.length:=by omega
 have n6:o≤e:=by omega
 have n7:(o:Int)≤(e:Int):=by omega
 clear he hon;have WS:=k_ ws;clear ws
 go_enter Tryz.func301,Tryz.ntmps301
 go_wp2_with fail;refine WS.out.mono ?_;rintro e w' ⟨rfl,rfl⟩
 go_wp2_with (simp only[hcl])
 go_end0
 exact⟨rfl,rfl⟩
theorem TaskAt.push {w w5:World} {F:Nat→Prop} {tb:Nat} {p:TPrg} {T:Tk} {X:TB} {ob:Obj} {v5:Value} {l:List Part} (h:TaskAt w F tb p T X) (ho:Own xR w5 0 v5 l) (hg:(w.alloc ob).grownBy w5 X.pv.ownBlock) (hf:eO (w.alloc ob) X.pv v5) :
  TaskAt (w5.setCell ⟨tb,4,none⟩ v5) (fun k=>F k∨v5.ownBlock=some k) tb p ⟨T.base,T.words,l,T.marks⟩ { X with pv:=v5 }∧Fr F w (w5.setCell ⟨tb,4,none⟩ v5):=by
 have hfr:Fr (fun k=>X.pv.ownBlock=some k) w w5:=((Fr.refl (fun k=>X.pv.ownBlock=some k) w).alloc ob).grown hg (fun k hk _=>hk);have hfr2:Fr (fun k=>X.pv.ownBlock=some k∨k=tb) w (w5.setCell ⟨tb,4,none⟩ v5):=(hfr.mono fun k hk=>.inl hk).setCell (p:=⟨tb,4,none⟩) (fun _=>.inr rfl) _;obtain⟨d1,d2,d3,d4,d5,d6,d7⟩:=h.distinct;have hrow:=hfr.heap h.row (fun e=>(d4 _ e).1 rfl);have hv:∀ k,v5.ownBlock=some k→k≠tb:=fun k hk e=>by
  rcases hf k hk with h1 | h1
  ·exact(d4 k h1).1 e
  ·have:=h.lt
   simp at h1
   omega
 have hvl:∀ k,v5.ownBlock=some k→k<w5.heap.size:=fun k hk=>(ho.lt hk).2
 have hfs:Fr (fun k=>k=tb) w5 (w5.setCell ⟨tb,4,none⟩ v5):=(Fr.refl (fun k=>k=tb) w5).setCell (p:=⟨tb,4,none⟩) (fun _=>rfl) _;refine⟨?_,hfr2.mono (fun k hk=>hk.elim (h.fp k) (fun e=>e ▸ h.ft))⟩
 constructor
 ·have:=ag hrow 4 v5
  simpa using this
 ·exact h.prg.fr hfr2 fun k hk hk2=>(h.out k hk).1 (hk2.elim (h.fp k) (fun e=>e ▸ h.ft))
 ·intro k hk
  refine⟨fun hk2=>?_,Nat.lt_of_lt_of_le (h.out k hk).2 hfr2.size⟩
  rcases hk2 with h1 | h1
  ·exact(h.out k hk).1 h1
  ·rcases hf k h1 with h2 | h2
   ·exact(h.out k hk).1 (h.fp k h2)
   ·have:=(h.out k hk).2
    simp at h2
    omega
 ·exact hfr2.heap h.srow (fun e=>e.elim (fun e=>(d4 _ e).2.1 rfl) (fun e=>d1 e.symm))
 ·exact hfr2.heap h.wrow (fun e=>e.elim (fun e=>(d4 _ e).2.2 rfl) (fun e=>d2 e.symm))
 ·exact ho.fr hfs (fun k hk e=>hv k hk e)
 ·exact h.marks.fr hfr2 (fun k hk e=>e.elim (fun e=>d6 k e hk) (fun e=>(d5 k hk).1 e))
 ·exact Nat.lt_of_lt_of_le h.kb hfr2.size
 ·exact h.kept.imp fun n hm=>⟨hm.1,hm.2.fr hfr2 (fun e=>e.elim (fun e=>by obtain⟨cur,f,hc⟩:=aR h.parts e;exact iU hm.2 hc rfl) (fun e=>iU hm.2 h.row e))⟩
 ·exact h.alarms.fr hfr2 (fun k hk e=>e.elim (fun e=>(d7 k hk).2.2.2.1 e) (fun e=>(d7 k hk).1 e))
 ·exact .inl h.ft
 ·exact .inl h.fs
 ·exact .inl h.fw
 ·exact .inl h.fk
 ·exact fun k hk=>.inr hk
 ·exact fun k hk=>.inl (h.fm k hk)
 ·exact fun k hk=>.inl (h.fa k hk)
 ·intro k hk
  rcases hk with h1 | h1
  ·exact Nat.lt_of_lt_of_le (h.flt k h1) hfr2.size
  ·exact Nat.lt_of_lt_of_le (hvl k h1) hfs.size
theorem TaskAt.mark {w:World} {F:Nat→Prop} {tb:Nat} {p:TPrg} {T:Tk} {X:TB} {B:Nat} {v av:Value} {l:List Mark} {al:List Alarm} (h:TaskAt w F tb p T X) (ho:Own dN w B v l) (ha:Own bG w B av al) (hB:∀ k,F k∨X.D k→k<B) :
  TaskAt ((w.setCell ⟨tb,5,none⟩ v).setCell ⟨tb,6,none⟩ av) (fun k=>(F k∨v.ownBlock=some k)∨av.ownBlock=some k) tb p ⟨T.base,T.words,T.parts,l⟩ { X with mv:=v,av:=av,al:=al }∧Fr F w ((w.setCell ⟨tb,5,none⟩ v).setCell ⟨tb,6,none⟩ av):=by
 have hfs:Fr (fun k=>k=tb) w ((w.setCell ⟨tb,5,none⟩ v).setCell ⟨tb,6,none⟩ av):=((Fr.refl (fun k=>k=tb) w).setCell (p:=⟨tb,5,none⟩) (fun _=>rfl) _).setCell (p:=⟨tb,6,none⟩) (fun _=>rfl) _;obtain⟨d1,d2,d3,d4,d5,d6,d7⟩:=h.distinct;have hv:∀ k,v.ownBlock=some k→B≤k:=fun k hk=>(ho.lt hk).1
 have hva:∀ k,av.ownBlock=some k→B≤k:=fun k hk=>(ha.lt hk).1
 have htb:=hB tb (.inl h.ft);refine⟨?_,hfs.mono (fun k e=>e ▸ h.ft)⟩
 constructor
 ·have:=ag (ag h.row 5 v) 6 av
  simpa using this
 ·exact h.prg.fr hfs fun k hk e=>(h.out k hk).1 (e ▸ h.ft)
 ·intro k hk
  refine⟨fun hk2=>?_,Nat.lt_of_lt_of_le (h.out k hk).2 hfs.size⟩;have h3:=hB k (.inr hk)
  rcases hk2 with (h1 | h1) | h1
  ·exact(h.out k hk).1 h1
  ·have h2:=hv k h1
   omega
  ·have h2:=hva k h1
   omega
 ·exact hfs.heap h.srow (fun e=>d1 e.symm)
 ·exact hfs.heap h.wrow (fun e=>d2 e.symm)
 ·exact h.parts.fr hfs (fun k hk e=>(d4 k hk).1 e)
 ·exact(ho.fr hfs (fun k hk e=>by have:=hv k hk;omega)).base (fun k _=>Nat.zero_le _)
 ·exact Nat.lt_of_lt_of_le h.kb hfs.size
 ·exact h.kept.imp fun n hm=>⟨hm.1,hm.2.fr hfs (fun e=>iU hm.2 h.row e)⟩
 ·exact(ha.fr hfs (fun k hk e=>by have:=hva k hk;omega)).base (fun k _=>Nat.zero_le _)
 ·exact .inl (.inl h.ft)
 ·exact .inl (.inl h.fs)
 ·exact .inl (.inl h.fw)
 ·exact .inl (.inl h.fk)
 ·exact fun k hk=>.inl (.inl (h.fp k hk))
 ·exact fun k hk=>.inl (.inr hk)
 ·exact fun k hk=>.inr hk
 ·intro k hk
  rcases hk with (h1 | h1) | h1
  ·exact Nat.lt_of_lt_of_le (h.flt k h1) hfs.size
  ·exact Nat.lt_of_lt_of_le (ho.lt h1).2 hfs.size
  ·exact Nat.lt_of_lt_of_le (ha.lt h1).2 hfs.size
end Go.Proofs.YtlofbhoicbemnaaGreatDoor.Tk
