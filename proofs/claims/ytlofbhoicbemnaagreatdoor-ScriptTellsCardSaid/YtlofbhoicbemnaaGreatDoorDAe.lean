/- Walk: image.Lay: a program's bytes. Walks: package image's reader: take, num, list. Walk: package image's reader: a function. -/
import Derived.Test.YtlofbhoicbemnaaGreatDoorDAd
set_option linter.unusedVariables false
set_option linter.unusedSimpArgs false
set_option maxRecDepth 100000
set_option maxHeartbeats 3200000
namespace Go.Proofs.YtlofbhoicbemnaaGreatDoor
open Go.ChangeShapes Go.WideShapes Go.ChangeAt Go.RowKit
def ShSl (w:World) (D:Nat→Prop) (a:Option Addr) (l:List (List Int)):Prop:=∀ j (hj:j<l.length),∃ b o,a=some ⟨b,o,none⟩∧D b∧∃ a' c',w.cell? ⟨b,o+j,none⟩=some (.slice a' l[j].length c')∧IntSl w D a' l[j]
theorem ShSl.fr {F:Nat→Prop} {w w':World} {D:Nat→Prop} {a:Option Addr} {l:List (List Int)} (h:ShSl w D a l) (hf:Fr F w w') (hd:∀ k,D k→¬ F k):ShSl w' D a l:=fun j hj=>by
 obtain⟨b,o,h1,h2,a',c',h3,h4⟩:=h j hj;exact⟨b,o,h1,h2,a',c',hf.cell h3 (hd b h2),h4.fr hf hd⟩
def FnSl (w:World) (D:Nat→Prop) (a:Option Addr) (l:List Fun):Prop:=∀ j (hj:j<l.length),∃ b o,a=some ⟨b,o,none⟩∧D b∧∃ c0 c1 c2 c3 c4,w.cell? ⟨b,o+j * 5,none⟩=some c0∧w.cell? ⟨b,o+j * 5+1,none⟩=some c1∧w.cell? ⟨b,o+j * 5+2,none⟩=some c2∧w.cell? ⟨b,o+j * 5+3,none⟩=some c3∧w.cell? ⟨b,o+j * 5+4,none⟩=some c4∧FunVal w D l[j] c0 c1 c2 c3 c4
theorem FnSl.fr {F:Nat→Prop} {w w':World} {D:Nat→Prop} {a:Option Addr} {l:List Fun} (h:FnSl w D a l) (hf:Fr F w w') (hd:∀ k,D k→¬ F k):FnSl w' D a l:=fun j hj=>by
 obtain⟨b,o,h1,h2,c0,c1,c2,c3,c4,q0,q1,q2,q3,q4,h4⟩:=h j hj;have hn:=hd b h2;exact⟨b,o,h1,h2,c0,c1,c2,c3,c4,hf.cell q0 hn,hf.cell q1 hn,hf.cell q2 hn,hf.cell q3 hn,hf.cell q4 hn,h4.fr hf hd⟩
def PrgVal (w:World) (D:Nat→Prop) (p:Prg) (c0 c1 c2:Value):Prop :=
 (∃ a c,c0=.slice a p.globals.length c∧IntSl w D a p.globals)∧(∃ a c,c1=.slice a p.shapes.length c∧ShSl w D a p.shapes)∧∃ a c,c2=.slice a p.funcs.length c∧FnSl w D a p.funcs
theorem PrgVal.fr {F:Nat→Prop} {w w':World} {D:Nat→Prop} {p:Prg} {c0 c1 c2:Value} (h:PrgVal w D p c0 c1 c2) (hf:Fr F w w') (hd:∀ k,D k→¬ F k):PrgVal w' D p c0 c1 c2:=by
 obtain⟨⟨a,c,h1,h2⟩,⟨a',c',h3,h4⟩,a'',c'',h5,h6⟩:=h;exact⟨⟨a,c,h1,h2.fr hf hd⟩,⟨a',c',h3,h4.fr hf hd⟩,a'',c'',h5,h6.fr hf hd⟩
theorem PrgVal.dom {w:World} {D D':Nat→Prop} {p:Prg} {c0 c1 c2:Value} (h:PrgVal w D p c0 c1 c2) (hd:∀ k,D k→D' k):PrgVal w D' p c0 c1 c2:=by
 have hi:∀ {a:Option Addr} {l:List Int},IntSl w D a l→IntSl w D' a l:=fun h j hj=>by
  obtain⟨b,o,h1,h2,h3⟩:=h j hj;exact⟨b,o,h1,hd b h2,h3⟩
 obtain⟨⟨a,c,h1,h2⟩,⟨a',c',h3,h4⟩,a'',c'',h5,h6⟩:=h;refine⟨⟨a,c,h1,hi h2⟩,⟨a',c',h3,fun j hj=>?_⟩,a'',c'',h5,fun j hj=>?_⟩
 ·obtain⟨b,o,g1,g2,x,y,g3,g4⟩:=h4 j hj
  exact⟨b,o,g1,hd b g2,x,y,g3,hi g4⟩
 ·obtain⟨b,o,g1,g2,c0,c1,c2,c3,c4,q0,q1,q2,q3,q4,e1,e2,⟨x0,y0,e3,e4⟩,⟨x1,y1,e5,e6⟩,x2,y2,e7,e8⟩:=h6 j hj
  refine⟨b,o,g1,hd b g2,c0,c1,c2,c3,c4,q0,q1,q2,q3,q4,e1,e2,⟨x0,y0,e3,hi e4⟩,⟨x1,y1,e5,hi e6⟩,x2,y2,e7,fun i hi=>?_⟩;obtain⟨b',o',r1,r2,r3⟩:=e8 i hi;exact⟨b',o',r1,hd b' r2,r3⟩
def shBulk (f:List Int):Nat:=f.length
def fnBulk (f:Fun):Nat:=f.args.length+f.objects.length+f.code.length
def bulk (p:Prg):Nat:=p.globals.length+p.shapes.length+p.funcs.length+(p.shapes.map shBulk).sum+(p.funcs.map fnBulk).sum
theorem sum_take {α:Type} (g:α→Nat) (l:List α) (k:Nat) (hk:k<l.length):((l.take k).map g).sum+g l[k]≤(l.map g).sum:=by
 have h1:((l.take (k+1)).map g).sum=((l.take k).map g).sum+g l[k]:=by
  rw[take_snoc l k hk,List.map_append,List.sum_append];simp
 have h2:(l.map g).sum=((l.take (k+1)).map g).sum+((l.drop (k+1)).map g).sum:=by
  rw[← List.sum_append,← List.map_append,List.take_append_drop]
 omega
theorem shapes_len (l:List (List Int)):∀ s,(l.foldl wList s).1.length=s.1.length+l.length+(l.map shBulk).sum:=by
 induction l with
 | nil=>intro s;simp
 | cons x l ih=>intro s;rw[List.foldl_cons,ih,wList_len];simp[shBulk];omega
theorem wFn_len (s:List Int × Bool) (f:Fun):(wFn s f).1.length≤s.1.length+5+7 * fnBulk f:=by
 have:(wFn s f).1.length=(wNums (wList (wNums (wList s f.args) [f.result,f.slots]) f.objects) [(f.code.length:Int)]).1.length+(if laid f.code then layL f.code else []).length:=by
  exact List.length_append ..
 rw[this,wNums_len,wList_len,wNums_len,wList_len];unfold fnBulk;have h2:(if laid f.code then layL f.code else []).length≤7 * f.code.length:=by
  split
  ·rw[layL_len];exact Nat.le_refl _
  ·exact Nat.zero_le _
 simp;omega
theorem funcs_len (l:List Fun):∀ s,(l.foldl wFn s).1.length≤s.1.length+5 * l.length+7 * (l.map fnBulk).sum:=by
 induction l with
 | nil=>intro s;simp
 | cons x l ih =>
   intro s;rw[List.foldl_cons];have h1:=ih (wFn s x);have h2:=wFn_len s x
   simp at *;omega
def wHead (p:Prg):List Int × Bool:=wNums (wList ([],false) p.globals) [(p.shapes.length:Int)]
def wMid (p:Prg):List Int × Bool:=wNums (p.shapes.foldl wList (wHead p)) [(p.funcs.length:Int)]
def wProg (p:Prg):List Int × Bool:=p.funcs.foldl wFn (wMid p)
def layPRes (p:Prg):Value:=if (wProg p).2 then .tuple #[.string ⟨#[]⟩,.int .i64 1] else .tuple #[.string (bytesS (wProg p).1),.int .i64 0]
theorem wHead_len (p:Prg):(wHead p).1.length=p.globals.length+2:=by
 unfold wHead;rw[wNums_len,wList_len];simp;omega
theorem wMid_len (p:Prg):(wMid p).1.length=p.globals.length+p.shapes.length+(p.shapes.map shBulk).sum+3:=by
 unfold wMid;rw[wNums_len,shapes_len,wHead_len];simp;omega
theorem st_fn {wa w:World} {B p:Nat} {v v1:Value} {s:List Int × Bool} (h:St wa B p v w v1 s) {D:Nat→Prop} (hD:Dom wa p v D) {f:Fun} {c0 c1 c2 c3 c4:Value} (hf:FunVal wa D f c0 c1 c2 c3 c4)
  (hlen:s.1.length+f.args.length+f.objects.length+7 * f.code.length≤900000) (hcode:f.code.length≤100000) :
  Calls Tryz.prog 72 #[.pointer (some ⟨p,0,none⟩),.agg #[c0,c1,c2,c3,c4]] w fun e w'=>e=.returned (.tuple #[])∧∃ v',St wa B p v w' v' (wFn s f) :=
 (fn_any w B p v1 s h.1 D f c0 c1 c2 c3 c4 (hf.fr h.2.1 (wr_clear hD)) (wr_dom hD h.2.1 h.2.2) hlen hcode).mono fun _ _ ⟨he,v',hp⟩=>⟨he,v',h.trans hp⟩
theorem layP_any (w:World) (D:Nat→Prop) (pr:Prg) (c0 c1 c2:Value) (hv:PrgVal w D pr c0 c1 c2) (hD:∀ k,D k→k<w.heap.size) (hbulk:bulk pr≤3000) :
  Calls Tryz.prog 47 #[.agg #[c0,c1,c2]] w fun e w'=>e=.returned (layPRes pr)∧Below w.heap.size w w':=by
 obtain⟨⟨a0,n0,rfl,hs0⟩,⟨a1,n1,rfl,hs1⟩,a2,n2,rfl,hs2⟩:=hv;unfold bulk at hbulk;have hfr0:Fr (fun _=>False) w ((w.alloc (.cells #[.slice a0 pr.globals.length n0,.slice a1 pr.shapes.length n1,.slice a2 pr.funcs.length n2] 48)).alloc (wrBlock (.slice none 0 0) false)):=((Fr.refl _ _).alloc _).alloc _;have hs0:=hs0.fr hfr0 (fun _ _ h=>h);have hs1:=hs1.fr hfr0 (fun _ _ h=>h);have hs2:=hs2.fr hfr0 (fun _ _ h=>h);have hbox0:∀ j u,(#[Value.slice a0 pr.globals.length n0,.slice a1 pr.shapes.length n1,.slice a2 pr.funcs.length n2])[j]?=some u→((w.alloc (.cells #[.slice a0 pr.globals.length n0,.slice a1 pr.shapes.length n1,.slice a2 pr.funcs.length n2] 48)).alloc (wrBlock (.slice none 0 0) false)).cell? ⟨w.heap.size,j,none⟩=some u:=fun j u hj=>by
  rw[cell_under _ _ (by simp),cell_new];exact hj
 have hwr:Wr ((w.alloc (.cells #[.slice a0 pr.globals.length n0,.slice a1 pr.shapes.length n1,.slice a2 pr.funcs.length n2] 48)).alloc (wrBlock (.slice none 0 0) false)) w.heap.size (w.heap.size+1) (.slice none 0 0) [] false:=by
  refine⟨?_,Own.nil _ _ _,fun h=>by simp[Value.ownBlock] at h,Nat.le_succ _⟩;have:=heap_new (w.alloc (.cells #[.slice a0 pr.globals.length n0,.slice a1 pr.shapes.length n1,.slice a2 pr.funcs.length n2] 48)) (wrBlock (.slice none 0 0) false)
  simpa using this
 have hsize:((w.alloc (.cells #[.slice a0 pr.globals.length n0,.slice a1 pr.shapes.length n1,.slice a2 pr.funcs.length n2] 48)).alloc (wrBlock (.slice none 0 0) false)).heap.size=w.heap.size+2:=by simp
 have hunf:wrBlock (.slice none 0 0) false=.cells #[.slice none 0 0,.bool false] 125:=rfl;rw[hunf] at hfr0 hs0 hs1 hs2 hbox0 hwr hsize;clear hunf;generalize hwa:(w.alloc (.cells #[.slice a0 pr.globals.length n0,.slice a1 pr.shapes.length n1,.slice a2 pr.funcs.length n2] 48)).alloc (.cells #[.slice none 0 0,.bool false] 125)=wa at *;have hdom:Dom wa (w.heap.size+1) (.slice none 0 0) (fun k=>D k∨k=w.heap.size):=by
  rintro k (hk | rfl)
  ·have:=hD k hk
   exact⟨by omega,fun h=>by simp[Value.ownBlock] at h,by omega⟩
  ·exact⟨by omega,fun h=>by simp[Value.ownBlock] at h,by omega⟩
 have hdomD:Dom wa (w.heap.size+1) (.slice none 0 0) D:=fun k hk=>hdom k (.inl hk)
 have hst0:St wa w.heap.size (w.heap.size+1) (.slice none 0 0) wa (.slice none 0 0) ([],false):=St.refl hwr;have box:∀ w1 v1 t,St wa w.heap.size (w.heap.size+1) (.slice none 0 0) w1 v1 t→w1.cell? ⟨w.heap.size,0,none⟩=some (.slice a0 pr.globals.length n0)∧w1.cell? ⟨w.heap.size,1,none⟩=some (.slice a1 pr.shapes.length n1)∧w1.cell? ⟨w.heap.size,2,none⟩=some (.slice a2 pr.funcs.length n2):=fun w1 v1 t h =>
  ⟨h.keep hdom (.inr rfl) (hbox0 0 _ rfl),h.keep hdom (.inr rfl) (hbox0 1 _ rfl),h.keep hdom (.inr rfl) (hbox0 2 _ rfl)⟩
 have l1:=st_list hst0 hdomD n0 hs0 (by simp;omega);have l2:=fun w1 v1 (h:St wa w.heap.size (w.heap.size+1) (.slice none 0 0) w1 v1 (wList ([],false) pr.globals))=>st_nums h [(pr.shapes.length:Int)] (by rw[wList_len];simp;omega)
 have l3:=fun k (hk:k<pr.shapes.length) w1 v1 (h:St wa w.heap.size (w.heap.size+1) (.slice none 0 0) w1 v1 ((pr.shapes.take k).foldl wList (wHead pr))) =>
  (show ∃ b o,a1=some ⟨b,o,none⟩∧∃ a' c',w1.cell? ⟨b,o+k,none⟩=some (.slice a' pr.shapes[k].length c')∧∀ (ob:Obj),Calls Tryz.prog 70 #[.pointer (some ⟨w.heap.size+1,0,none⟩),.slice a' pr.shapes[k].length c'] (w1.alloc ob) fun e w'=>e=.returned (.tuple #[])∧∃ v',St wa w.heap.size (w.heap.size+1) (.slice none 0 0) w' v' ((pr.shapes.take (k+1)).foldl wList (wHead pr)) from by
   obtain⟨b,o,h1,h2,a',c',h3,h4⟩:=hs1 k hk;refine⟨b,o,h1,a',c',h.keep hdomD h2 h3,fun ob=>?_⟩;rw[take_snoc _ k hk,List.foldl_append,List.foldl_cons,List.foldl_nil];refine st_list (h.alloc ob) hdomD c' h4 ?_;rw[shapes_len,wHead_len];have:=sum_take shBulk pr.shapes k hk;have h5:((pr.shapes.take k).length)≤pr.shapes.length:=List.length_take_le' _ _;unfold shBulk at *
   omega)
 have l4:=fun w1 v1 (h:St wa w.heap.size (w.heap.size+1) (.slice none 0 0) w1 v1 (pr.shapes.foldl wList (wHead pr)))=>st_nums h [(pr.funcs.length:Int)] (by rw[shapes_len,wHead_len];simp;omega)
 have l5:=fun k (hk:k<pr.funcs.length) w1 v1 (h:St wa w.heap.size (w.heap.size+1) (.slice none 0 0) w1 v1 ((pr.funcs.take k).foldl wFn (wMid pr))) =>
  (show ∃ b o,a2=some ⟨b,o,none⟩∧∃ c0 c1 c2 c3 c4,w1.cell? ⟨b,o+k * 5,none⟩=some c0∧w1.cell? ⟨b,o+k * 5+1,none⟩=some c1∧w1.cell? ⟨b,o+k * 5+2,none⟩=some c2∧w1.cell? ⟨b,o+k * 5+3,none⟩=some c3∧w1.cell? ⟨b,o+k * 5+4,none⟩=some c4 ∧
    (∃ x0 y0 z0 x3 y3 z3 x4 y4 z4 r s,c0=.slice x0 y0 z0∧c1=.int .i64 r∧c2=.int .i64 s∧c3=.slice x3 y3 z3∧c4=.slice x4 y4 z4) ∧
    ∀ (ob:Obj),Calls Tryz.prog 72 #[.pointer (some ⟨w.heap.size+1,0,none⟩),.agg #[c0,c1,c2,c3,c4]] (w1.alloc ob) fun e w'=>e=.returned (.tuple #[])∧∃ v',St wa w.heap.size (w.heap.size+1) (.slice none 0 0) w' v' ((pr.funcs.take (k+1)).foldl wFn (wMid pr)) from by
   obtain⟨b,o,h1,h2,c0,c1,c2,c3,c4,q0,q1,q2,q3,q4,h4⟩:=hs2 k hk;refine⟨b,o,h1,c0,c1,c2,c3,c4,h.keep hdomD h2 q0,h.keep hdomD h2 q1,h.keep hdomD h2 q2,h.keep hdomD h2 q3,h.keep hdomD h2 q4,?_,fun ob=>?_⟩
   ·obtain⟨e1,e2,⟨x0,z0,e3,_⟩,⟨x3,z3,e4,_⟩,x4,z4,e5,_⟩:=h4
    exact⟨x0,_,z0,x3,_,z3,x4,_,z4,_,_,e3,e1,e2,e4,e5⟩
   rw[take_snoc _ k hk,List.foldl_append,List.foldl_cons,List.foldl_nil];have h6:=funcs_len (pr.funcs.take k) (wMid pr);rw[wMid_len] at h6;have:=sum_take fnBulk pr.funcs k hk;have h5:((pr.funcs.take k).length)≤pr.funcs.length:=List.length_take_le' _ _;have h7:fnBulk pr.funcs[k]=pr.funcs[k].args.length+pr.funcs[k].objects.length+pr.funcs[k].code.length:=rfl;refine st_fn (h.alloc ob) hdomD h4 ?_ ?_
   ·omega
   ·omega)
 have fin:∀ w1 v1 t,St wa w.heap.size (w.heap.size+1) (.slice none 0 0) w1 v1 t→Below w.heap.size w w1:=fun w1 v1 t h=>by
  have h1:Below w.heap.size w wa:=by rw[← hwa];exact((Below.refl _ _).alloc (Nat.le_refl _) _).alloc (by simp) _
  refine h1.trans (h.2.1.below (by omega) (fun k hk=>?_))
  rcases hk with rfl | hk
  ·omega
  ·simp[Value.ownBlock] at hk
 have hb1:pr.shapes.length≤3000:=by omega
 have hb2:pr.funcs.length≤3000:=by omega
 clear hs0 hs1 hs2 hfr0 hdom hdomD hst0 hbox0 hD hbulk hwr hsize;have HWA:=k_ hwa;clear hwa;have BOX:=k_ box;clear box;have L1:=k_ l1;clear l1;have L2:=k_ l2;clear l2;have L3:=k_ l3;clear l3;have L4:=k_ l4;clear l4;have L5:=k_ l5;clear l5;have FIN:=k_ fin;clear fin
 go_enter Tryz.func47,Tryz.ntmps47
 go_wp2_with fail;rw[HWA.out];refine L1.out.mono ?_;rintro e w1 ⟨rfl,v1,hst1⟩;obtain⟨_,q1,_⟩:=BOX.out _ _ _ hst1;have L2':=k_ (L2.out _ _ hst1);clear hst1;go_wp2_with fail;refine L2'.out.mono ?_;rintro e w2 ⟨rfl,v2,hst2⟩;clear q1;obtain⟨_,q1,_⟩:=BOX.out _ _ _ hst2;have HST2:=k_ hst2;clear hst2;go_wp2_with fail;clear q1
 go_loopw [24] (fun i wr=>∃ k:Nat,k≤pr.shapes.length∧i=.int .i64 k∧∃ v',St wa w.heap.size (w.heap.size+1) (.slice none 0 0) wr v' ((pr.shapes.take k).foldl wList (wHead pr))) (fun i _=>pr.shapes.length - (intOf i).toNat)
 case atStart=>exact⟨0,Nat.zero_le _,rfl,v2,HST2.out⟩
 case round =>
  obtain⟨k,hk,rfl,v3,hst3⟩:=hrel
  by_cases hlt:k<pr.shapes.length
  ·obtain⟨b,o,rfl,a',c',hq,hcall⟩:=L3.out k hlt _ _ hst3
   have HC:=k_ hcall;clear hcall hst3;go_wp2_with fail;refine(HC.out _).mono ?_;rintro e w4 ⟨rfl,v4,hst4⟩;have HST4:=k_ hst4;clear hst4 hq;go_wp2_with fail
   go_roundw
   case rel=>exact⟨k+1,by omega,by go_num,v4,HST4.out⟩
   case measure=>simp[intOf];omega
  ·have hk':k=pr.shapes.length:=by omega
   subst hk';rw[List.take_length] at hst3;obtain⟨_,_,q2⟩:=BOX.out _ _ _ hst3;have L4':=k_ (L4.out _ _ hst3);clear hst3;go_wp2_with fail;refine L4'.out.mono ?_;rintro e w4 ⟨rfl,v4,hst4⟩;clear q2;obtain⟨_,_,q2⟩:=BOX.out _ _ _ hst4;have HST4:=k_ hst4;clear hst4;go_wp2_with fail;clear q2
   go_loopw [42] (fun i wr=>∃ k:Nat,k≤pr.funcs.length∧i=.int .i64 k∧∃ v',St wa w.heap.size (w.heap.size+1) (.slice none 0 0) wr v' ((pr.funcs.take k).foldl wFn (wMid pr))) (fun i _=>pr.funcs.length - (intOf i).toNat)
   case atStart=>exact⟨0,Nat.zero_le _,rfl,v4,HST4.out⟩
   case round =>
    obtain⟨k,hk,rfl,v5,hst5⟩:=hrel
    by_cases hlt:k<pr.funcs.length
    ·obtain⟨b,o,rfl,c0,c1,c2,c3,c4,p0,p1,p2,p3,p4,⟨x0,y0,z0,x3,y3,z3,x4,y4,z4,r,s,rfl,rfl,rfl,rfl,rfl⟩,hcall⟩:=L5.out k hlt _ _ hst5
     have HC:=k_ hcall;clear hcall hst5;go_wp2_with fail;refine(HC.out _).mono ?_;rintro e w6 ⟨rfl,v6,hst6⟩;have HST6:=k_ hst6;clear hst6 p0 p1 p2 p3 p4;go_wp2_with fail
     go_roundw
     case rel=>exact⟨k+1,by omega,by go_num,v6,HST6.out⟩
     case measure=>simp[intOf];omega
    ·have hk':k=pr.funcs.length:=by omega
     subst hk';rw[List.take_length] at hst5;obtain⟨q0,q1,_,_⟩:=two_cells (show _=some (Obj.cells #[v5,.bool (wProg pr).2] 125) from hst5.1.1);have hcv:=own_str hst5.1.2.1;have hF:=FIN.out _ _ _ hst5;have hres:layPRes pr=if (wProg pr).2 then .tuple #[.string ⟨#[]⟩,.int .i64 1] else .tuple #[.string (bytesS (wProg pr).1),.int .i64 0]:=rfl;have hw1:pr.funcs.foldl wFn (wMid pr)=wProg pr:=rfl;rw[hw1] at hcv;clear hst5 hw1;generalize wProg pr=t at *;obtain⟨t1,t2⟩:=t
     dsimp only at q1 hcv hres
     cases t2
     all_goals
      have HF:=k_ hF;have HR:=k_ hres;clear hF hres;go_wp2_with fail
      go_ret2
      exact⟨by rw[HR.out];rfl,HF.out⟩
abbrev RS:=ByteArray × Bool
def rTake (s:RS) (n:Nat):ByteArray × RS:=if s.1.size<n then (⟨#[]⟩,(⟨#[]⟩,true)) else (s.1.extract 0 n,(s.1.extract n s.1.size,s.2))
def rNum (s:RS):Int × RS:=if s.1.size<1 then (0,(⟨#[]⟩,true)) else (gb s.1 0,(s.1.extract 1 s.1.size,s.2))
def rNums (s:RS):Nat→List Int × RS
 | 0=>([],s)
 | n+1=>((rNums s n).1 ++ [(rNum (rNums s n).2).1],(rNum (rNums s n).2).2)
def rList (s:RS):List Int × RS:=rNums (rNum s).2 (rNum s).1.toNat
theorem rNum_bd (s:RS):0≤(rNum s).1∧(rNum s).1<256:=by
 unfold rNum
 split
 ·exact⟨Int.le_refl 0,by show (0:Int)<256;omega⟩
 ·exact gb_bd _ _
theorem rNums_len (s:RS) (n:Nat):(rNums s n).1.length=n:=by
 induction n with
 | zero=>rfl
 | succ n ih=>simp[rNums,ih]
theorem rNum_size (s:RS):(rNum s).2.1.size≤s.1.size:=by
 unfold rNum
 split
 ·exact Nat.zero_le _
 ·rw[ByteArray.size_extract];omega
theorem rNums_size (s:RS) (n:Nat):(rNums s n).2.1.size≤s.1.size:=by
 induction n with
 | zero=>exact Nat.le_refl _
 | succ n ih=>exact Nat.le_trans (rNum_size _) ih
theorem rList_size (s:RS):(rList s).2.1.size≤s.1.size:=Nat.le_trans (rNums_size _ _) (rNum_size _)
theorem rTake_size (s:RS) (n:Nat):(rTake s n).2.1.size≤s.1.size:=by
 unfold rTake
 split
 ·exact Nat.zero_le _
 ·rw[ByteArray.size_extract];omega
def Rdr (w:World) (p:Nat) (s:RS):Prop:=w.heap[p]?=some (.cells #[.string s.1,.bool s.2] 135)
def onB (p:Nat):Nat→Prop:=fun k=>k=p
theorem Rdr.fr {F:Nat→Prop} {w w':World} {p:Nat} {s:RS} (h:Rdr w p s) (hf:Fr F w w') (hn:¬ F p):Rdr w' p s:=hf.heap h hn
theorem Rdr.alloc {w:World} {p:Nat} {s:RS} (h:Rdr w p s) (o:Obj):Rdr (w.alloc o) p s:=by
 unfold Rdr;rw[Below.heap_alloc _ _ _ (heap_lt h)];exact h
theorem isEmpty_iff (b:ByteArray):b.toList.isEmpty=decide (b.size<1):=by
 rw[ByteArray.toList_eq];obtain⟨⟨l⟩⟩:=b
 cases l <;> simp[ByteArray.size]
theorem take_any (w:World) (p:Nat) (s:RS) (hr:Rdr w p s) (n:Nat) (hn:n≤1000000) (hs:s.1.size≤1000000) :
  Calls Tryz.prog 93 #[.pointer (some ⟨p,0,none⟩),.int .i64 n] w fun e w'=>e=.returned (.string (rTake s n).1)∧Rdr w' p (rTake s n).2∧Fr (onB p) w w':=by
 obtain⟨b,bad⟩:=s;obtain⟨q0,q1,q2,q3⟩:=two_cells (show _=some (Obj.cells #[.string b,.bool bad] 135) from hr)
 dsimp only at hs
 by_cases h:b.size<n
 ·have e:rTake (b,bad) n=(⟨#[]⟩,(⟨#[]⟩,true)):=by unfold rTake;rw[if_pos h]
  rw[e];have hp:Rdr ((w.setCell ⟨p,1,none⟩ (.bool true)).setCell ⟨p,0,none⟩ (.string ⟨#[]⟩)) p (⟨#[]⟩,true)∧Fr (onB p) w ((w.setCell ⟨p,1,none⟩ (.bool true)).setCell ⟨p,0,none⟩ (.string ⟨#[]⟩)) :=
   ⟨two_set0 (two_set1 hr),((Fr.refl (onB p) w).setCell (p:=⟨p,1,none⟩) (fun _=>rfl) _).setCell (p:=⟨p,0,none⟩) (fun _=>rfl) _⟩
  clear e hr;have HP:=k_ hp;clear hp
  go_enter Tryz.func93,Tryz.ntmps93
  go_wp2_with fail
  go_ret
  exact⟨rfl,HP.out⟩
 ·have e:rTake (b,bad) n=(b.extract 0 n,(b.extract n b.size,bad)):=by unfold rTake;rw[if_neg h]
  rw[e];have hp:Rdr (w.setCell ⟨p,0,none⟩ (.string (b.extract n b.size))) p (b.extract n b.size,bad)∧Fr (onB p) w (w.setCell ⟨p,0,none⟩ (.string (b.extract n b.size))) :=
   ⟨two_set0 hr,(Fr.refl (onB p) w).setCell (p:=⟨p,0,none⟩) (fun _=>rfl) _⟩
  clear e hr;have HP:=k_ hp;clear hp
  go_enter Tryz.func93,Tryz.ntmps93
  go_wp2_with fail
  go_ret
  exact⟨rfl,HP.out⟩
theorem num_any (w:World) (p:Nat) (s:RS) (hr:Rdr w p s) (hs:s.1.size≤1000000) :
  Calls Tryz.prog 78 #[.pointer (some ⟨p,0,none⟩)] w fun e w'=>e=.returned (.int .i64 (rNum s).1)∧Rdr w' p (rNum s).2∧Fr (onB p) w w':=by
 have ht:=take_any w p s hr 1 (by omega) hs
 by_cases h:s.1.size<1
 ·have e1:rTake s 1=(⟨#[]⟩,(⟨#[]⟩,true)):=by unfold rTake;rw[if_pos h]
  have e2:rNum s=(0,(⟨#[]⟩,true)):=by unfold rNum;rw[if_pos h]
  rw[e1] at ht;rw[e2];have he:(⟨#[]⟩:ByteArray).toList.isEmpty=true:=by rw[ByteArray.toList_eq];rfl
  clear e1 e2 h hr hs;have HT:=k_ ht;clear ht
  go_enter Tryz.func78,Tryz.ntmps78
  go_wp2_with fail;refine HT.out.mono ?_;rintro e w1 ⟨rfl,hp⟩;have HP:=k_ hp;clear hp;go_wp2_with fail
  go_ret
  exact⟨rfl,HP.out⟩
 ·have e1:rTake s 1=(s.1.extract 0 1,(s.1.extract 1 s.1.size,s.2)):=by unfold rTake;rw[if_neg h]
  have e2:rNum s=(gb s.1 0,(s.1.extract 1 s.1.size,s.2)):=by unfold rNum;rw[if_neg h]
  rw[e1] at ht;rw[e2];have hx:(s.1.extract 0 1).size=1:=by rw[ByteArray.size_extract];omega
  have he:(s.1.extract 0 1).toList.isEmpty=false:=by rw[isEmpty_iff];simp[hx]
  have h0:0<(s.1.extract 0 1).size:=by omega
  have hg:(((s.1.extract 0 1)[0]).toNat:Int)=gb s.1 0:=by
   rw[gb_get _ 0 h0];exact gb_extract s.1 1 0 (by omega) (by omega)
  have hbd:=gb_bd s.1 0;generalize s.1.extract 0 1=b1 at *;generalize gb s.1 0=x at *;clear e1 e2 h hr hs hx;have HT:=k_ ht;clear ht
  go_enter Tryz.func78,Tryz.ntmps78
  go_wp2_with fail;refine HT.out.mono ?_;rintro e w1 ⟨rfl,hp⟩;have HP:=k_ hp;clear hp;go_wp2_with fail
  go_ret
  exact⟨rfl,HP.out⟩
theorem rlist_any (w:World) (p:Nat) (s:RS) (hr:Rdr w p s) (hs:s.1.size≤1000000) :
  Calls Tryz.prog 77 #[.pointer (some ⟨p,0,none⟩)] w fun e w'=>∃ v,e=.returned v∧Own intE w' w.heap.size v (rList s).1∧Rdr w' p (rList s).2∧Fr (onB p) w w':=by
 have hpl:=heap_lt hr;have n1:=num_any w p s hr hs;have n2:=fun w1 k (h:Rdr w1 p (rNums (rNum s).2 k).2)=>num_any w1 p (rNums (rNum s).2 k).2 h (Nat.le_trans (rNums_size _ _) (Nat.le_trans (rNum_size _) hs))
 have hl:rList s=rNums (rNum s).2 (rNum s).1.toNat:=rfl;rw[hl];clear hl;have hbd:=rNum_bd s;generalize rNum s=t at *;obtain⟨x,s1⟩:=t
 dsimp only at n1 n2 hbd ⊢
 clear hr;obtain⟨n,rfl⟩:=Int.eq_ofNat_of_zero_le hbd.1;rw[Int.toNat_natCast];have hn:n<256:=by omega
 clear hbd hs;have N1:=k_ n1;clear n1;have N2:=k_ n2;clear n2
 go_enter Tryz.func77,Tryz.ntmps77
 go_wp2_with fail;refine N1.out.mono ?_;rintro e w1 ⟨rfl,hr1,hf1⟩;have HR1:=k_ hr1;clear hr1;have HF1:=k_ hf1;clear hf1;go_wp2_with fail
 go_loopw [3,6] (fun v i wr=>∃ k:Nat,k≤n∧i=.int .i64 k∧Own intE wr w.heap.size v (rNums s1 k).1∧Rdr wr p (rNums s1 k).2∧Fr (onB p) w wr) (fun _ i _=>n - (intOf i).toNat)
 case atStart=>exact⟨0,Nat.zero_le _,rfl,Own.nil _ _ _,HR1.out,HF1.out⟩
 case round =>
  obtain⟨k,hk,rfl,hown,hr2,hf2⟩:=hrel
  by_cases hlt:k<n
  ·have hc:=N2.out _ k hr2
   have HC:=k_ hc;clear hc;have HOWN:=k_ hown;clear hown;have HR2:=k_ hr2;clear hr2;have HF2:=k_ hf2;clear hf2;go_wp2_with fail;refine HC.out.mono ?_;rintro e w3 ⟨rfl,hr3,hf3⟩;have hf4:=HF2.out.trans hf3 (fun _ _ h=>h);have hown3:=HOWN.out.fr hf3 (fun m hm=>by have:=(HOWN.out.lt hm).1;unfold onB;omega);have hsn:rNums s1 (k+1)=((rNums s1 k).1 ++ [(rNum (rNums s1 k).2).1],(rNum (rNums s1 k).2).2):=rfl;have hlk:=rNums_len s1 k;generalize rNums s1 k=t at *;obtain⟨l,s2⟩:=t
   dsimp only at hsn hown3 hr3 hlk
   generalize rNum s2=t at *;obtain⟨y,s3⟩:=t
   dsimp only at hsn hr3
   have HR3:=k_ hr3;clear hr3;have HF4:=k_ hf4;clear hf4;have HOWN3:=k_ hown3;clear hown3;have HSN:=k_ hsn;clear hsn;clear hf3
   go_wp2_with (at_builtin;refine append_fresh intE rfl (.tmp 8) (.tmp 11) rfl w.heap.size l [y] _ rfl (HOWN3.out.alloc _) w3.heap.size 0 1 rfl (CellsAt.new _ _ _ _) ?c1 ?c2 ?_)
   case c1=>simp;omega
   case c2=>have:=HF4.out.size;simp;omega
   intro v4 w4 hown4 hg4 _;have hr4:Rdr w4 p s3:=by
    have h1:=HR3.out.alloc (.cells #[.int .i64 y] 3);unfold Rdr at h1 ⊢;rw[hg4.block p (heap_lt h1) (fun e=>by have:=(HOWN3.out.lt e.symm).1;omega)];exact h1
   have hf5:=(HF4.out.alloc _).grown hg4 (fun m hm hlt'=>by have:=(HOWN3.out.lt hm).1;omega);obtain⟨a4,n4,c4,rfl⟩:=hown4.slice;have HOWN4:=k_ hown4;clear hown4;have HR4:=k_ hr4;clear hr4;have HF5:=k_ hf5;clear hf5;clear hg4;go_wp2_with fail
   go_roundw
   case rel =>
    refine⟨k+1,by omega,by go_num,?_,?_,HF5.out⟩
    ·rw[HSN.out];exact HOWN4.out
    ·rw[HSN.out];exact HR4.out
   case measure=>simp[intOf];omega
  ·have hk':k=n:=by omega
   subst hk';have hP:∀ v,Own intE wr w.heap.size v (rNums s1 k).1→∃ v',Ending.returned v=.returned v'∧Own intE wr w.heap.size v' (rNums s1 k).1∧Rdr wr p (rNums s1 k).2∧Fr (onB p) w wr:=fun v hv=>⟨v,rfl,hv,hr2,hf2⟩
   have HP:=k_ (hP _ hown);clear hP hown hr2 hf2;go_wp2_with fail
   go_ret
   exact HP.out
def rFn (s:RS):Fun × RS :=
 let a:=rList s
 let r:=rNum a.2
 let l:=rNum r.2
 let o:=rList l.2
 let n:=rNum o.2
 let c:=rTake n.2 (n.1.toNat * 7)
 (⟨a.1,r.1,l.1,o.1,readL c.1⟩,(c.2.1,c.2.2 || !readOk c.1))
theorem row_cell {w:World} {q:Nat} {cs:Array Value} {t:TypeId} (h:w.heap[q]?=some (.cells cs t)) (j:Nat):w.cell? ⟨q,j,none⟩=cs[j]?∧w.frozen? ⟨q,j,none⟩=false:=by
 simp[World.cell?,World.frozen?,h]
theorem row_set {w:World} {q:Nat} {cs:Array Value} {t:TypeId} (h:w.heap[q]?=some (.cells cs t)) (j:Nat) (u:Value):(w.setCell ⟨q,j,none⟩ u).heap[q]?=some (.cells (cs.setIfInBounds j u) t):=by
 simp only[World.setCell,Array.getElem?_modify,if_pos rfl,h,Option.map]
 rfl
theorem row_alloc {w:World} {q:Nat} {ob:Obj} (h:w.heap[q]?=some ob) (o:Obj):(w.alloc o).heap[q]?=some ob:=by
 rw[Below.heap_alloc _ _ _ (heap_lt h)];exact h
theorem five_cells {w:World} {q:Nat} {x0 x1 x2 x3 x4:Value} {t:TypeId} (h:w.heap[q]?=some (.cells #[x0,x1,x2,x3,x4] t)) :
  (w.cell? ⟨q,0,none⟩=some x0∧w.cell? ⟨q,1,none⟩=some x1∧w.cell? ⟨q,2,none⟩=some x2∧w.cell? ⟨q,3,none⟩=some x3∧w.cell? ⟨q,4,none⟩=some x4) ∧
  (w.frozen? ⟨q,0,none⟩=false∧w.frozen? ⟨q,1,none⟩=false∧w.frozen? ⟨q,2,none⟩=false∧w.frozen? ⟨q,3,none⟩=false∧w.frozen? ⟨q,4,none⟩=false) :=
 ⟨⟨(row_cell h 0).1,(row_cell h 1).1,(row_cell h 2).1,(row_cell h 3).1,(row_cell h 4).1⟩,(row_cell h 0).2,(row_cell h 1).2,(row_cell h 2).2,(row_cell h 3).2,(row_cell h 4).2⟩
def FnPost (w:World) (p:Nat) (f:Fun) (s:RS) (e:Ending) (w':World):Prop :=
 ∃ c0 c3 c4,e=.returned (.agg #[c0,.int .i64 f.result,.int .i64 f.slots,c3,c4])∧Own intE w' w.heap.size c0 f.args∧Own intE w' w.heap.size c3 f.objects∧Own insE w' w.heap.size c4 f.code∧Rdr w' p s∧Fr (onB p) w w'
theorem Fr.setAt (w:World) (q j:Nat) (u:Value):Fr (onB q) w (w.setCell ⟨q,j,none⟩ u):=(Fr.refl (onB q) w).setCell (p:=⟨q,j,none⟩) (fun _=>rfl) u
def pqB (p q:Nat):Nat→Prop:=fun k=>k=p∨k=q
theorem take_int (w:World) (p:Nat) (s:RS) (hr:Rdr w p s) (m:Int) (n:Nat) (hm:m=n) (hn:n≤1000000) (hs:s.1.size≤1000000) :
  Calls Tryz.prog 93 #[.pointer (some ⟨p,0,none⟩),.int .i64 m] w fun e w'=>e=.returned (.string (rTake s n).1)∧Rdr w' p (rTake s n).2∧Fr (onB p) w w':=by
 subst hm;exact take_any w p s hr n hn hs
theorem rfn_any (w:World) (p:Nat) (s:RS) (hr:Rdr w p s) (hs:s.1.size≤100000) :
  Calls Tryz.prog 79 #[.pointer (some ⟨p,0,none⟩)] w (FnPost w p (rFn s).1 (rFn s).2):=by
 have hpl:=heap_lt hr;have hx:rFn s=(⟨(rList s).1,(rNum (rList s).2).1,(rNum (rNum (rList s).2).2).1,(rList (rNum (rNum (rList s).2).2).2).1,readL (rTake (rNum (rList (rNum (rNum (rList s).2).2).2).2).2 ((rNum (rList (rNum (rNum (rList s).2).2).2).2).1.toNat * 7)).1⟩,((rTake (rNum (rList (rNum (rNum (rList s).2).2).2).2).2 ((rNum (rList (rNum (rNum (rList s).2).2).2).2).1.toNat * 7)).2.1,(rTake (rNum (rList (rNum (rNum (rList s).2).2).2).2).2 ((rNum (rList (rNum (rNum (rList s).2).2).2).2).1.toNat * 7)).2.2 || !readOk (rTake (rNum (rList (rNum (rNum (rList s).2).2).2).2).2 ((rNum (rList (rNum (rNum (rList s).2).2).2).2).1.toNat * 7)).1)):=rfl;rw[hx];clear hx;have l1:=fun w1 (h:Rdr w1 p s)=>rlist_any w1 p s h (by omega)
 have z1:=rList_size s;generalize rList s=t1 at *;obtain⟨args,s1⟩:=t1
 dsimp only at l1 z1 ⊢
 have l2:=fun w1 (h:Rdr w1 p s1)=>num_any w1 p s1 h (by omega)
 have z2:=rNum_size s1;generalize rNum s1=t2 at *;obtain⟨res,s2⟩:=t2
 dsimp only at l2 z2 ⊢
 have l3:=fun w1 (h:Rdr w1 p s2)=>num_any w1 p s2 h (by omega)
 have z3:=rNum_size s2;generalize rNum s2=t3 at *;obtain⟨slots,s3⟩:=t3
 dsimp only at l3 z3 ⊢
 have l4:=fun w1 (h:Rdr w1 p s3)=>rlist_any w1 p s3 h (by omega)
 have z4:=rList_size s3;generalize rList s3=t4 at *;obtain⟨objs,s4⟩:=t4
 dsimp only at l4 z4 ⊢
 have l5:=fun w1 (h:Rdr w1 p s4)=>num_any w1 p s4 h (by omega)
 have z5:=rNum_size s4;have b5:=rNum_bd s4;generalize rNum s4=t5 at *;obtain⟨n,s5⟩:=t5
 dsimp only at l5 z5 b5 ⊢
 have l6:=fun w1 (h:Rdr w1 p s5)=>take_int w1 p s5 h (n * 7) (n.toNat * 7) (by omega) (by omega) (by omega)
 have z6:(rTake s5 (n.toNat * 7)).1.size≤1000000:=by
  unfold rTake
  split
  ·exact Nat.zero_le _
  ·rw[ByteArray.size_extract];omega
 generalize rTake s5 (n.toNat * 7)=t6 at *;obtain⟨cb,s6⟩:=t6
 dsimp only at l6 z6 ⊢
 have l7:=fun w1=>read_code cb w1 z6
 unfold ReadPost at l7;clear z1 z2 z3 z4 z5 z6 hs;have L1:=k_ l1;clear l1;have L2:=k_ l2;clear l2;have L3:=k_ l3;clear l3;have L4:=k_ l4;clear l4;have L5:=k_ l5;clear l5;have L6:=k_ l6;clear l6;have L7:=k_ l7;clear l7;have hr0:=hr.alloc (.cells #[.slice none 0 0,.int .i64 0,.int .i64 0,.slice none 0 0,.slice none 0 0] 66);clear hr;have HR0:=k_ hr0;clear hr0
 go_enter Tryz.func79,Tryz.ntmps79
 go_wp2_with fail;refine(L1.out _ HR0.out).mono ?_;rintro e w1 ⟨v0,rfl,ho0,hr1,hf1⟩;obtain⟨a0,n0,c0,rfl⟩:=ho0.slice;have res1:w1.heap[w.heap.size]?=some (.cells #[.slice none 0 0,.int .i64 0,.int .i64 0,.slice none 0 0,.slice none 0 0] 66):=hf1.heap (heap_new w _) (by unfold onB;omega);have hF1:Fr (onB p) w w1:=((Fr.refl _ _).alloc _).trans hf1 (fun _ _ h=>h);have hq:w.heap.size<w1.heap.size:=heap_lt res1;have rd1:=hr1.alloc (.cells #[.slice a0 n0 c0,.int .i64 0,.int .i64 0,.slice none 0 0,.slice none 0 0] 66);have loc1:=heap_new w1 (.cells #[.slice a0 n0 c0,.int .i64 0,.int .i64 0,.slice none 0 0,.slice none 0 0] 66);have fA:Fr (pqB p w1.heap.size) w1 (w1.alloc (.cells #[.slice a0 n0 c0,.int .i64 0,.int .i64 0,.slice none 0 0,.slice none 0 0] 66)):=(Fr.refl _ _).alloc _;have HO0:=k_ ho0;clear ho0;have RES1:=k_ res1;clear res1;have HF1:=k_ hF1;clear hF1;have FA:=k_ fA;clear fA;have LOC1:=k_ loc1;clear loc1;clear hf1 hr1;have call:=L2.out _ rd1;clear rd1;have CALL:=k_ call;clear call;go_wp2_with fail;refine CALL.out.mono ?_;rintro e w2 ⟨rfl,hr2,hf2⟩;have hqp:w1.heap.size≠p:=by omega
 have loc2:=hf2.heap LOC1.out (by unfold onB;omega);have f2:=FA.out.trans hf2 (fun k _ h=>.inl h);obtain⟨_,g0,g1,g2,g3,g4⟩:=five_cells loc2;have rd2:Rdr (w2.setCell ⟨w1.heap.size,1,none⟩ (.int .i64 res)) p s2:=hr2.fr (Fr.setAt _ w1.heap.size _ _) (by unfold onB;omega);have loc2':(w2.setCell ⟨w1.heap.size,1,none⟩ (.int .i64 res)).heap[w1.heap.size]?=some (.cells #[.slice a0 n0 c0,.int .i64 res,.int .i64 0,.slice none 0 0,.slice none 0 0] 66):=row_set loc2 1 _;have f2':=f2.setCell (p:=⟨w1.heap.size,1,none⟩) (fun _=>.inr rfl) (.int .i64 res);have call:=L3.out _ rd2;obtain⟨⟨k0,k1,k2,k3,k4⟩,_⟩:=five_cells loc2;clear hf2 hr2 loc2 rd2 f2;have CALL:=k_ call;clear call;have LOC2':=k_ loc2';clear loc2';have F2':=k_ f2';clear f2';go_wp2_with fail;refine CALL.out.mono ?_;rintro e w3 ⟨rfl,hr3,hf3⟩;clear g0 g1 g2 g3 g4 k0 k1 k2 k3 k4;have loc3:=hf3.heap LOC2'.out (by unfold onB;omega);have f3:=F2'.out.trans hf3 (fun k _ h=>.inl h);have rd3:Rdr (w3.setCell ⟨w1.heap.size,2,none⟩ (.int .i64 slots)) p s3:=hr3.fr (Fr.setAt _ w1.heap.size _ _) (by unfold onB;omega);have loc3':(w3.setCell ⟨w1.heap.size,2,none⟩ (.int .i64 slots)).heap[w1.heap.size]?=some (.cells #[.slice a0 n0 c0,.int .i64 res,.int .i64 slots,.slice none 0 0,.slice none 0 0] 66):=row_set loc3 2 _;have f3':=f3.setCell (p:=⟨w1.heap.size,2,none⟩) (fun _=>.inr rfl) (.int .i64 slots);have call:=L4.out _ rd3;obtain⟨⟨k0,k1,k2,k3,k4⟩,g0,g1,g2,g3,g4⟩:=five_cells loc3;clear hf3 hr3 loc3 rd3 f3;have CALL4:=k_ call;have LOC3':=k_ loc3';clear loc3';have F3':=k_ f3';clear f3';clear call CALL;go_wp2_with fail;refine CALL4.out.mono ?_;rintro e w4 ⟨v3,rfl,ho3,hr4,hf4⟩;clear g0 g1 g2 g3 g4 k0 k1 k2 k3 k4;obtain⟨a3,n3,c3,rfl⟩:=ho3.slice;have loc4:=hf4.heap LOC3'.out (by unfold onB;omega);have f4:=F3'.out.trans hf4 (fun k _ h=>.inl h);have ho3':∀ k,(Value.slice a3 n3 c3).ownBlock=some k→w1.heap.size<k:=fun k hk=>by
  have h1:=(ho3.lt hk).1;have h2:=heap_lt LOC3'.out
  omega
 have rd4:Rdr (w4.setCell ⟨w1.heap.size,3,none⟩ (.slice a3 n3 c3)) p s4:=hr4.fr (Fr.setAt _ w1.heap.size _ _) (by unfold onB;omega);have loc4':(w4.setCell ⟨w1.heap.size,3,none⟩ (.slice a3 n3 c3)).heap[w1.heap.size]?=some (.cells #[.slice a0 n0 c0,.int .i64 res,.int .i64 slots,.slice a3 n3 c3,.slice none 0 0] 66):=row_set loc4 3 _;have f4':=f4.setCell (p:=⟨w1.heap.size,3,none⟩) (fun _=>.inr rfl) (.slice a3 n3 c3);have fB4:=Fr.setCell (Fr.refl (pqB p w1.heap.size) w4) (p:=⟨w1.heap.size,3,none⟩) (fun _=>.inr rfl) (.slice a3 n3 c3);have call:=L5.out _ rd4;obtain⟨⟨k0,k1,k2,k3,k4⟩,g0,g1,g2,g3,g4⟩:=five_cells loc4;have HO3:=k_ ho3;clear hf4 hr4 loc4 rd4 f4 ho3;have CALL5:=k_ call;have LOC4':=k_ loc4';clear loc4';have F4':=k_ f4';clear f4';have FB4:=k_ fB4;clear fB4;have HO3':=k_ ho3';clear ho3';clear call CALL4;go_wp2_with fail;refine CALL5.out.mono ?_;rintro e w5 ⟨rfl,hr5,hf5⟩;clear g0 g1 g2 g3 g4 k0 k1 k2 k3 k4;have loc5:=hf5.heap LOC4'.out (by unfold onB;omega);have f5:=F4'.out.trans hf5 (fun k _ h=>.inl h);have fB5:=FB4.out.trans hf5 (fun k _ h=>.inl h);have CALL6:=k_ (L6.out _ hr5);clear hf5 hr5;have LOC5:=k_ loc5;clear loc5;have F5:=k_ f5;clear f5;have FB5:=k_ fB5;clear fB5;clear CALL5;go_wp2_with fail;refine CALL6.out.mono ?_;rintro e w6 ⟨rfl,hr6,hf6⟩;have loc6:=hf6.heap LOC5.out (by unfold onB;omega);have f6:=F5.out.trans hf6 (fun k _ h=>.inl h);have fB6:=FB5.out.trans hf6 (fun k _ h=>.inl h);clear hf6;have LOC6:=k_ loc6;clear loc6;have F6:=k_ f6;clear f6;have FB6:=k_ fB6;clear fB6;have HR6:=k_ hr6;clear hr6;clear CALL6;go_wp2_with fail;refine(L7.out _).mono ?_;rintro e w7 ⟨v4,rfl,ho4,hb7⟩;obtain⟨a4,n4,c4,rfl⟩:=ho4.slice;have loc7:=(Fr.of_below hb7 (fun _=>False)).heap LOC6.out (fun h=>h);have rd7:=HR6.out.fr (Fr.of_below hb7 (fun _=>False)) (fun h=>h);have f7:=F6.out.trans (Fr.of_below hb7 (fun _=>False)) (fun k _ h=>h.elim);have fB7:=FB6.out.trans (Fr.of_below hb7 (fun _=>False)) (fun k _ h=>h.elim);have ho4':∀ k,(Value.slice a4 n4 c4).ownBlock=some k→w1.heap.size<k:=fun k hk=>by
  have h1:=(ho4.lt hk).1;have h2:=heap_lt LOC6.out
  omega
 obtain⟨r0,r1,r2,r3⟩:=two_cells (show _=some (Obj.cells #[.string s6.1,.bool s6.2] 135) from rd7);obtain⟨⟨k0,k1,k2,k3,k4⟩,g0,g1,g2,g3,g4⟩:=five_cells loc7;have HO4:=k_ ho4;clear hb7 ho4;have res7:=f7.heap RES1.out (by unfold pqB;omega);obtain⟨_,e0,e1,e2,e3,e4⟩:=five_cells res7;have hqw:w1.heap.size≠w.heap.size:=by omega
 have hpw:p≠w.heap.size:=by omega
 have fin:∀ bad,bad=(s6.2 || !readOk cb)→FnPost w p ⟨args,res,slots,objs,readL cb⟩ (s6.1,s6.2 || !readOk cb) (.returned (.agg #[.slice a0 n0 c0,.int .i64 res,.int .i64 slots,.slice a3 n3 c3,.slice a4 n4 c4]))
   (((((((w7.setCell ⟨p,1,none⟩ (.bool bad)).setCell ⟨w1.heap.size,4,none⟩ (.slice a4 n4 c4)).setCell ⟨w.heap.size,0,none⟩ (.slice a0 n0 c0)).setCell ⟨w.heap.size,1,none⟩ (.int .i64 res)).setCell ⟨w.heap.size,2,none⟩ (.int .i64 slots)).setCell ⟨w.heap.size,3,none⟩ (.slice a3 n3 c3)).setCell ⟨w.heap.size,4,none⟩ (.slice a4 n4 c4)):=by
  intro bad hb;rw[← hb];have g1:=Fr.setAt w7 p 1 (.bool bad);have g2:=Fr.setAt (w7.setCell ⟨p,1,none⟩ (.bool bad)) w1.heap.size 4 (.slice a4 n4 c4);generalize hW:(w7.setCell ⟨p,1,none⟩ (.bool bad)).setCell ⟨w1.heap.size,4,none⟩ (.slice a4 n4 c4)=W at *;have g3:Fr (onB w.heap.size) W (((((W.setCell ⟨w.heap.size,0,none⟩ (.slice a0 n0 c0)).setCell ⟨w.heap.size,1,none⟩ (.int .i64 res)).setCell ⟨w.heap.size,2,none⟩ (.int .i64 slots)).setCell ⟨w.heap.size,3,none⟩ (.slice a3 n3 c3)).setCell ⟨w.heap.size,4,none⟩ (.slice a4 n4 c4)) :=
   (((((Fr.refl (onB w.heap.size) W).setCell (p:=⟨w.heap.size,0,none⟩) (fun _=>rfl) _).setCell (p:=⟨w.heap.size,1,none⟩) (fun _=>rfl) _).setCell (p:=⟨w.heap.size,2,none⟩) (fun _=>rfl) _).setCell (p:=⟨w.heap.size,3,none⟩) (fun _=>rfl) _).setCell (p:=⟨w.heap.size,4,none⟩) (fun _=>rfl) _
  have g4:Fr (fun k=>k=p∨k=w1.heap.size∨k=w.heap.size) w7 (((((W.setCell ⟨w.heap.size,0,none⟩ (.slice a0 n0 c0)).setCell ⟨w.heap.size,1,none⟩ (.int .i64 res)).setCell ⟨w.heap.size,2,none⟩ (.int .i64 slots)).setCell ⟨w.heap.size,3,none⟩ (.slice a3 n3 c3)).setCell ⟨w.heap.size,4,none⟩ (.slice a4 n4 c4)) :=
   ((g1.mono (fun k h=>.inl h)).trans g2 (fun k _ h=>.inr (.inl h))).trans g3 (fun k _ h=>.inr (.inr h))
  have hs0:w.heap.size+1=(w.alloc (.cells #[.slice none 0 0,.int .i64 0,.int .i64 0,.slice none 0 0,.slice none 0 0] 66)).heap.size:=by simp
  refine⟨_,_,_,rfl,?_,?_,?_,?_,?_⟩
  ·have hb0:∀ k,(Value.slice a0 n0 c0).ownBlock=some k→w.heap.size<k∧k<w1.heap.size:=fun k hk=>by
    have:=HO0.out.lt hk;omega
   refine Own.base ((HO0.out.fr f7 (fun k hk=>?_)).fr g4 (fun k hk=>?_)) (fun k hk=>by have:=hb0 k hk;omega)
   ·have:=hb0 k hk;unfold pqB;omega
   ·have:=hb0 k hk;omega
  ·refine Own.base ((HO3.out.fr fB7 (fun k hk=>?_)).fr g4 (fun k hk=>?_)) (fun k hk=>by have:=HO3'.out k hk;omega)
   ·have:=HO3'.out k hk;unfold pqB;omega
   ·have:=HO3'.out k hk;omega
  ·refine Own.base (HO4.out.fr g4 (fun k hk=>?_)) (fun k hk=>by have:=ho4' k hk;omega)
   have:=ho4' k hk;omega
  ·have h1:Rdr (w7.setCell ⟨p,1,none⟩ (.bool bad)) p (s6.1,bad):=two_set1 rd7
   have h2:=h1.fr g2 (by unfold onB;omega);exact h2.fr g3 (by unfold onB;omega)
  ·refine(HF1.out.trans f7 (fun k hk h=>?_)).trans g4 (fun k hk h=>?_)
   ·rcases h with h | h
    ·exact h
    ·omega
   ·rcases h with h | h | h
    ·exact h
    ·omega
    ·omega
 have fin2:∀ bad,(((((((w7.setCell ⟨p,1,none⟩ (.bool bad)).setCell ⟨w1.heap.size,4,none⟩ (.slice a4 n4 c4)).setCell ⟨w.heap.size,0,none⟩ (.slice a0 n0 c0)).setCell ⟨w.heap.size,1,none⟩ (.int .i64 res)).setCell ⟨w.heap.size,2,none⟩ (.int .i64 slots)).setCell ⟨w.heap.size,3,none⟩ (.slice a3 n3 c3)).setCell ⟨w.heap.size,4,none⟩ (.slice a4 n4 c4)).heap[w.heap.size]?=some (.cells #[.slice a0 n0 c0,.int .i64 res,.int .i64 slots,.slice a3 n3 c3,.slice a4 n4 c4] 66):=by
  intro bad;have h1:=(Fr.setAt (w7.setCell ⟨p,1,none⟩ (.bool bad)) w1.heap.size 4 (.slice a4 n4 c4)).heap ((Fr.setAt w7 p 1 (.bool bad)).heap res7 (by unfold onB;omega)) (by unfold onB;omega);exact row_set (row_set (row_set (row_set (row_set h1 0 _) 1 _) 2 _) 3 _) 4 _
 clear ho4' rd7 f7 fB7 loc7 res7;have FIN:=k_ fin;clear fin;have FINB:=k_ fin2;clear fin2
 cases hs6:s6.2 <;> cases hok:readOk cb
 all_goals
  rw[hs6] at r1
  first | have FIN2:=k_ (FIN.out true (by rw[hs6,hok];rfl)) | have FIN2:=k_ (FIN.out false (by rw[hs6,hok];rfl))
  clear FIN;go_wp2_with fail
  first | obtain⟨⟨j0,j1,j2,j3,j4⟩,_⟩:=five_cells (FINB.out true) | skip
  first | obtain⟨⟨i0,i1,i2,i3,i4⟩,_⟩:=five_cells (FINB.out false) | skip
  exact bodyPost_ret (v:=.agg #[.slice a0 n0 c0,.int .i64 res,.int .i64 slots,.slice a3 n3 c3,.slice a4 n4 c4]) (by
   first
   | simp only[results,Tryz.results79,go_sem,j0,j1,j2,j3,j4];done
   | simp only[results,Tryz.results79,go_sem,i0,i1,i2,i3,i4];done
   | simp[results,Tryz.results79,go_sem,j0,j1,j2,j3,j4];done
   | simp[results,Tryz.results79,go_sem,i0,i1,i2,i3,i4];done) rfl FIN2.out
end Go.Proofs.YtlofbhoicbemnaaGreatDoor
