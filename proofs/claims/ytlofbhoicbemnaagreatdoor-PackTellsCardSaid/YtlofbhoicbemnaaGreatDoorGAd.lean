/- Walk: image.Lay: a program's bytes. Walks: package image's reader: take, num, list. Walks: the reader of a file: take, num. Walks: .. -/
import Derived.Test.YtlofbhoicbemnaaGreatDoorGAc
set_option linter.unusedVariables false
set_option linter.unusedSimpArgs false
set_option maxRecDepth 100000
set_option maxHeartbeats 3200000
namespace Go.Proofs.YtlofbhoicbemnaaGreatDoor
open Go.ChangeShapes Go.WideShapes Go.ChangeAt Go.RowKit
def xW (w:World) (D:Nat→Prop) (a:Option Addr) (l:List (List Int)):Prop:=∀ j (hj:j<l.length),∃ b o,a=some ⟨b,o,none⟩∧D b∧∃ a' c',w.cell? ⟨b,o+j,none⟩=some (.slice a' l[j].length c')∧aQ w D a' l[j]
theorem xW.fr {F:Nat→Prop} {w w':World} {D:Nat→Prop} {a:Option Addr} {l:List (List Int)} (h:xW w D a l) (hf:Fr F w w') (hd:∀ k,D k→¬ F k):xW w' D a l:=fun j hj=>by
 obtain⟨b,o,h1,h2,a',c',h3,h4⟩:=h j hj;exact⟨b,o,h1,h2,a',c',hf.cell h3 (hd b h2),h4.fr hf hd⟩
def AZ (w:World) (D:Nat→Prop) (a:Option Addr) (l:List Fun):Prop:=∀ j (hj:j<l.length),∃ b o,a=some ⟨b,o,none⟩∧D b∧∃ c0 c1 c2 c3 c4,w.cell? ⟨b,o+j * 5,none⟩=some c0∧w.cell? ⟨b,o+j * 5+1,none⟩=some c1∧w.cell? ⟨b,o+j * 5+2,none⟩=some c2∧w.cell? ⟨b,o+j * 5+3,none⟩=some c3∧w.cell? ⟨b,o+j * 5+4,none⟩=some c4∧dP w D l[j] c0 c1 c2 c3 c4
theorem AZ.fr {F:Nat→Prop} {w w':World} {D:Nat→Prop} {a:Option Addr} {l:List Fun} (h:AZ w D a l) (hf:Fr F w w') (hd:∀ k,D k→¬ F k):AZ w' D a l:=fun j hj=>by
 obtain⟨b,o,h1,h2,c0,c1,c2,c3,c4,q0,q1,q2,q3,q4,h4⟩:=h j hj;have hn:=hd b h2;exact⟨b,o,h1,h2,c0,c1,c2,c3,c4,hf.cell q0 hn,hf.cell q1 hn,hf.cell q2 hn,hf.cell q3 hn,hf.cell q4 hn,h4.fr hf hd⟩
def aD (w:World) (D:Nat→Prop) (p:Prg) (c0 c1 c2:Value):Prop :=
 (∃ a c,c0=.slice a p.globals.length c∧aQ w D a p.globals)∧(∃ a c,c1=.slice a p.shapes.length c∧xW w D a p.shapes)∧∃ a c,c2=.slice a p.funcs.length c∧AZ w D a p.funcs
theorem aD.fr {F:Nat→Prop} {w w':World} {D:Nat→Prop} {p:Prg} {c0 c1 c2:Value} (h:aD w D p c0 c1 c2) (hf:Fr F w w') (hd:∀ k,D k→¬ F k):aD w' D p c0 c1 c2:=by
 obtain⟨⟨a,c,h1,h2⟩,⟨a',c',h3,h4⟩,a'',c'',h5,h6⟩:=h;exact⟨⟨a,c,h1,h2.fr hf hd⟩,⟨a',c',h3,h4.fr hf hd⟩,a'',c'',h5,h6.fr hf hd⟩
theorem aD.dom {w:World} {D D':Nat→Prop} {p:Prg} {c0 c1 c2:Value} (h:aD w D p c0 c1 c2) (hd:∀ k,D k→D' k):aD w D' p c0 c1 c2:=by
 have hi:∀ {a:Option Addr} {l:List Int},aQ w D a l→aQ w D' a l:=fun h j hj=>by
  obtain⟨b,o,h1,h2,h3⟩:=h j hj;exact⟨b,o,h1,hd b h2,h3⟩
 obtain⟨⟨a,c,h1,h2⟩,⟨a',c',h3,h4⟩,a'',c'',h5,h6⟩:=h;refine⟨⟨a,c,h1,hi h2⟩,⟨a',c',h3,fun j hj=>?_⟩,a'',c'',h5,fun j hj=>?_⟩
 ·obtain⟨b,o,g1,g2,x,y,g3,g4⟩:=h4 j hj
  exact⟨b,o,g1,hd b g2,x,y,g3,hi g4⟩
 ·obtain⟨b,o,g1,g2,c0,c1,c2,c3,c4,q0,q1,q2,q3,q4,e1,e2,⟨x0,y0,e3,e4⟩,⟨x1,y1,e5,e6⟩,x2,y2,e7,e8⟩:=h6 j hj
  refine⟨b,o,g1,hd b g2,c0,c1,c2,c3,c4,q0,q1,q2,q3,q4,e1,e2,⟨x0,y0,e3,hi e4⟩,⟨x1,y1,e5,hi e6⟩,x2,y2,e7,fun i hi=>?_⟩;obtain⟨b',o',r1,r2,r3⟩:=e8 i hi;exact⟨b',o',r1,hd b' r2,r3⟩
def dH (f:List Int):Nat:=f.length
def cz (f:Fun):Nat:=f.args.length+f.objects.length+f.code.length
def bulk (p:Prg):Nat:=p.globals.length+p.shapes.length+p.funcs.length+(p.shapes.map dH).sum+(p.funcs.map cz).sum
theorem iL {α:Type} (g:α→Nat) (l:List α) (k:Nat) (hk:k<l.length):((l.take k).map g).sum+g l[k]≤(l.map g).sum:=by
 have h1:((l.take (k+1)).map g).sum=((l.take k).map g).sum+g l[k]:=by
  rw[aK l k hk,List.map_append,List.sum_append];simp
 have h2:(l.map g).sum=((l.take (k+1)).map g).sum+((l.drop (k+1)).map g).sum:=by
  rw[← List.sum_append,← List.map_append,List.take_append_drop]
 omega
theorem nU (l:List (List Int)):∀ s,(l.foldl bH s).1.length=s.1.length+l.length+(l.map dH).sum:=by
 induction l with
 | nil=>intro s;simp
 | cons x l ih=>intro s;rw[List.foldl_cons,ih,dS];simp[dH];omega
theorem Io (s:List Int × Bool) (f:Fun):(wFn s f).1.length≤s.1.length+5+7 * cz f:=by
 have:(wFn s f).1.length=(bY (bH (bY (bH s f.args) [f.result,f.slots]) f.objects) [(f.code.length:Int)]).1.length+(if laid f.code then dR f.code else []).length:=by
  exact List.length_append ..
 rw[this,eB,dS,eB,dS];unfold cz;have h2:(if laid f.code then dR f.code else []).length≤7 * f.code.length:=by
  split
  ·rw[fZ];exact Nat.le_refl _
  ·exact Nat.zero_le _
 simp;omega
theorem vH (l:List Fun):∀ s,(l.foldl wFn s).1.length≤s.1.length+5 * l.length+7 * (l.map cz).sum:=by
 induction l with
 | nil=>intro s;simp
 | cons x l ih =>
   intro s;rw[List.foldl_cons];have h1:=ih (wFn s x);have h2:=Io s x
   simp at *;omega
def nJ (p:Prg):List Int × Bool:=bY (bH ([],false) p.globals) [(p.shapes.length:Int)]
def qK (p:Prg):List Int × Bool:=bY (p.shapes.foldl bH (nJ p)) [(p.funcs.length:Int)]
def gP (p:Prg):List Int × Bool:=p.funcs.foldl wFn (qK p)
def ng (p:Prg):Value:=if (gP p).2 then .tuple #[.string ⟨#[]⟩,.int .i64 1] else .tuple #[.string (ah (gP p).1),.int .i64 0]
theorem pX (p:Prg):(nJ p).1.length=p.globals.length+2:=by
 unfold nJ;rw[eB,dS];simp;omega
theorem xO (p:Prg):(qK p).1.length=p.globals.length+p.shapes.length+(p.shapes.map dH).sum+3:=by
 unfold qK;rw[eB,nU,pX];simp;omega
theorem Ko {wa w:World} {B p:Nat} {v v1:Value} {s:List Int × Bool} (h:St wa B p v w v1 s) {D:Nat→Prop} (hD:Dom wa p v D) {f:Fun} {c0 c1 c2 c3 c4:Value} (hf:dP wa D f c0 c1 c2 c3 c4)
  (hlen:s.1.length+f.args.length+f.objects.length+7 * f.code.length≤900000) (hcode:f.code.length≤100000) :
  Calls Tryz.prog 72 #[.pointer (some ⟨p,0,none⟩),.agg #[c0,c1,c2,c3,c4]] w fun e w'=>e=.returned (.tuple #[])∧∃ v',St wa B p v w' v' (wFn s f) :=
 (JG w B p v1 s h.1 D f c0 c1 c2 c3 c4 (hf.fr h.2.1 (mg hD)) (Ak hD h.2.1 h.2.2) hlen hcode).mono fun _ _ ⟨he,v',hp⟩=>⟨he,v',h.trans hp⟩
theorem ES (w:World) (D:Nat→Prop) (pr:Prg) (c0 c1 c2:Value) (hv:aD w D pr c0 c1 c2) (hD:∀ k,D k→k<w.heap.size) (hbulk:bulk pr≤3000) :
  Calls Tryz.prog 47 #[.agg #[c0,c1,c2]] w fun e w'=>e=.returned (ng pr)∧Below w.heap.size w w':=by
 obtain⟨⟨a0,n0,rfl,hs0⟩,⟨a1,n1,rfl,hs1⟩,a2,n2,rfl,hs2⟩:=hv;unfold bulk at hbulk;have hfr0:Fr (fun _=>False) w ((w.alloc (.cells #[.slice a0 pr.globals.length n0,.slice a1 pr.shapes.length n1,.slice a2 pr.funcs.length n2] 48)).alloc (gY (.slice none 0 0) false)):=((Fr.refl _ _).alloc _).alloc _;have hs0:=hs0.fr hfr0 (fun _ _ h=>h);have hs1:=hs1.fr hfr0 (fun _ _ h=>h);have hs2:=hs2.fr hfr0 (fun _ _ h=>h);have hbox0:∀ j u,(#[Value.slice a0 pr.globals.length n0,.slice a1 pr.shapes.length n1,.slice a2 pr.funcs.length n2])[j]?=some u→((w.alloc (.cells #[.slice a0 pr.globals.length n0,.slice a1 pr.shapes.length n1,.slice a2 pr.funcs.length n2] 48)).alloc (gY (.slice none 0 0) false)).cell? ⟨w.heap.size,j,none⟩=some u:=fun j u hj=>by
  rw[aY _ _ (by simp),aI];exact hj
 have hwr:Wr ((w.alloc (.cells #[.slice a0 pr.globals.length n0,.slice a1 pr.shapes.length n1,.slice a2 pr.funcs.length n2] 48)).alloc (gY (.slice none 0 0) false)) w.heap.size (w.heap.size+1) (.slice none 0 0) [] false:=by
  refine⟨?_,Own.nil _ _ _,fun h=>by simp[Value.ownBlock] at h,Nat.le_succ _⟩;have:=ai (w.alloc (.cells #[.slice a0 pr.globals.length n0,.slice a1 pr.shapes.length n1,.slice a2 pr.funcs.length n2] 48)) (gY (.slice none 0 0) false)
  simpa using this
 have hsize:((w.alloc (.cells #[.slice a0 pr.globals.length n0,.slice a1 pr.shapes.length n1,.slice a2 pr.funcs.length n2] 48)).alloc (gY (.slice none 0 0) false)).heap.size=w.heap.size+2:=by simp
 have hunf:gY (.slice none 0 0) false=.cells #[.slice none 0 0,.bool false] 125:=rfl;rw[hunf] at hfr0 hs0 hs1 hs2 hbox0 hwr hsize;clear hunf;generalize hwa:(w.alloc (.cells #[.slice a0 pr.globals.length n0,.slice a1 pr.shapes.length n1,.slice a2 pr.funcs.length n2] 48)).alloc (.cells #[.slice none 0 0,.bool false] 125)=wa at *;have hdom:Dom wa (w.heap.size+1) (.slice none 0 0) (fun k=>D k∨k=w.heap.size):=by
  rintro k (hk | rfl)
  ·have:=hD k hk
   exact⟨by omega,fun h=>by simp[Value.ownBlock] at h,by omega⟩
  ·exact⟨by omega,fun h=>by simp[Value.ownBlock] at h,by omega⟩
 have hdomD:Dom wa (w.heap.size+1) (.slice none 0 0) D:=fun k hk=>hdom k (.inl hk)
 have hst0:St wa w.heap.size (w.heap.size+1) (.slice none 0 0) wa (.slice none 0 0) ([],false):=St.refl hwr;have box:∀ w1 v1 t,St wa w.heap.size (w.heap.size+1) (.slice none 0 0) w1 v1 t→w1.cell? ⟨w.heap.size,0,none⟩=some (.slice a0 pr.globals.length n0)∧w1.cell? ⟨w.heap.size,1,none⟩=some (.slice a1 pr.shapes.length n1)∧w1.cell? ⟨w.heap.size,2,none⟩=some (.slice a2 pr.funcs.length n2):=fun w1 v1 t h =>
  ⟨h.keep hdom (.inr rfl) (hbox0 0 _ rfl),h.keep hdom (.inr rfl) (hbox0 1 _ rfl),h.keep hdom (.inr rfl) (hbox0 2 _ rfl)⟩
 have l1:=rf hst0 hdomD n0 hs0 (by simp;omega);have l2:=fun w1 v1 (h:St wa w.heap.size (w.heap.size+1) (.slice none 0 0) w1 v1 (bH ([],false) pr.globals))=>qU h [(pr.shapes.length:Int)] (by rw[dS];simp;omega)
 have l3:=fun k (hk:k<pr.shapes.length) w1 v1 (h:St wa w.heap.size (w.heap.size+1) (.slice none 0 0) w1 v1 ((pr.shapes.take k).foldl bH (nJ pr))) =>
  (show ∃ b o,a1=some ⟨b,o,none⟩∧∃ a' c',w1.cell? ⟨b,o+k,none⟩=some (.slice a' pr.shapes[k].length c')∧∀ (ob:Obj),Calls Tryz.prog 70 #[.pointer (some ⟨w.heap.size+1,0,none⟩),.slice a' pr.shapes[k].length c'] (w1.alloc ob) fun e w'=>e=.returned (.tuple #[])∧∃ v',St wa w.heap.size (w.heap.size+1) (.slice none 0 0) w' v' ((pr.shapes.take (k+1)).foldl bH (nJ pr)) from by
   obtain⟨b,o,h1,h2,a',c',h3,h4⟩:=hs1 k hk;refine⟨b,o,h1,a',c',h.keep hdomD h2 h3,fun ob=>?_⟩;rw[aK _ k hk,List.foldl_append,List.foldl_cons,List.foldl_nil];refine rf (h.alloc ob) hdomD c' h4 ?_;rw[nU,pX];have:=iL dH pr.shapes k hk;have h5:((pr.shapes.take k).length)≤pr.shapes.length:=List.length_take_le' _ _;unfold dH at *
   omega)
 have l4:=fun w1 v1 (h:St wa w.heap.size (w.heap.size+1) (.slice none 0 0) w1 v1 (pr.shapes.foldl bH (nJ pr)))=>qU h [(pr.funcs.length:Int)] (by rw[nU,pX];simp;omega)
 have l5:=fun k (hk:k<pr.funcs.length) w1 v1 (h:St wa w.heap.size (w.heap.size+1) (.slice none 0 0) w1 v1 ((pr.funcs.take k).foldl wFn (qK pr))) =>
  (show ∃ b o,a2=some ⟨b,o,none⟩∧∃ c0 c1 c2 c3 c4,w1.cell? ⟨b,o+k * 5,none⟩=some c0∧w1.cell? ⟨b,o+k * 5+1,none⟩=some c1∧w1.cell? ⟨b,o+k * 5+2,none⟩=some c2∧w1.cell? ⟨b,o+k * 5+3,none⟩=some c3∧w1.cell? ⟨b,o+k * 5+4,none⟩=some c4 ∧
    (∃ x0 y0 z0 x3 y3 z3 x4 y4 z4 r s,c0=.slice x0 y0 z0∧c1=.int .i64 r∧c2=.int .i64 s∧c3=.slice x3 y3 z3∧c4=.slice x4 y4 z4) ∧
    ∀ (ob:Obj),Calls Tryz.prog 72 #[.pointer (some ⟨w.heap.size+1,0,none⟩),.agg #[c0,c1,c2,c3,c4]] (w1.alloc ob) fun e w'=>e=.returned (.tuple #[])∧∃ v',St wa w.heap.size (w.heap.size+1) (.slice none 0 0) w' v' ((pr.funcs.take (k+1)).foldl wFn (qK pr)) from by
   obtain⟨b,o,h1,h2,c0,c1,c2,c3,c4,q0,q1,q2,q3,q4,h4⟩:=hs2 k hk;refine⟨b,o,h1,c0,c1,c2,c3,c4,h.keep hdomD h2 q0,h.keep hdomD h2 q1,h.keep hdomD h2 q2,h.keep hdomD h2 q3,h.keep hdomD h2 q4,?_,fun ob=>?_⟩
   ·obtain⟨e1,e2,⟨x0,z0,e3,_⟩,⟨x3,z3,e4,_⟩,x4,z4,e5,_⟩:=h4
    exact⟨x0,_,z0,x3,_,z3,x4,_,z4,_,_,e3,e1,e2,e4,e5⟩
   rw[aK _ k hk,List.foldl_append,List.foldl_cons,List.foldl_nil];have h6:=vH (pr.funcs.take k) (qK pr);rw[xO] at h6;have:=iL cz pr.funcs k hk;have h5:((pr.funcs.take k).length)≤pr.funcs.length:=List.length_take_le' _ _;have h7:cz pr.funcs[k]=pr.funcs[k].args.length+pr.funcs[k].objects.length+pr.funcs[k].code.length:=rfl;refine Ko (h.alloc ob) hdomD h4 ?_ ?_
   ·omega
   ·omega)
 have fin:∀ w1 v1 t,St wa w.heap.size (w.heap.size+1) (.slice none 0 0) w1 v1 t→Below w.heap.size w w1:=fun w1 v1 t h=>by
  have h1:Below w.heap.size w wa:=by rw[← hwa];exact((Below.refl _ _).alloc (Nat.le_refl _) _).alloc (by simp) _
  refine h1.trans (h.2.1.below (by omega) (fun k hk=>?_))
  rcases hk with rfl | hk
  ·omega
  ·simp[Value.ownBlock] at hk
 have hb1:pr.shapes.length≤3000:=by omega
 have hb2:pr.funcs.length≤3000:=by omega
 clear hs0 hs1 hs2 hfr0 hdom hdomD hst0 hbox0 hD hbulk hwr hsize;have HWA:=k_ hwa;clear hwa;have BOX:=k_ box;clear box;have L1:=k_ l1;clear l1;have L2:=k_ l2;clear l2;have L3:=k_ l3;clear l3;have L4:=k_ l4;clear l4;have L5:=k_ l5;clear l5;have FIN:=k_ fin;clear fin
 go_enter Tryz.func47,Tryz.ntmps47
 go_wp2_with fail;rw[HWA.out];refine L1.out.mono ?_;rintro e w1 ⟨rfl,v1,hst1⟩;obtain⟨_,q1,_⟩:=BOX.out _ _ _ hst1;have L2':=k_ (L2.out _ _ hst1);clear hst1;go_wp2_with fail;refine L2'.out.mono ?_;rintro e w2 ⟨rfl,v2,hst2⟩;clear q1;obtain⟨_,q1,_⟩:=BOX.out _ _ _ hst2;have HST2:=k_ hst2;clear hst2;go_wp2_with fail;clear q1
 go_loopw [24] (fun i wr=>∃ k:Nat,k≤pr.shapes.length∧i=.int .i64 k∧∃ v',St wa w.heap.size (w.heap.size+1) (.slice none 0 0) wr v' ((pr.shapes.take k).foldl bH (nJ pr))) (fun i _=>pr.shapes.length - (intOf i).toNat)
 case atStart=>exact⟨0,Nat.zero_le _,rfl,v2,HST2.out⟩
 case round =>
  obtain⟨k,hk,rfl,v3,hst3⟩:=hrel
  by_cases hlt:k<pr.shapes.length
  ·obtain⟨b,o,rfl,a',c',hq,hcall⟩:=L3.out k hlt _ _ hst3
   have HC:=k_ hcall;clear hcall hst3;go_wp2_with fail;refine(HC.out _).mono ?_;rintro e w4 ⟨rfl,v4,hst4⟩;have HST4:=k_ hst4;clear hst4 hq;go_wp2_with fail
   go_roundw
   case rel=>exact⟨k+1,by omega,by go_num,v4,HST4.out⟩
   case measure=>simp[intOf];omega
  ·have hk':k=pr.shapes.length:=by omega
   subst hk';rw[List.take_length] at hst3;obtain⟨_,_,q2⟩:=BOX.out _ _ _ hst3;have L4':=k_ (L4.out _ _ hst3);clear hst3;go_wp2_with fail;refine L4'.out.mono ?_;rintro e w4 ⟨rfl,v4,hst4⟩;clear q2;obtain⟨_,_,q2⟩:=BOX.out _ _ _ hst4;have HST4:=k_ hst4;clear hst4;go_wp2_with fail;clear q2
   go_loopw [42] (fun i wr=>∃ k:Nat,k≤pr.funcs.length∧i=.int .i64 k∧∃ v',St wa w.heap.size (w.heap.size+1) (.slice none 0 0) wr v' ((pr.funcs.take k).foldl wFn (qK pr))) (fun i _=>pr.funcs.length - (intOf i).toNat)
   case atStart=>exact⟨0,Nat.zero_le _,rfl,v4,HST4.out⟩
   case round =>
    obtain⟨k,hk,rfl,v5,hst5⟩:=hrel
    by_cases hlt:k<pr.funcs.length
    ·obtain⟨b,o,rfl,c0,c1,c2,c3,c4,p0,p1,p2,p3,p4,⟨x0,y0,z0,x3,y3,z3,x4,y4,z4,r,s,rfl,rfl,rfl,rfl,rfl⟩,hcall⟩:=L5.out k hlt _ _ hst5
     have HC:=k_ hcall;clear hcall hst5;go_wp2_with fail;refine(HC.out _).mono ?_;rintro e w6 ⟨rfl,v6,hst6⟩;have HST6:=k_ hst6;clear hst6 p0 p1 p2 p3 p4;go_wp2_with fail
     go_roundw
     case rel=>exact⟨k+1,by omega,by go_num,v6,HST6.out⟩
     case measure=>simp[intOf];omega
    ·have hk':k=pr.funcs.length:=by omega
     subst hk';rw[List.take_length] at hst5;obtain⟨q0,q1,_,_⟩:=aN (show _=some (Obj.cells #[v5,.bool (gP pr).2] 125) from hst5.1.1);have hcv:=ni hst5.1.2.1;have hF:=FIN.out _ _ _ hst5;have hres:ng pr=if (gP pr).2 then .tuple #[.string ⟨#[]⟩,.int .i64 1] else .tuple #[.string (ah (gP pr).1),.int .i64 0]:=rfl;have hw1:pr.funcs.foldl wFn (qK pr)=gP pr:=rfl;rw[hw1] at hcv;clear hst5 hw1;generalize gP pr=t at *;obtain⟨t1,t2⟩:=t
     dsimp only at q1 hcv hres
     cases t2
     all_goals
      have HF:=k_ hF;have HR:=k_ hres;clear hF hres;go_wp2_with fail
      go_ret2
      exact⟨by rw[HR.out];rfl,HF.out⟩
abbrev RS:=ByteArray × Bool
def bS (s:RS) (n:Nat):ByteArray × RS:=if s.1.size<n then (⟨#[]⟩,(⟨#[]⟩,true)) else (s.1.extract 0 n,(s.1.extract n s.1.size,s.2))
def aC (s:RS):Int × RS:=if s.1.size<1 then (0,(⟨#[]⟩,true)) else (gb s.1 0,(s.1.extract 1 s.1.size,s.2))
def bC (s:RS):Nat→List Int × RS
 | 0=>([],s)
 | n+1=>((bC s n).1 ++ [(aC (bC s n).2).1],(aC (bC s n).2).2)
def aF (s:RS):List Int × RS:=bC (aC s).2 (aC s).1.toNat
theorem jP (s:RS):0≤(aC s).1∧(aC s).1<256:=by
 unfold aC
 split
 ·exact⟨Int.le_refl 0,by show (0:Int)<256;omega⟩
 ·exact fM _ _
theorem uW (s:RS) (n:Nat):(bC s n).1.length=n:=by
 induction n with
 | zero=>rfl
 | succ n ih=>simp[bC,ih]
theorem bM (s:RS):(aC s).2.1.size≤s.1.size:=by
 unfold aC
 split
 ·exact Nat.zero_le _
 ·rw[ByteArray.size_extract];omega
theorem nM (s:RS) (n:Nat):(bC s n).2.1.size≤s.1.size:=by
 induction n with
 | zero=>exact Nat.le_refl _
 | succ n ih=>exact Nat.le_trans (bM _) ih
theorem dX (s:RS):(aF s).2.1.size≤s.1.size:=Nat.le_trans (nM _ _) (bM _)
theorem Ad (s:RS) (n:Nat):(bS s n).2.1.size≤s.1.size:=by
 unfold bS
 split
 ·exact Nat.zero_le _
 ·rw[ByteArray.size_extract];omega
def Rdr (w:World) (p:Nat) (s:RS):Prop:=w.heap[p]?=some (.cells #[.string s.1,.bool s.2] 135)
def onB (p:Nat):Nat→Prop:=fun k=>k=p
theorem Rdr.fr {F:Nat→Prop} {w w':World} {p:Nat} {s:RS} (h:Rdr w p s) (hf:Fr F w w') (hn:¬ F p):Rdr w' p s:=hf.heap h hn
theorem Rdr.alloc {w:World} {p:Nat} {s:RS} (h:Rdr w p s) (o:Obj):Rdr (w.alloc o) p s:=by
 unfold Rdr;rw[Below.heap_alloc _ _ _ (aj h)];exact h
theorem isEmpty_iff (b:ByteArray):b.toList.isEmpty=decide (b.size<1):=by
 rw[ByteArray.toList_eq];obtain⟨⟨l⟩⟩:=b
 cases l <;> simp[ByteArray.size]
theorem xx (w:World) (p:Nat) (s:RS) (hr:Rdr w p s) (n:Nat) (hn:n≤1000000) (hs:s.1.size≤1000000) :
  Calls Tryz.prog 93 #[.pointer (some ⟨p,0,none⟩),.int .i64 n] w fun e w'=>e=.returned (.string (bS s n).1)∧Rdr w' p (bS s n).2∧Fr (onB p) w w':=by
 obtain⟨b,bad⟩:=s;obtain⟨q0,q1,q2,q3⟩:=aN (show _=some (Obj.cells #[.string b,.bool bad] 135) from hr)
 dsimp only at hs
 by_cases h:b.size<n
 ·have e:bS (b,bad) n=(⟨#[]⟩,(⟨#[]⟩,true)):=by unfold bS;rw[if_pos h]
  rw[e];have hp:Rdr ((w.setCell ⟨p,1,none⟩ (.bool true)).setCell ⟨p,0,none⟩ (.string ⟨#[]⟩)) p (⟨#[]⟩,true)∧Fr (onB p) w ((w.setCell ⟨p,1,none⟩ (.bool true)).setCell ⟨p,0,none⟩ (.string ⟨#[]⟩)) :=
   ⟨fH (gm hr),((Fr.refl (onB p) w).setCell (p:=⟨p,1,none⟩) (fun _=>rfl) _).setCell (p:=⟨p,0,none⟩) (fun _=>rfl) _⟩
  clear e hr;have HP:=k_ hp;clear hp
  go_enter Tryz.func93,Tryz.ntmps93
  go_wp2_with fail
  go_ret
  exact⟨rfl,HP.out⟩
 ·have e:bS (b,bad) n=(b.extract 0 n,(b.extract n b.size,bad)):=by unfold bS;rw[if_neg h]
  rw[e];have hp:Rdr (w.setCell ⟨p,0,none⟩ (.string (b.extract n b.size))) p (b.extract n b.size,bad)∧Fr (onB p) w (w.setCell ⟨p,0,none⟩ (.string (b.extract n b.size))) :=
   ⟨fH hr,(Fr.refl (onB p) w).setCell (p:=⟨p,0,none⟩) (fun _=>rfl) _⟩
  clear e hr;have HP:=k_ hp;clear hp
  go_enter Tryz.func93,Tryz.ntmps93
  go_wp2_with fail
  go_ret
  exact⟨rfl,HP.out⟩
theorem kZ (w:World) (p:Nat) (s:RS) (hr:Rdr w p s) (hs:s.1.size≤1000000) :
  Calls Tryz.prog 78 #[.pointer (some ⟨p,0,none⟩)] w fun e w'=>e=.returned (.int .i64 (aC s).1)∧Rdr w' p (aC s).2∧Fr (onB p) w w':=by
 have ht:=xx w p s hr 1 (by omega) hs
 by_cases h:s.1.size<1
 ·have e1:bS s 1=(⟨#[]⟩,(⟨#[]⟩,true)):=by unfold bS;rw[if_pos h]
  have e2:aC s=(0,(⟨#[]⟩,true)):=by unfold aC;rw[if_pos h]
  rw[e1] at ht;rw[e2];have he:(⟨#[]⟩:ByteArray).toList.isEmpty=true:=by rw[ByteArray.toList_eq];rfl
  clear e1 e2 h hr hs;have HT:=k_ ht;clear ht
  go_enter Tryz.func78,Tryz.ntmps78
  go_wp2_with fail;refine HT.out.mono ?_;rintro e w1 ⟨rfl,hp⟩;have HP:=k_ hp;clear hp;go_wp2_with fail
  go_ret
  exact⟨rfl,HP.out⟩
 ·have e1:bS s 1=(s.1.extract 0 1,(s.1.extract 1 s.1.size,s.2)):=by unfold bS;rw[if_neg h]
  have e2:aC s=(gb s.1 0,(s.1.extract 1 s.1.size,s.2)):=by unfold aC;rw[if_neg h]
  rw[e1] at ht;rw[e2];have hx:(s.1.extract 0 1).size=1:=by rw[ByteArray.size_extract];omega
  have he:(s.1.extract 0 1).toList.isEmpty=false:=by rw[isEmpty_iff];simp[hx]
  have h0:0<(s.1.extract 0 1).size:=by omega
  have hg:(((s.1.extract 0 1)[0]).toNat:Int)=gb s.1 0:=by
   rw[fV _ 0 h0];exact eY s.1 1 0 (by omega) (by omega)
  have hbd:=fM s.1 0;generalize s.1.extract 0 1=b1 at *;generalize gb s.1 0=x at *;clear e1 e2 h hr hs hx;have HT:=k_ ht;clear ht
  go_enter Tryz.func78,Tryz.ntmps78
  go_wp2_with fail;refine HT.out.mono ?_;rintro e w1 ⟨rfl,hp⟩;have HP:=k_ hp;clear hp;go_wp2_with fail
  go_ret
  exact⟨rfl,HP.out⟩
theorem mV (w:World) (p:Nat) (s:RS) (hr:Rdr w p s) (hs:s.1.size≤1000000) :
  Calls Tryz.prog 77 #[.pointer (some ⟨p,0,none⟩)] w fun e w'=>∃ v,e=.returned v∧Own aG w' w.heap.size v (aF s).1∧Rdr w' p (aF s).2∧Fr (onB p) w w':=by
 have hpl:=aj hr;have n1:=kZ w p s hr hs;have n2:=fun w1 k (h:Rdr w1 p (bC (aC s).2 k).2)=>kZ w1 p (bC (aC s).2 k).2 h (Nat.le_trans (nM _ _) (Nat.le_trans (bM _) hs))
 have hl:aF s=bC (aC s).2 (aC s).1.toNat:=rfl;rw[hl];clear hl;have hbd:=jP s;generalize aC s=t at *;obtain⟨x,s1⟩:=t
 dsimp only at n1 n2 hbd ⊢
 clear hr;obtain⟨n,rfl⟩:=Int.eq_ofNat_of_zero_le hbd.1;rw[Int.toNat_natCast];have hn:n<256:=by omega
 clear hbd hs;have N1:=k_ n1;clear n1;have N2:=k_ n2;clear n2
 go_enter Tryz.func77,Tryz.ntmps77
 go_wp2_with fail;refine N1.out.mono ?_;rintro e w1 ⟨rfl,hr1,hf1⟩;have HR1:=k_ hr1;clear hr1;have HF1:=k_ hf1;clear hf1;go_wp2_with fail
 go_loopw [3,6] (fun v i wr=>∃ k:Nat,k≤n∧i=.int .i64 k∧Own aG wr w.heap.size v (bC s1 k).1∧Rdr wr p (bC s1 k).2∧Fr (onB p) w wr) (fun _ i _=>n - (intOf i).toNat)
 case atStart=>exact⟨0,Nat.zero_le _,rfl,Own.nil _ _ _,HR1.out,HF1.out⟩
 case round =>
  obtain⟨k,hk,rfl,hown,hr2,hf2⟩:=hrel
  by_cases hlt:k<n
  ·have hc:=N2.out _ k hr2
   have HC:=k_ hc;clear hc;have HOWN:=k_ hown;clear hown;have HR2:=k_ hr2;clear hr2;have HF2:=k_ hf2;clear hf2;go_wp2_with fail;refine HC.out.mono ?_;rintro e w3 ⟨rfl,hr3,hf3⟩;have hf4:=HF2.out.trans hf3 (fun _ _ h=>h);have hown3:=HOWN.out.fr hf3 (fun m hm=>by have:=(HOWN.out.lt hm).1;unfold onB;omega);have hsn:bC s1 (k+1)=((bC s1 k).1 ++ [(aC (bC s1 k).2).1],(aC (bC s1 k).2).2):=rfl;have hlk:=uW s1 k;generalize bC s1 k=t at *;obtain⟨l,s2⟩:=t
   dsimp only at hsn hown3 hr3 hlk
   generalize aC s2=t at *;obtain⟨y,s3⟩:=t
   dsimp only at hsn hr3
   have HR3:=k_ hr3;clear hr3;have HF4:=k_ hf4;clear hf4;have HOWN3:=k_ hown3;clear hown3;have HSN:=k_ hsn;clear hsn;clear hf3
   go_wp2_with (at_builtin;refine bE aG rfl (.tmp 8) (.tmp 11) rfl w.heap.size l [y] _ rfl (HOWN3.out.alloc _) w3.heap.size 0 1 rfl (aA.new _ _ _ _) ?c1 ?c2 ?_)
   case c1=>simp;omega
   case c2=>have:=HF4.out.size;simp;omega
   intro v4 w4 hown4 hg4 _;have hr4:Rdr w4 p s3:=by
    have h1:=HR3.out.alloc (.cells #[.int .i64 y] 3);unfold Rdr at h1 ⊢;rw[hg4.block p (aj h1) (fun e=>by have:=(HOWN3.out.lt e.symm).1;omega)];exact h1
   have hf5:=(HF4.out.alloc _).grown hg4 (fun m hm hlt'=>by have:=(HOWN3.out.lt hm).1;omega);obtain⟨a4,n4,c4,rfl⟩:=hown4.slice;have HOWN4:=k_ hown4;clear hown4;have HR4:=k_ hr4;clear hr4;have HF5:=k_ hf5;clear hf5;clear hg4;go_wp2_with fail
   go_roundw
   case rel =>
    refine⟨k+1,by omega,by go_num,?_,?_,HF5.out⟩
    ·rw[HSN.out];exact HOWN4.out
    ·rw[HSN.out];exact HR4.out
   case measure=>simp[intOf];omega
  ·have hk':k=n:=by omega
   subst hk';have hP:∀ v,Own aG wr w.heap.size v (bC s1 k).1→∃ v',Ending.returned v=.returned v'∧Own aG wr w.heap.size v' (bC s1 k).1∧Rdr wr p (bC s1 k).2∧Fr (onB p) w wr:=fun v hv=>⟨v,rfl,hv,hr2,hf2⟩
   have HP:=k_ (hP _ hown);clear hP hown hr2 hf2;go_wp2_with fail
   go_ret
   exact HP.out
def d9 (s:RS) (n:Int):ByteArray × RS:=if n<0∨(s.1.size:Int)<n then (⟨#[]⟩,(⟨#[]⟩,true)) else (s.1.extract 0 n.toNat,(s.1.extract n.toNat s.1.size,s.2))
def dK (b:ByteArray):Int:=if b.size<4 then 0 else iN (gb b 0) (gb b 1) (gb b 2) (gb b 3)
def eX (s:RS):Int × RS:=(dK (d9 s 4).1,(d9 s 4).2)
def FRd (w:World) (p:Nat) (s:RS):Prop:=w.heap[p]?=some (.cells #[.string s.1,.bool s.2] 90)
theorem FRd.fr {F:Nat→Prop} {w w':World} {p:Nat} {s:RS} (h:FRd w p s) (hf:Fr F w w') (hn:¬ F p):FRd w' p s:=hf.heap h hn
theorem yY (w:World) (b:ByteArray):∃ cap wf,Sem.run Tryz.prog (convert 9 30 (.string b)) w=.ok (.slice (some ⟨w.heap.size,0,none⟩) b.size cap) wf∧Below w.heap.size w wf ∧
  ∀ j (h:j<b.size),wf.cell? ⟨w.heap.size,j,none⟩=some (.int .u8 (b[j].toNat:Nat)):=by
 refine⟨_,_,run_bytes_of_string w _ _ 5 b Tryz.underlying9 Tryz.underlying30 Tryz.underlying5,((Below.refl _ _).drew).alloc (Nat.le_refl _) _,fun j h=>?_⟩;rw[show w.heap.size=w.drew.heap.size from rfl,aI];unfold bytesRow
 rw[Array.getElem?_append_left (by simpa using h)];rw[Array.getElem?_map,Array.getElem?_eq_getElem (by simpa using h)]
 rfl
theorem Gz (a:Option Addr) (n c:Nat) (w:World) (h:n<4) :
  Calls Tryz.prog 80 #[.slice a n c] w fun e w'=>e=.returned (.tuple #[.int .i64 0,.bool false])∧w=w':=by
 go_enter Tryz.func80,Tryz.ntmps80
 go_wp2
 go_ret2
 exact⟨rfl,rfl⟩
theorem uK (w:World) (p:Nat) (s:RS) (hr:FRd w p s) (n:Int) (hs:s.1.size≤1000000) :
  Calls Tryz.prog 52 #[.pointer (some ⟨p,0,none⟩),.int .i64 n] w fun e w'=>e=.returned (.string (d9 s n).1)∧FRd w' p (d9 s n).2∧Fr (onB p) w w':=by
 obtain⟨b,bad⟩:=s;obtain⟨q0,q1,q2,q3⟩:=aN (show _=some (Obj.cells #[.string b,.bool bad] 90) from hr)
 dsimp only at hs
 have hbad:FRd ((w.setCell ⟨p,1,none⟩ (.bool true)).setCell ⟨p,0,none⟩ (.string ⟨#[]⟩)) p (⟨#[]⟩,true)∧Fr (onB p) w ((w.setCell ⟨p,1,none⟩ (.bool true)).setCell ⟨p,0,none⟩ (.string ⟨#[]⟩)) :=
   ⟨fH (gm hr),((Fr.refl (onB p) w).setCell (p:=⟨p,1,none⟩) (fun _=>rfl) _).setCell (p:=⟨p,0,none⟩) (fun _=>rfl) _⟩
 by_cases hneg:n<0
 ·have e:d9 (b,bad) n=(⟨#[]⟩,(⟨#[]⟩,true)):=by unfold d9;rw[if_pos (Or.inl hneg)]
  rw[e];clear e hr;have HBAD:=k_ hbad;clear hbad
  go_enter Tryz.func52,Tryz.ntmps52
  go_wp2_with fail
  go_ret
  exact⟨rfl,HBAD.out⟩
 by_cases h:(b.size:Int)<n
 ·have e:d9 (b,bad) n=(⟨#[]⟩,(⟨#[]⟩,true)):=by unfold d9;rw[if_pos (Or.inr h)]
  rw[e];clear e hr;have HBAD:=k_ hbad;clear hbad
  go_enter Tryz.func52,Tryz.ntmps52
  go_wp2_with fail
  go_ret
  exact⟨rfl,HBAD.out⟩
 ·have e:d9 (b,bad) n=(b.extract 0 n.toNat,(b.extract n.toNat b.size,bad)):=by unfold d9;rw[if_neg (fun h'=>h'.elim hneg h)]
  rw[e];have hp:FRd (w.setCell ⟨p,0,none⟩ (.string (b.extract n.toNat b.size))) p (b.extract n.toNat b.size,bad)∧Fr (onB p) w (w.setCell ⟨p,0,none⟩ (.string (b.extract n.toNat b.size))) :=
   ⟨fH hr,(Fr.refl (onB p) w).setCell (p:=⟨p,0,none⟩) (fun _=>rfl) _⟩
  clear e hr hbad;have HP:=k_ hp;clear hp
  go_enter Tryz.func52,Tryz.ntmps52
  go_wp2_with fail
  go_ret
  exact⟨rfl,HP.out⟩
theorem jS (w:World) (p:Nat) (s:RS) (hr:FRd w p s) (hs:s.1.size≤1000000) :
  Calls Tryz.prog 53 #[.pointer (some ⟨p,0,none⟩)] w fun e w'=>e=.returned (.int .i64 (eX s).1)∧FRd w' p (eX s).2∧Fr (onB p) w w':=by
 have ht:=uK w p s hr 4 hs;unfold eX
 by_cases h:(s.1.size:Int)<4
 ·have e1:d9 s 4=(⟨#[]⟩,(⟨#[]⟩,true)):=by unfold d9;rw[if_pos (Or.inr h)]
  rw[e1] at ht ⊢;have he:(⟨#[]⟩:ByteArray).toList.isEmpty=true:=by rw[ByteArray.toList_eq];rfl
  clear e1 h hr hs;have HT:=k_ ht;clear ht
  go_enter Tryz.func53,Tryz.ntmps53
  go_wp2_with fail;refine HT.out.mono ?_;rintro e w1 ⟨rfl,hp⟩;have HP:=k_ hp;clear hp;obtain⟨cap,wf,hcv,hb,_⟩:=yY w1 ⟨#[]⟩;have HB:=k_ hb;clear hb;rw[show (⟨#[]⟩:ByteArray).size=0 from rfl] at hcv;go_wp2_with fail;refine(Gz _ _ _ _ (by omega)).mono ?_;rintro e w2 ⟨rfl,rfl⟩;go_wp2_with fail
  go_ret
  exact⟨rfl,HP.out.1.fr (fb_ HB.out) (fun h=>h),HP.out.2.trans (Fr.of_below HB.out (onB p)) (fun _ _ h=>h)⟩
 ·have e1:d9 s 4=(s.1.extract 0 4,(s.1.extract 4 s.1.size,s.2)):=by unfold d9;rw[if_neg (fun h'=>h'.elim (by omega) h)];rfl
  rw[e1] at ht ⊢;have hx:(s.1.extract 0 4).size=4:=by rw[ByteArray.size_extract];omega
  generalize s.1.extract 0 4=b1 at *;clear e1 h hr hs;have HT:=k_ ht;clear ht
  go_enter Tryz.func53,Tryz.ntmps53
  go_wp2_with fail;refine HT.out.mono ?_;rintro e w1 ⟨rfl,hp⟩;have HP:=k_ hp;clear hp;obtain⟨cap,wf,hcv,hb,hcs⟩:=yY w1 b1;rw[hx] at hcv;have c0:=hcs 0 (by omega);have c1:=hcs 1 (by omega);have c2:=hcs 2 (by omega);have c3:=hcs 3 (by omega);rw[fV _ _ _] at c0 c1 c2 c3;have HB:=k_ hb;have HV:=k_ (show dK b1=iN (gb b1 0) (gb b1 1) (gb b1 2) (gb b1 3) from by unfold dK;rw[if_neg (by omega)]);have HC:=k_ (And.intro c0 (And.intro c1 (And.intro c2 c3)));clear hb hcs c0 c1 c2 c3 hx;go_wp2_with fail;refine(zf w1.heap.size 0 4 cap wf _ _ _ _ (by omega) (by omega) ⟨(fM _ _).1,(fM _ _).2,(fM _ _).1,(fM _ _).2,(fM _ _).1,(fM _ _).2,(fM _ _).1,(fM _ _).2⟩ HC.out.1 HC.out.2.1 HC.out.2.2.1 HC.out.2.2.2).mono ?_;rintro e w2 ⟨rfl,rfl⟩;go_wp2_with fail
  go_ret
  exact⟨by rw[HV.out];rfl,HP.out.1.fr (fb_ HB.out) (fun h=>h),HP.out.2.trans (Fr.of_below HB.out (onB p)) (fun _ _ h=>h)⟩
instance : DecidableEq Ins := fun ⟨a, b, c, d⟩ ⟨a', b', c', d'⟩ => if h : a = a' ∧ b = b' ∧ c = c' ∧ d = d' then isTrue (by obtain ⟨rfl, rfl, rfl, rfl⟩ := h; rfl) else isFalse (fun e => h (by injection e with h1 h2 h3 h4; exact ⟨h1, h2, h3, h4⟩))
instance : DecidableEq Fun := fun ⟨a, b, c, d, x⟩ ⟨a', b', c', d', x'⟩ => if h : a = a' ∧ b = b' ∧ c = c' ∧ d = d' ∧ x = x' then isTrue (by obtain ⟨rfl, rfl, rfl, rfl, rfl⟩ := h; rfl) else isFalse (fun e => h (by injection e with h1 h2 h3 h4 h5; exact ⟨h1, h2, h3, h4, h5⟩))
theorem Ju (f g:Fun):decide (f=g)=(decide (f.args=g.args) && (f.result == g.result) && (f.slots == g.slots) && decide (f.objects=g.objects) && decide (f.code=g.code)):=by
 obtain⟨a,b,c,d,x⟩:=f;obtain⟨a',b',c',d',x'⟩:=g;rw[Bool.eq_iff_iff]
 simp[and_assoc]
theorem kD {α:Type} (l m:List α) (k:Nat) (h1:k<l.length) (h2:k<m.length) (h:l.take k=m.take k) (hx:l[k]=m[k]):l.take (k+1)=m.take (k+1):=by
 rw[aK l k h1,aK m k h2,h,hx]
theorem pO {α:Type} (l m:List α) (k:Nat) (h1:k<l.length) (h2:k<m.length) (hx:l[k]≠m[k]):l≠m:=fun h=>by subst h;exact hx rfl
theorem Hy (w:World) (D D':Nat→Prop) (a a':Option Addr) (l m:List Int) (c c':Nat) (hl:aQ w D a l) (hm:aQ w D' a' m) (hn:l.length≤1000000) (hn':m.length≤1000000) :
  Calls Tryz.prog 226 #[.slice a l.length c,.slice a' m.length c'] w fun e w'=>e=.returned (.bool (decide (l=m)))∧∃ n,w'=w.drewN n:=by
 by_cases hlen:l.length=m.length
 case neg =>
  have h1:((l.length:Int) != (m.length:Int))=true:=by rw[bne_iff_ne];omega
  have h2:decide (l=m)=false:=by simp;intro h;rw[h] at hlen;exact hlen rfl
  rw[h2];clear h2 hlen
  go_enter Tryz.func226,Tryz.ntmps226
  go_wp2_with fail
  go_ret
  exact⟨rfl,0,rfl⟩
 have h1:((l.length:Int) != (m.length:Int))=false:=by rw[bne_eq_false_iff_eq];omega
 have HLEN:=k_ hlen;clear hlen;have HL:=k_ hl;clear hl;have HM:=k_ hm;clear hm
 go_enter Tryz.func226,Tryz.ntmps226
 go_wp2_with fail;clear h1
 go_loopw [13] (fun i wr=>∃ k:Nat,k≤l.length∧i=.int .i64 k∧l.take k=m.take k∧∃ n,wr=w.drewN n) (fun i _=>l.length - (intOf i).toNat)
 case atStart=>exact⟨0,Nat.zero_le _,rfl,rfl,0,rfl⟩
 case round =>
  obtain⟨k,hk,rfl,ht,n,hwr⟩:=hrel
  by_cases hlt:k<l.length
  ·have hlt2:k<m.length:=by have:=HLEN.out;omega
   obtain⟨b,o,rfl,_,hx⟩:=HL.out k hlt;obtain⟨b',o',rfl,_,hy⟩:=HM.out k hlt2;have hx1:wr.cell? ⟨b,o+k,none⟩=some (.int .i64 l[k]):=by rw[hwr];exact hx
   have hy1:wr.cell? ⟨b',o'+k,none⟩=some (.int .i64 m[k]):=by rw[hwr];exact hy
   have hs:=kD l m k hlt hlt2 ht;have hne:=pO l m k hlt hlt2;clear hx hy ht;generalize l[k]=x at *;generalize m[k]=y at *;have HS:=k_ hs;clear hs;have HWR:=k_ hwr;clear hwr;have HNE:=k_ hne;clear hne
   by_cases hxy:x=y
   ·subst hxy
    go_wp2_with fail
    go_quiet (fail)
    go_wp2_with fail
    go_roundw
    case rel=>exact⟨k+1,by omega,by go_num,by first | exact HS.out rfl | exact HS.out trivial,by rw[HWR.out];exact⟨_,by first | rfl | (simp;rfl)⟩⟩
    case measure=>simp[intOf];omega
   ·have hb:(x != y)=true:=by rw[bne_iff_ne];exact hxy
    have hd:decide (l=m)=false:=by simpa using HNE.out hxy
    have HD:=k_ hd;clear hd hxy;go_wp2_with fail
    go_quiet (fail)
    go_wp2_with fail
    go_ret
    exact⟨by rw[HD.out];rfl,by rw[HWR.out];exact⟨_,by first | rfl | (simp;rfl)⟩⟩
  ·have hd:decide (l=m)=true:=by
    have h:=HLEN.out;have hk2:k=l.length:=by omega
    rw[hk2,List.take_length,List.take_of_length_le (by omega)] at ht
    simpa using ht
   have HD:=k_ hd;have HWR:=k_ hwr;clear hwr;clear hd ht;go_wp2_with fail
   go_ret
   exact⟨by rw[HD.out];rfl,by rw[HWR.out];exact⟨_,rfl⟩⟩
theorem kT {α:Type} [DecidableEq α] (l m:List α) (k:Nat) (h1:k<l.length) (h2:k<m.length) (h:l.take k=m.take k):(decide (l[k]=m[k])=true→l.take (k+1)=m.take (k+1))∧(decide (l[k]=m[k])=false→decide (l=m)=false) :=
 ⟨fun e=>kD l m k h1 h2 h (by simpa using e),fun e=>by simpa using pO l m k h1 h2 (by simpa using e)⟩
instance : DecidableEq Prg := fun ⟨a, b, c⟩ ⟨a', b', c'⟩ => if h : a = a' ∧ b = b' ∧ c = c' then isTrue (by obtain ⟨rfl, rfl, rfl⟩ := h; rfl) else isFalse (fun e => h (by injection e with h1 h2 h3; exact ⟨h1, h2, h3⟩))
theorem JO (p q:Prg):decide (p=q)=(decide (p.globals=q.globals) && decide (p.shapes=q.shapes) && decide (p.funcs=q.funcs)):=by
 obtain⟨a,b,c⟩:=p;obtain⟨a',b',c'⟩:=q;rw[Bool.eq_iff_iff]
 simp[and_assoc]
def oO (p:Prg):Prop:=bulk p≤1000000
theorem qR {α:Type} (g:α→Nat) (l:List α) (x:α) (h:x ∈ l):g x≤(l.map g).sum:=by
 obtain⟨k,hk,rfl⟩:=List.mem_iff_getElem.1 h;have:=iL g l k hk
 omega
def oW (left:Int):List Int→Int
 | []=>left
 | x :: l=>if left<0∨left<x then -1 else oW (left - x) l
def mD (l:List Int) (left:Int) (w:World) (e:Ending) (w':World):Prop:=e=.returned (.int .i64 (oW left l))∧w'=w
theorem Fe (w:World) (D:Nat→Prop) (a:Option Addr) (l:List Int) (c:Nat) (hl:aQ w D a l) (left:Int) (h3:left≤3000) (h0:-1≤left) (hpos:∀ x ∈ l,0≤x) (hn:l.length≤1000) :
  Calls Tryz.prog 45 #[.int .i64 left,.slice a l.length c] w (mD l left w):=by
 have HL:=k_ hl;clear hl;have HPOS:=k_ hpos;clear hpos
 go_enter Tryz.func45,Tryz.ntmps45
 go_wp2_with fail
 go_loop [0,5] (fun u i=>∃ (k:Nat) (L:Int),k≤l.length∧i=.int .i64 k∧u=.int .i64 L∧L≤3000∧-1≤L∧oW left l=oW L (l.drop k)) (fun _ i=>l.length - (intOf i).toNat)
 case atStart=>exact⟨0,left,Nat.zero_le _,rfl,rfl,h3,h0,by simp⟩
 case round =>
  obtain⟨k,L,hk,rfl,rfl,hL3,hL0,hr⟩:=hrel
  by_cases hlt:k<l.length
  ·obtain⟨b,o,rfl,_,hx⟩:=HL.out k hlt
   have hp:=HPOS.out l[k] (List.getElem_mem hlt);have hd:l.drop k=l[k] :: l.drop (k+1):=(List.getElem_cons_drop (h:=hlt)).symm;rw[hd] at hr;generalize l[k]=x at *;clear hd;have hr':oW left l=if L<0∨L<x then -1 else oW (L - x) (l.drop (k+1)):=hr;clear hr
   by_cases h1:L<0
   ·rw[if_pos (.inl h1)] at hr'
    have HP:=k_ (show mD l left w (.returned (.int .i64 (-1))) w from⟨by rw[hr'],rfl⟩);clear hr';go_wp2_with fail
    go_ret
    exact HP.out
   have h1':decide (L<0)=false:=by simpa using h1
   by_cases h2:L<x
   ·rw[if_pos (.inr h2)] at hr'
    have HP:=k_ (show mD l left w (.returned (.int .i64 (-1))) w from⟨by rw[hr'],rfl⟩);clear hr';go_wp2_with fail
    go_ret
    exact HP.out
   rw[if_neg (by omega)] at hr';have HR':=k_ hr';clear hr';go_wp2_with fail
   go_round
   case rel=>exact⟨k+1,L - x,by omega,by go_num,rfl,by omega,by omega,HR'.out⟩
   case measure=>simp[intOf];omega
  ·have hk':k=l.length:=by omega
   rw[hk',List.drop_length] at hr;have HP:=k_ (show mD l left w (.returned (.int .i64 L)) w from⟨by rw[hr];rfl,rfl⟩);clear hr;go_wp2_with fail
   go_ret
   exact HP.out
end Go.Proofs.YtlofbhoicbemnaaGreatDoor
