/- What comes in: a program. The bytes of a program: what is laid is read again. Nothing of the program's text stands here. The bytes of a .. -/
import Derived.Test.YtlofbhoicbemnaaGreatDoorGAf
import Derived.Lib.SmallJoins
import Derived.Deep.RegionHeld3
set_option linter.unusedVariables false
set_option linter.unusedSimpArgs false
set_option maxRecDepth 100000
set_option maxHeartbeats 4000000
namespace Go.Proofs.YtlofbhoicbemnaaGreatDoor
open Go.ChangeShapes Go.WideShapes Go.ChangeAt Go.RowKit
variable {H:Type} {enc:TypeId × Value→H}
theorem kQ {α:Type} [Inhabited α] {w:World} {base:Nat} {sp:Nat→Bool} {hd:Bool} {m:Nat} {t e size:Nat} {cs:List Value} {x:DataW H × List MemPlace} (ht:Tryz.prog.underlying t=some (.slice e)) (hce:Tryz.prog.cellsOf e=size) (hsz:0<size)
  (R:List Value→α→Prop) (hR:∀ n ds y,DataW.trod enc Tryz.prog w base sp hd n e ds=some y→∃ z,R ds z) (h:DataW.trod enc Tryz.prog w base sp hd m t cs=some x) :
  ∃ (a:Option Addr) (l:List α) (c:Nat),cs=[.slice a l.length c]∧∀ j (hj:j<l.length),∃ b o ds,a=some ⟨b,o,none⟩∧R ds l[j]∧ds.length=size∧∀ r u,ds[r]?=some u→w.cell? ⟨b,o+j * size+r,none⟩=some u:=by
 rcases Go.Deep.open_slice ht h with⟨hcs,hx⟩ | ⟨a,len,cap,m,n,D,Pl,hcs,hb,hl,hm,hmm,hx,hel⟩
 ·exact⟨none,[],0,hcs,fun j hj=>by cases hj⟩
 ·have hle:len≤m:=by rw[hmm];split <;> omega
  rw[hce] at hel;obtain⟨f,hF⟩:=Go.Deep.choose_lt (α:=α × List Value) (p:=fun i y=>w.cells? base (a.add (i * size)) size=some y.2∧R y.2 y.1) (n:=len) (fun i hi=>by
   obtain⟨cs',h1,h2⟩:=hel i (by omega);obtain⟨z,hz⟩:=hR _ _ _ h2;exact⟨(z,cs'),h1,hz⟩)
  refine⟨some a,(List.range len).map fun i=>(f i).1,cap,by rw[hcs];simp,fun j hj=>?_⟩
  simp at hj
  have hspot:∀ i,i<len→(a.add (i * size)).spot=none:=fun i hi=>by
   obtain⟨_,hlen,hc⟩:=World.cells?_some (hF i hi).1;have h0:=hc 0 hsz;have hp:(a.add (i * size)).add 0=a.add (i * size):=rfl;rw[hp,List.getElem?_eq_getElem (by omega)] at h0;have:=lg h0;rw[this]
  have ha:a.spot=none:=by
   have:=hspot 0 (by omega);rw[Nat.zero_mul] at this;exact this
  obtain⟨_,hlen,hc⟩:=World.cells?_some (hF j hj).1;obtain⟨bb,oo,ss⟩:=a
  dsimp only at ha
  subst ha;refine⟨bb,oo,(f j).2,rfl,by simpa using(hF j hj).2,hlen,fun r u hu=>?_⟩;have hr:r<size:=by
   rcases Nat.lt_or_ge r size with h' | h'
   ·exact h'
   ·rw[List.getElem?_eq_none (by omega)] at hu;cases hu
  have h1:=hc r hr;rw[addr_add ⟨bb,oo,none⟩ rfl (j * size),addr_add ⟨bb,oo+j * size,none⟩ rfl r] at h1
  dsimp only at h1
  rw[h1,hu]
theorem mO {w:World} {base:Nat} {sp:Nat→Bool} {hd:Bool} {m:Nat} {cs:List Value} {x:DataW H × List MemPlace} (h:DataW.trod enc Tryz.prog w base sp hd m 44 cs=some x) :
  ∃ a l c,cs=[.slice a (List.length l) c]∧aQ w (fun k=>k<w.heap.size) a l:=by
 obtain⟨a,l,c,h1,h2⟩:=kQ (α:=Int) Tryz.underlying44 gJ.1 (by decide) (fun ds z=>∀ u,ds=[u]→u=.int .i64 z) (fun n ds y hy=>by
  rcases Nat.lt_or_ge 1 ds.length with h | h
  ·exact⟨0,fun u hu=>by rw[hu] at h;simp at h⟩
  ·match ds,h with
   | [],_=>exact⟨0,fun u hu=>by cases hu⟩
   | [u],_ =>
     obtain⟨z,hz,_⟩:=dD hy;exact⟨z,fun v hv=>by simp at hv;rw[← hv];exact hz⟩) h
 refine⟨a,l,c,h1,fun j hj=>?_⟩;obtain⟨b,o,ds,h3,h4,h5,h6⟩:=h2 j hj
 match ds,h5 with
 | [u],_ =>
   have hu:=h4 u rfl;have hc:=h6 0 u rfl;rw[hu,Nat.mul_one] at hc;exact⟨b,o,h3,World.block_lt hc,hc⟩
theorem yU {w:World} {base:Nat} {sp:Nat→Bool} {hd:Bool} {m:Nat} {cs:List Value} {x:DataW H × List MemPlace} (h:DataW.trod enc Tryz.prog w base sp hd m 64 cs=some x) :
  ∃ a l c,cs=[.slice a (List.length l) c]∧eH w (fun k=>k<w.heap.size) a l:=by
 obtain⟨a,l,c,h1,h2⟩:=kQ (α:=Ins) Tryz.underlying64 gJ.2 (by decide) (fun ds z=>ds=z.cells) (fun n ds y hy=>by
  obtain⟨z,hz,_⟩:=EW hy;exact⟨z,hz⟩) h
 refine⟨a,l,c,h1,fun j hj=>?_⟩;obtain⟨b,o,ds,h3,rfl,h5,h6⟩:=h2 j hj;exact⟨b,o,h3,World.block_lt (h6 0 _ rfl),h6 0 _ rfl,h6 1 _ rfl,h6 2 _ rfl,h6 3 _ rfl⟩
theorem fP:Tryz.prog.cellsOf 82=1∧Tryz.prog.cellsOf 66=5∧Tryz.prog.cellsOf 48=3∧Tryz.prog.cellsOf 44=1∧Tryz.prog.cellsOf 64=1∧Tryz.prog.cellsOf 45=1∧Tryz.prog.cellsOf 46=1:=⟨by kernel_rfl,by kernel_rfl,by kernel_rfl,by kernel_rfl,by kernel_rfl,by kernel_rfl,by kernel_rfl⟩
instance : Inhabited Fun := ⟨⟨[], 0, 0, [], []⟩⟩
theorem zV {w:World} {base:Nat} {sp:Nat→Bool} {hd:Bool} {n:Nat} {cs:List Value} {x:DataW H × List MemPlace} (h:DataW.trod enc Tryz.prog w base sp hd n 82 cs=some x) :
  ∃ l:List Int,∃ a c,cs=[.slice a l.length c]∧aQ w (fun k=>k<w.heap.size) a l:=by
 obtain⟨xs,m,_,_,hl,hlen,hf⟩:=DataW.trod_struct Tryz.underlying82 h;rw[fP.1] at hl
 match cs,hl,xs,hlen with
 | [c0],_,[y0],_ =>
   have f0:DataW.trod enc Tryz.prog w base sp hd m 44 (([c0].drop 0).take (Tryz.prog.cellsOf 44))=some y0:=hf 0 _ rfl;rw[fP.2.2.2.1] at f0;obtain⟨a,l,c,h1,h2⟩:=mO f0;exact⟨l,a,c,h1,h2⟩
theorem trod_func {w:World} {base:Nat} {sp:Nat→Bool} {hd:Bool} {n:Nat} {cs:List Value} {x:DataW H × List MemPlace} (h:DataW.trod enc Tryz.prog w base sp hd n 66 cs=some x) :
  ∃ f:Fun,∃ c0 c1 c2 c3 c4,cs=[c0,c1,c2,c3,c4]∧dP w (fun k=>k<w.heap.size) f c0 c1 c2 c3 c4:=by
 obtain⟨xs,m,_,_,hl,hlen,hf⟩:=DataW.trod_struct Tryz.underlying66 h;rw[fP.2.1] at hl
 match cs,hl,xs,hlen with
 | [c0,c1,c2,c3,c4],_,[y0,y1,y2,y3,y4],_ =>
   have f0:DataW.trod enc Tryz.prog w base sp hd m 44 (([c0,c1,c2,c3,c4].drop 0).take (Tryz.prog.cellsOf 44))=some y0:=hf 0 _ rfl;have f1:DataW.trod enc Tryz.prog w base sp hd m 3 (([c0,c1,c2,c3,c4].drop 1).take (Tryz.prog.cellsOf 3))=some y1:=hf 1 _ rfl;have f2:DataW.trod enc Tryz.prog w base sp hd m 3 (([c0,c1,c2,c3,c4].drop 2).take (Tryz.prog.cellsOf 3))=some y2:=hf 2 _ rfl;have f3:DataW.trod enc Tryz.prog w base sp hd m 44 (([c0,c1,c2,c3,c4].drop 3).take (Tryz.prog.cellsOf 44))=some y3:=hf 3 _ rfl;have f4:DataW.trod enc Tryz.prog w base sp hd m 64 (([c0,c1,c2,c3,c4].drop 4).take (Tryz.prog.cellsOf 64))=some y4:=hf 4 _ rfl;rw[fP.2.2.2.1] at f0 f3;rw[gJ.1] at f1 f2;rw[fP.2.2.2.2.1] at f4;obtain⟨a0,l0,n0,h0,s0⟩:=mO f0;obtain⟨z1,h1,_⟩:=dD f1;obtain⟨z2,h2,_⟩:=dD f2;obtain⟨a3,l3,n3,h3,s3⟩:=mO f3;obtain⟨a4,l4,n4,h4,s4⟩:=yU f4
   simp at h0 h3 h4
   exact⟨⟨l0,z1,z2,l3,l4⟩,_,_,_,_,_,rfl,h1,h2,⟨a0,n0,h0,s0⟩,⟨a3,n3,h3,s3⟩,a4,n4,h4,s4⟩
theorem xH {w:World} {base:Nat} {sp:Nat→Bool} {hd:Bool} {m:Nat} {cs:List Value} {x:DataW H × List MemPlace} (h:DataW.trod enc Tryz.prog w base sp hd m 45 cs=some x) :
  ∃ a l c,cs=[.slice a (List.length l) c]∧xW w (fun k=>k<w.heap.size) a l:=by
 obtain⟨a,l,c,h1,h2⟩:=kQ (α:=List Int) Tryz.underlying45 fP.1 (by decide) (fun ds z=>∃ a c,ds=[.slice a z.length c]∧aQ w (fun k=>k<w.heap.size) a z) (fun n ds y hy=>zV hy) h;refine⟨a,l,c,h1,fun j hj=>?_⟩;obtain⟨b,o,ds,h3,⟨a',c',rfl,h4⟩,h5,h6⟩:=h2 j hj;have hc:=h6 0 _ rfl;rw[Nat.mul_one] at hc;exact⟨b,o,h3,World.block_lt hc,a',c',hc,h4⟩
theorem Aj {w:World} {base:Nat} {sp:Nat→Bool} {hd:Bool} {m:Nat} {cs:List Value} {x:DataW H × List MemPlace} (h:DataW.trod enc Tryz.prog w base sp hd m 46 cs=some x) :
  ∃ a l c,cs=[.slice a (List.length l) c]∧AZ w (fun k=>k<w.heap.size) a l:=by
 obtain⟨a,l,c,h1,h2⟩:=kQ (α:=Fun) Tryz.underlying46 fP.2.1 (by decide) (fun ds z=>∃ c0 c1 c2 c3 c4,ds=[c0,c1,c2,c3,c4]∧dP w (fun k=>k<w.heap.size) z c0 c1 c2 c3 c4) (fun n ds y hy=>trod_func hy) h;refine⟨a,l,c,h1,fun j hj=>?_⟩;obtain⟨b,o,ds,h3,⟨c0,c1,c2,c3,c4,rfl,h4⟩,h5,h6⟩:=h2 j hj;exact⟨b,o,h3,World.block_lt (h6 0 _ rfl),c0,c1,c2,c3,c4,h6 0 _ rfl,h6 1 _ rfl,h6 2 _ rfl,h6 3 _ rfl,h6 4 _ rfl,h4⟩
theorem vQ {w:World} {base b:Nat} {v:Value} {sp:Nat→Bool} {d:DataW H} {p:List MemPlace} (hv:Value.okWide Tryz.prog w .any base 48 v)
  (h:DataW.Trod enc Tryz.prog w b sp true 48 v d p):∃ (pr:Prg) (c0 c1 c2:Value),v=.agg #[c0,c1,c2]∧aD w (fun k=>k<w.heap.size) pr c0 c1 c2:=by
 obtain⟨v0,v1,v2,y0,y1,y2,n,rfl,_,_,h0,h1,h2⟩:=Joins.open_agg3 Tryz.underlying48 (by kernel_rfl) fP.2.2.1 hv h;obtain⟨a0,l0,n0,e0,s0⟩:=mO h0;obtain⟨a1,l1,n1,e1,s1⟩:=xH h1;obtain⟨a2,l2,n2,e2,s2⟩:=Aj h2
 simp at e0 e1 e2
 exact⟨⟨l0,l1,l2⟩,v0,v1,v2,rfl,⟨a0,n0,e0,s0⟩,⟨a1,n1,e1,s1⟩,a2,n2,e2,s2⟩
end Go.Proofs.YtlofbhoicbemnaaGreatDoor
namespace Go.Proofs.YtlofbhoicbemnaaGreatDoor
theorem jr (l:List Int) (i j:Nat):(ah l).extract i j=ah ((l.drop i).take (j - i)):=by
 apply ByteArray.ext
 unfold ah
 simp[List.extract_eq_take_drop,List.map_take,List.map_drop]
theorem iE (x:Int) (l:List Int) (b:Bool) (h:0≤x∧x<256):aC (ah (x :: l),b)=(x,(ah l,b)):=by
 unfold aC;have hs:¬ (ah (x :: l)).size<1:=by rw[aM];simp
 rw[if_neg hs,jl (x :: l) 0 (by simp) (by simpa using h),jr,aM]
 simp
theorem BF (l m:List Int) (b:Bool):bS (ah (l ++ m),b) l.length=(ah l,(ah m,b)):=by
 unfold bS;rw[if_neg (by rw[aM];simp),jr,jr,aM]
 simp
def okB (l:List Int):Prop:=∀ x ∈ l,0≤x∧x<256
theorem Fa (l:List Int) (h:gZ l=false):okB l:=fun x hx=>by
 unfold gZ at h;rw[List.any_eq_false] at h;have:=h x hx
 simp at this
 omega
theorem II (l:List Int) (h:okB l):jU l=l:=by
 unfold jU
 conv=>rhs;rw[← List.map_id l]
 apply List.map_congr_left
 intro x hx;have:=h x hx
 show x % 256=x
 omega
theorem Du (l:List Int) (m:List Int) (b:Bool) (h:okB l):bC (ah (l ++ m),b) l.length=(l,(ah m,b)):=by
 have key:∀ k,k≤l.length→bC (ah (l ++ m),b) k=(l.take k,(ah (l.drop k ++ m),b)):=by
  intro k
  induction k with
  | zero=>intro _;simp[bC]
  | succ k ih =>
    intro hk;have hk':k<l.length:=by omega
    have hd:l.drop k=l[k] :: l.drop (k+1):=(List.getElem_cons_drop (h:=hk')).symm;unfold bC;rw[ih (by omega),hd,List.cons_append,iE _ _ _ (h _ (List.getElem_mem hk')),aK l k hk']
 have:=key l.length (Nat.le_refl _);rw[this]
 simp
theorem mQ (l m:List Int) (b:Bool) (h:okB l) (hl:l.length≤255):aF (ah ((l.length:Int) :: l ++ m),b)=(l,(ah m,b)):=by
 unfold aF;rw[List.cons_append,iE _ _ _ (by omega)];simp only[Int.toNat_natCast];exact Du l m b h
theorem jV (s:List Int × Bool) (l:List Int) (h:(bY s l).2=false):s.2=false∧okB l∧(bY s l).1=s.1 ++ l:=by
 unfold bY at h ⊢
 simp at h
 have ho:=Fa l h.2;exact⟨h.1,ho,by simp[II l ho]⟩
theorem o7 (s:List Int × Bool) (l:List Int) (h:(bH s l).2=false):s.2=false∧okB l∧l.length≤255∧(bH s l).1=s.1 ++ ((l.length:Int) :: l):=by
 unfold bH at h ⊢;obtain⟨h1,h2,h3⟩:=jV _ _ h;obtain⟨h4,h5,h6⟩:=jV _ _ h1;have:=h5 (l.length:Int) (by simp);exact⟨h4,h2,by omega,by rw[h3,h6];simp⟩
def jB (l:List Int):List Int:=(l.length:Int) :: l
def nT (f:Fun):List Int:=jB f.args ++ [f.result,f.slots] ++ jB f.objects ++ [(f.code.length:Int)] ++ dR f.code
def okF (f:Fun):Prop:=okB f.args∧f.args.length≤255∧(0≤f.result∧f.result<256)∧(0≤f.slots∧f.slots<256)∧okB f.objects∧f.objects.length≤255∧f.code.length≤255∧laid f.code=true
theorem Jv (s:List Int × Bool) (f:Fun) (h:(wFn s f).2=false):s.2=false∧okF f∧(wFn s f).1=s.1 ++ nT f:=by
 unfold wFn at h ⊢
 dsimp only at h ⊢
 simp only[Bool.or_eq_false_iff,Bool.not_eq_false'] at h;obtain⟨h1,hlaid⟩:=h;obtain⟨h2,h3,h4⟩:=jV _ _ h1;obtain⟨h5,h6,h7,h8⟩:=o7 _ _ h2;obtain⟨h9,h10,h11⟩:=jV _ _ h5;obtain⟨h12,h13,h14,h15⟩:=o7 _ _ h9;have hr:=h10 f.result (by simp);have hs:=h10 f.slots (by simp);have hc:=h3 (f.code.length:Int) (by simp);refine⟨h12,⟨h13,h14,hr,hs,h6,h7,by omega,hlaid⟩,?_⟩;rw[h4,h8,h11,h15,if_pos hlaid]
 simp[nT,jB,List.append_assoc]
theorem Im (f:Fun) (m:List Int) (b:Bool) (h:okF f):rFn (ah (nT f ++ m),b)=(f,(ah m,b)):=by
 obtain⟨h1,h2,h3,h4,h5,h6,h7,h8⟩:=h;unfold rFn;have e:nT f ++ m=(f.args.length:Int) :: f.args ++ (f.result :: (f.slots :: ((f.objects.length:Int) :: f.objects ++ ((f.code.length:Int) :: (dR f.code ++ m))))):=by simp[nT,jB,List.append_assoc]
 rw[e,mQ _ _ _ h1 h2]
 dsimp only
 rw[iE _ _ _ h3]
 dsimp only
 rw[iE _ _ _ h4]
 dsimp only
 rw[mQ _ _ _ h5 h6]
 dsimp only
 rw[iE _ _ _ (by omega)]
 dsimp only
 have hlen:((f.code.length:Int).toNat * 7)=(dR f.code).length:=by rw[fZ];simp;omega
 rw[hlen,BF]
 dsimp only
 obtain⟨r1,r2⟩:=Gw f.code h8;rw[r1,r2]
 simp
def okL (l:List Int):Prop:=okB l∧l.length≤255
theorem Gb (ls:List (List Int)):∀ s,(ls.foldl bH s).2=false→s.2=false∧(∀ l ∈ ls,okL l)∧(ls.foldl bH s).1=s.1 ++ ls.flatMap jB:=by
 induction ls with
 | nil=>intro s h;exact⟨h,(fun _ h=>by cases h),by simp⟩
 | cons x ls ih =>
   intro s h;rw[List.foldl_cons] at h ⊢;obtain⟨h1,h2,h3⟩:=ih _ h;obtain⟨h4,h5,h6,h7⟩:=o7 _ _ h1;refine⟨h4,fun l hl=>?_,by rw[h3,h7];simp[jB]⟩
   rcases List.mem_cons.1 hl with rfl | hl
   ·exact⟨h5,h6⟩
   ·exact h2 l hl
theorem Et (fs:List Fun):∀ s,(fs.foldl wFn s).2=false→s.2=false∧(∀ f ∈ fs,okF f)∧(fs.foldl wFn s).1=s.1 ++ fs.flatMap nT:=by
 induction fs with
 | nil=>intro s h;exact⟨h,(fun _ h=>by cases h),by simp⟩
 | cons x fs ih =>
   intro s h;rw[List.foldl_cons] at h ⊢;obtain⟨h1,h2,h3⟩:=ih _ h;obtain⟨h4,h5,h6⟩:=Jv _ _ h1;refine⟨h4,fun l hl=>?_,by rw[h3,h6];simp⟩
   rcases List.mem_cons.1 hl with rfl | hl
   ·exact h5
   ·exact h2 l hl
theorem xP (ls:List (List Int)) (m:List Int) (b:Bool) (h:∀ l ∈ ls,okL l):ay (ah (ls.flatMap jB ++ m),b) ls.length=(ls,(ah m,b)):=by
 have key:∀ k,k≤ls.length→ay (ah (ls.flatMap jB ++ m),b) k=(ls.take k,(ah ((ls.drop k).flatMap jB ++ m),b)):=by
  intro k
  induction k with
  | zero=>intro _;simp[ay]
  | succ k ih =>
    intro hk;have hk':k<ls.length:=by omega
    have hd:ls.drop k=ls[k] :: ls.drop (k+1):=(List.getElem_cons_drop (h:=hk')).symm;have ho:=h _ (List.getElem_mem hk');unfold ay;rw[ih (by omega),hd,List.flatMap_cons,List.append_assoc];unfold jB;rw[mQ _ _ _ ho.1 ho.2,aK ls k hk']
 rw[key ls.length (Nat.le_refl _)]
 simp
theorem zO (fs:List Fun) (m:List Int) (b:Bool) (h:∀ f ∈ fs,okF f):aL (ah (fs.flatMap nT ++ m),b) fs.length=(fs,(ah m,b)):=by
 have key:∀ k,k≤fs.length→aL (ah (fs.flatMap nT ++ m),b) k=(fs.take k,(ah ((fs.drop k).flatMap nT ++ m),b)):=by
  intro k
  induction k with
  | zero=>intro _;simp[aL]
  | succ k ih =>
    intro hk;have hk':k<fs.length:=by omega
    have hd:fs.drop k=fs[k] :: fs.drop (k+1):=(List.getElem_cons_drop (h:=hk')).symm;unfold aL;rw[ih (by omega),hd,List.flatMap_cons,List.append_assoc,Im _ _ _ (h _ (List.getElem_mem hk')),aK fs k hk']
 rw[key fs.length (Nat.le_refl _)]
 simp
def nW (p:Prg):List Int:=jB p.globals ++ [(p.shapes.length:Int)] ++ p.shapes.flatMap jB ++ [(p.funcs.length:Int)] ++ p.funcs.flatMap nT
def okP (p:Prg):Prop:=okL p.globals∧p.shapes.length≤255∧(∀ l ∈ p.shapes,okL l)∧p.funcs.length≤255∧∀ f ∈ p.funcs,okF f
theorem rE (p:Prg) (h:(gP p).2=false):okP p∧(gP p).1=nW p:=by
 unfold gP at h ⊢;obtain⟨h1,h2,h3⟩:=Et _ _ h;unfold qK at h1 h3;obtain⟨h4,h5,h6⟩:=jV _ _ h1;obtain⟨h7,h8,h9⟩:=Gb _ _ h4;unfold nJ at h7 h9;obtain⟨h10,h11,h12⟩:=jV _ _ h7;obtain⟨_,h14,h15,h16⟩:=o7 _ _ h10;have e1:=h5 (p.funcs.length:Int) (by simp);have e2:=h11 (p.shapes.length:Int) (by simp);refine⟨⟨⟨h14,h15⟩,by omega,h8,by omega,h2⟩,?_⟩;unfold qK nJ at *;rw[h3,h6,h9,h12,h16]
 simp[nW,jB]
theorem Dg (p:Prg) (m:List Int) (h:okP p):jq (ah (nW p ++ m))=(p,(ah m,false)):=by
 obtain⟨⟨h1,h2⟩,h3,h4,h5,h6⟩:=h;unfold jq;have e:nW p ++ m=(p.globals.length:Int) :: p.globals ++ ((p.shapes.length:Int) :: (p.shapes.flatMap jB ++ ((p.funcs.length:Int) :: (p.funcs.flatMap nT ++ m)))):=by simp[nW,jB]
 rw[e,mQ _ _ _ h1 h2]
 dsimp only
 rw[iE _ _ _ (by omega)]
 dsimp only
 rw[Int.toNat_natCast,xP _ _ _ h4]
 dsimp only
 rw[iE _ _ _ (by omega)]
 dsimp only
 rw[Int.toNat_natCast,zO _ _ _ h6]
theorem wN (b c:ByteArray) (n:Nat) (hn:n≤b.size):(b ++ c).extract 0 n=b.extract 0 n:=by
 apply ByteArray.ext
 simp
 left;omega
theorem uh (b c:ByteArray) (n:Nat) (hn:n≤b.size):(b ++ c).extract n (b ++ c).size=b.extract n b.size ++ c:=by
 apply ByteArray.ext
 have hs:b.data.size=b.size:=rfl;have hs':c.data.size=c.size:=rfl
 simp[ByteArray.size_append]
 rw[show n - b.size=0 from by omega];have e1:b.data.extract n (b.size+c.size)=b.data.extract n b.size:=by
  apply Array.ext
  ·simp
  ·intro i h1 h2;simp
 have e2:c.data.extract 0 c.size=c.data:=by rw[← hs'];simp
 rw[e1,e2]
def f5 (a:List Int) (r l:Int) (o:List Int) (n:Int) (s:RS):Fun × RS:=(⟨a,r,l,o,eQ (bS s (n.toNat * 7)).1⟩,((bS s (n.toNat * 7)).2.1,(bS s (n.toNat * 7)).2.2 || !bV (bS s (n.toNat * 7)).1))
def f4 (a:List Int) (r l:Int) (o:List Int) (s:RS):Fun × RS:=f5 a r l o (aC s).1 (aC s).2
def f3 (a:List Int) (r l:Int) (s:RS):Fun × RS:=f4 a r l (aF s).1 (aF s).2
def f2 (a:List Int) (r:Int) (s:RS):Fun × RS:=f3 a r (aC s).1 (aC s).2
def f1 (a:List Int) (s:RS):Fun × RS:=f2 a (aC s).1 (aC s).2
def p3 (g:List Int) (sh:List (List Int)) (m:Int) (s:RS):Prg × RS:=(⟨g,sh,(aL s m.toNat).1⟩,(aL s m.toNat).2)
def p2 (g:List Int) (sh:List (List Int)) (s:RS):Prg × RS:=p3 g sh (aC s).1 (aC s).2
def p1 (g:List Int) (n:Int) (s:RS):Prg × RS:=p2 g (ay s n.toNat).1 (ay s n.toNat).2
def p0 (g:List Int) (s:RS):Prg × RS:=p1 g (aC s).1 (aC s).2
def pp (s:RS):Prg × RS:=p0 (aF s).1 (aF s).2
theorem Bt (p:Prg) (h:okP p):bK (ah (nW p))=true∧gT (ah (nW p))=p:=by
 have:=Dg p [] h;rw[List.append_nil] at this;have h1:bK (ah (nW p))=true:=by
  unfold bK;rw[this]
  simp[aM]
 refine⟨h1,?_⟩;unfold gT;rw[if_pos h1,this]
open Go.ChangeShapes Go.WideShapes Go.ChangeAt Go.RowKit
def dA (l:List Int):Bool:=decide (l.length≤255) && !gZ l
def iW (l:List Int):Value:=if dA l then .tuple #[.string (ah (jB l)),.bool true] else .tuple #[.string ⟨#[]⟩,.bool false]
theorem Cg (t:List Int) (x:Int):gZ (t ++ [x])=(gZ t || (decide (x<0) || decide (255<x))):=by simp[gZ]
theorem JP (l:List Int) (k:Nat) (hk:k<l.length) (h:l[k]<0∨255<l[k]):iW l=.tuple #[.string ⟨#[]⟩,.bool false]:=by
 have:gZ l=true:=by
  unfold gZ;rw[List.any_eq_true];exact⟨l[k],List.getElem_mem hk,by simpa using h⟩
 simp[iW,dA,this]
theorem oq (w:World) (D:Nat→Prop) (a:Option Addr) (l:List Int) (c:Nat) (hsl:aQ w D a l) (hn:l.length≤1000000) :
  Calls Tryz.prog 49 #[.slice a l.length c] w fun e w'=>e=.returned (iW l)∧Below w.heap.size w w':=by
 by_cases h255:l.length≤255
 case neg =>
  have hr:iW l=.tuple #[.string ⟨#[]⟩,.bool false]:=by simp[iW,dA,h255]
  rw[hr];clear hr hsl
  go_enter Tryz.func49,Tryz.ntmps49
  go_wp2_with fail
  go_ret2
  exact⟨rfl,Below.refl _ _⟩
 have e256:(l.length:Int) % 256=l.length:=by omega
 have HE:=k_ e256;clear e256;have HSL:=k_ hsl;clear hsl
 go_enter Tryz.func49,Tryz.ntmps49
 go_wp2_with fail;have hown0:Own u8E (w.alloc (.cells #[.int .u8 (l.length:Int)] 5)) w.heap.size (.slice (some ⟨w.heap.size,0,none⟩) 1 1) ((l.length:Int) :: l.take 0) :=
  kH u8E w [(l.length:Int)] _ rfl (by unfold maxLen;simp)
 have HO0:=k_ hown0;clear hown0
 go_loopw [4,5] (fun v i wr=>∃ k:Nat,k≤l.length∧i=.int .i64 k∧Own u8E wr w.heap.size v ((l.length:Int) :: l.take k)∧Below w.heap.size w wr∧gZ (l.take k)=false) (fun _ i _=>l.length - (intOf i).toNat)
 case atStart=>exact⟨0,Nat.zero_le _,rfl,HO0.out,(Below.refl _ _).alloc (Nat.le_refl _) _,rfl⟩
 case round =>
  obtain⟨k,hk,rfl,hown,hB,hbad⟩:=hrel
  by_cases hlt:k<l.length
  ·obtain⟨b,o,rfl,_,hx⟩:=HSL.out k hlt
   have hx:=ae hB hx;have hno:=JP l k hlt;have hsn:=aK l k hlt;have hbs:=Cg (l.take k) l[k];generalize l[k]=x at *;have HNO:=k_ hno;clear hno;have HSN:=k_ hsn;clear hsn;have HBS:=k_ hbs;clear hbs;have HOWN:=k_ hown;clear hown;have HB:=k_ hB;clear hB;have HBAD:=k_ hbad;clear hbad
   by_cases hx0:x<0
   ·go_wp2_with fail
    go_ret2
    exact⟨by rw[HNO.out (.inl hx0)];rfl,HB.out⟩
   by_cases hx1:255<x
   ·go_wp2_with fail
    go_ret2
    exact⟨by rw[HNO.out (.inr hx1)];rfl,HB.out⟩
   have hx2:0≤x:=by omega
   have hx3:x≤255:=by omega
   have hx4:x % 256=x:=by omega
   have HX4:=k_ hx4;clear hx4;clear hx0 hx1
   go_wp2_with (at_builtin;refine bJ u8E rfl (.tmp 31) (.tmp 37) rfl w.heap.size ((l.length:Int) :: l.take k) [x] _ rfl (HOWN.out.alloc _) wr.heap.size 0 1 rfl (aA.new _ _ _ _) ?c1 ?c2 ?_)
   case c1=>simp;omega
   case c2=>have:=HB.out.size;simp;omega
   intro v2 w2 hown2 hg2;have hB2:=k_ (below_grown (HB.out.alloc HB.out.size _) (HOWN.out.alloc _) hg2 (by have:=HB.out.size;simp;omega) (Nat.le_refl _));have HO2:=k_ hown2;clear hown2;clear hg2 hx;go_wp2_with fail
   go_roundw
   case rel =>
    refine⟨k+1,by omega,by go_num,?_,hB2.out,?_⟩
    ·rw[HSN.out];exact HO2.out
    ·rw[HSN.out,HBS.out,HBAD.out];simp;omega
   case measure=>simp[intOf];omega
  ·have hk':k=l.length:=by omega
   subst hk';rw[List.take_length] at hown hbad;have hcv:=ni hown;have hres:iW l=.tuple #[.string (ah ((l.length:Int) :: l)),.bool true]:=by simp[iW,dA,hbad,h255,jB]
   have HR:=k_ hres;have HB:=k_ hB;clear hres hB hown hbad;go_wp2_with fail
   go_ret2
   exact⟨by rw[HR.out];rfl,HB.out⟩
theorem qN {ops:Array Oper} {o:Oper} {a:Act} {w:World} {K:Act→World→Prop} {Q:Exit→Act→World→Prop} {F:Prop} (hgd:o.guard=none) (sl x:Operand)
  (ho:o.op=.call { callee:=.builtin .append,args:=#[sl,x],argTypes:=#[30,9] })
  (B:Nat) (l:List Int) (v:Value) (hs:a.eval sl=v) (hown:Own u8E w B v l) (s:ByteArray) (hx:a.eval x=.string s)
  (hlen:l.length+s.size≤100000000) (hB:B≤w.heap.size)
  (h:∀ v' w',Own u8E w' B v' (l ++ bL s)→w.grownBy w' v.ownBlock→eO w v v'→K (a.put o.dst v') w'):if Region.wanted o (yielded ops a.tmps)=true then Oper.wp Tryz.prog o a w K Q else F:=by
 have hw:Region.wanted o (yielded ops a.tmps)=true:=by simp[Region.wanted,hgd]
 rw[if_pos hw];obtain⟨v',w',hr,h2,h3,h4⟩:=mI w o.type B l v hown s hlen hB;unfold Oper.wp execOp;simp only[ho,resolve,invoke,builtin,Sem.run_bind,Sem.run_pure,Result.andThen_ok,List.map_toArray,List.map_cons,List.map_nil,hs,hx,hr];exact h v' w' h2 h3 h4
theorem xZ (v:Int):bL (iX v)=[byteOf v 0,byteOf v 1,byteOf v 2,byteOf v 3]∧(iX v).size=4:=by
 have h:∀ k,0≤byteOf v k∧byteOf v k<256:=fun k=>by unfold byteOf;omega
 refine⟨lQ _ (fun x hx=>?_),aM _⟩
 simp at hx
 rcases hx with rfl | rfl | rfl | rfl <;> exact h _
def mE (l:List Ins):Value:=if laid l then .tuple #[.string (ah (dR l)),.bool true] else .tuple #[.string ⟨#[]⟩,.bool false]
theorem Dn (l:List Ins) (k:Nat) (hk:k<l.length) (h:cB l[k]=false):mE l=.tuple #[.string ⟨#[]⟩,.bool false]:=by
 have:laid l=false:=by
  unfold laid;rw[List.all_eq_false];exact⟨l[k],List.getElem_mem hk,by simp[h]⟩
 simp[mE,this]
theorem vY (l:List Ins) (a:Option Addr) (c:Nat) (w:World) (hl:l.length≤100000) (hc:rH w a l) :
  Calls Tryz.prog 50 #[.slice a l.length c] w fun e w'=>e=.returned (mE l)∧Below w.heap.size w w':=by
 have HC:=k_ hc;clear hc
 go_enter Tryz.func50,Tryz.ntmps50
 go_wp2_with fail
 go_loopw [4,5] (fun v i wr=>∃ k:Nat,k≤l.length∧i=.int .i64 k∧Own u8E wr w.heap.size v (dR (l.take k))∧Below w.heap.size w wr∧laid (l.take k)=true) (fun _ i _=>l.length - (intOf i).toNat)
 case atStart=>exact⟨0,Nat.zero_le _,rfl,Own.nil _ _ _,Below.refl _ _,rfl⟩
 case round =>
  obtain⟨k,hk,rfl,hown,hB,hlaid⟩:=hrel
  by_cases hlt:k<l.length
  ·have hx:=HC.out.below hB k hlt
   obtain⟨b,o,rfl,hx0,hx1,hx2,hx3⟩:=hx;have hno:=Dn l k hlt;have hsn:=aK l k hlt;have hll:(dR (l.take k)).length=7 * k:=by rw[fZ,List.length_take];omega
   generalize l[k]=x at *;obtain⟨xop,xa,xb,xc⟩:=x
   dsimp only at hx0 hx1 hx2 hx3
   have kn:=fun w=>tV w xop
   unfold kK at kn;have o1:=Bl xb;have un:=rY ⟨xop,xa,xb,xc⟩;have un:∀ w,Calls Tryz.prog 76 #[.agg #[.int .i64 xop,.int .i64 xa,.int .i64 xb,.int .i64 xc]] w fun e w'=>e=.returned (.bool (jb ⟨xop,xa,xb,xc⟩))∧Below w.heap.size w w':=un
   have hr:cB ⟨xop,xa,xb,xc⟩=(dh xop && decide (0≤xa) && decide (xa≤255) && decide (0≤xc) && decide (xc≤255) && decide (wrap32 xb=xb) && jb ⟨xop,xa,xb,xc⟩):=rfl;rw[hr] at hno;have q0:∀ W:bP (wr.alloc (.cells #[.int .i64 xop,.int .i64 xa,.int .i64 xb,.int .i64 xc] 63)),W.val.cell? ⟨wr.heap.size,0,none⟩=some (.int .i64 xop):=fun W=>W.cell (aI ..)
   have q1:∀ W:bP (wr.alloc (.cells #[.int .i64 xop,.int .i64 xa,.int .i64 xb,.int .i64 xc] 63)),W.val.cell? ⟨wr.heap.size,1,none⟩=some (.int .i64 xa):=fun W=>W.cell (aI ..)
   have q2:∀ W:bP (wr.alloc (.cells #[.int .i64 xop,.int .i64 xa,.int .i64 xb,.int .i64 xc] 63)),W.val.cell? ⟨wr.heap.size,2,none⟩=some (.int .i64 xb):=fun W=>W.cell (aI ..)
   have q3:∀ W:bP (wr.alloc (.cells #[.int .i64 xop,.int .i64 xa,.int .i64 xb,.int .i64 xc] 63)),W.val.cell? ⟨wr.heap.size,3,none⟩=some (.int .i64 xc):=fun W=>W.cell (aI ..)
   have hB4:=zR xb;have rb:=rQ xb;generalize hu:jb ⟨xop,xa,xb,xc⟩=ub at *;generalize hwb:wrap32 xb=b' at *;generalize hkn:dh xop=kn0 at *;have HU:=k_ hu;have HWB:=k_ hwb;have HKN:=k_ hkn;have OF:=k_ o1;have UN:=k_ un;have KN:=k_ kn;clear hu hwb hkn o1 un kn;have HNO:=k_ hno;clear hno;have HSN:=k_ hsn;clear hsn;have HLL:=k_ hll;clear hll;have HOWN:=k_ hown;clear hown;have HB:=k_ hB;clear hB;have HLAID:=k_ hlaid;clear hlaid;have HR:=k_ hr;clear hr;have RB:=k_ rb;clear rb
   cases kn0
   ·skip
    have hno:=HNO.out (by first | (simp[*];done) | (simp;intros;omega));have HNO2:=k_ hno;clear hno;go_wp2_with fail;refine bu (by kernel_rfl) (by kernel_rfl) ?_
    repeat (go_big_quiet_step (first | (go_at_call 74;exact Calls.below_same ((KN.out _).mono fun _ _ ⟨a,b⟩=>⟨a,b⟩)) | (go_at_call 75;exact Calls.below_same ((OF.out _).mono fun _ _ ⟨a,b⟩=>⟨a,b⟩)) | (go_at_call 76;exact Calls.below_of (UN.out _))))
    refine wpQuiet_nil ?_;rintro _ ⟨W2,rfl⟩;have HB2:=k_ ((HB.out.alloc HB.out.size (.cells #[.int .i64 xop,.int .i64 xa,.int .i64 xb,.int .i64 xc] 63)).trans (W2.2.mono (by have:=HB.out.size;simp;omega)));go_wp2_with fail
    go_ret2
    exact⟨by rw[HNO2.out];rfl,HB2.out⟩
   by_cases h1:xa<0
   ·skip
    have hno:=HNO.out (by first | (simp[*];done) | (simp;intros;omega));have HNO2:=k_ hno;clear hno;go_wp2_with fail;refine bu (by kernel_rfl) (by kernel_rfl) ?_
    repeat (go_big_quiet_step (first | (go_at_call 74;exact Calls.below_same ((KN.out _).mono fun _ _ ⟨a,b⟩=>⟨a,b⟩)) | (go_at_call 75;exact Calls.below_same ((OF.out _).mono fun _ _ ⟨a,b⟩=>⟨a,b⟩)) | (go_at_call 76;exact Calls.below_of (UN.out _))))
    refine wpQuiet_nil ?_;rintro _ ⟨W2,rfl⟩;have HB2:=k_ ((HB.out.alloc HB.out.size (.cells #[.int .i64 xop,.int .i64 xa,.int .i64 xb,.int .i64 xc] 63)).trans (W2.2.mono (by have:=HB.out.size;simp;omega)));go_wp2_with fail
    go_ret2
    exact⟨by rw[HNO2.out];rfl,HB2.out⟩
   have h1':decide (xa<0)=false:=by simpa using h1
   by_cases h2:255<xa
   ·skip
    have hno:=HNO.out (by first | (simp[*];done) | (simp;intros;omega));have HNO2:=k_ hno;clear hno;go_wp2_with fail;refine bu (by kernel_rfl) (by kernel_rfl) ?_
    repeat (go_big_quiet_step (first | (go_at_call 74;exact Calls.below_same ((KN.out _).mono fun _ _ ⟨a,b⟩=>⟨a,b⟩)) | (go_at_call 75;exact Calls.below_same ((OF.out _).mono fun _ _ ⟨a,b⟩=>⟨a,b⟩)) | (go_at_call 76;exact Calls.below_of (UN.out _))))
    refine wpQuiet_nil ?_;rintro _ ⟨W2,rfl⟩;have HB2:=k_ ((HB.out.alloc HB.out.size (.cells #[.int .i64 xop,.int .i64 xa,.int .i64 xb,.int .i64 xc] 63)).trans (W2.2.mono (by have:=HB.out.size;simp;omega)));go_wp2_with fail
    go_ret2
    exact⟨by rw[HNO2.out];rfl,HB2.out⟩
   have h2':decide (255<xa)=false:=by simpa using h2
   by_cases h3:xc<0
   ·skip
    have hno:=HNO.out (by first | (simp[*];done) | (simp;intros;omega));have HNO2:=k_ hno;clear hno;go_wp2_with fail;refine bu (by kernel_rfl) (by kernel_rfl) ?_
    repeat (go_big_quiet_step (first | (go_at_call 74;exact Calls.below_same ((KN.out _).mono fun _ _ ⟨a,b⟩=>⟨a,b⟩)) | (go_at_call 75;exact Calls.below_same ((OF.out _).mono fun _ _ ⟨a,b⟩=>⟨a,b⟩)) | (go_at_call 76;exact Calls.below_of (UN.out _))))
    refine wpQuiet_nil ?_;rintro _ ⟨W2,rfl⟩;have HB2:=k_ ((HB.out.alloc HB.out.size (.cells #[.int .i64 xop,.int .i64 xa,.int .i64 xb,.int .i64 xc] 63)).trans (W2.2.mono (by have:=HB.out.size;simp;omega)));go_wp2_with fail
    go_ret2
    exact⟨by rw[HNO2.out];rfl,HB2.out⟩
   have h3':decide (xc<0)=false:=by simpa using h3
   by_cases h4:255<xc
   ·skip
    have hno:=HNO.out (by first | (simp[*];done) | (simp;intros;omega));have HNO2:=k_ hno;clear hno;go_wp2_with fail;refine bu (by kernel_rfl) (by kernel_rfl) ?_
    repeat (go_big_quiet_step (first | (go_at_call 74;exact Calls.below_same ((KN.out _).mono fun _ _ ⟨a,b⟩=>⟨a,b⟩)) | (go_at_call 75;exact Calls.below_same ((OF.out _).mono fun _ _ ⟨a,b⟩=>⟨a,b⟩)) | (go_at_call 76;exact Calls.below_of (UN.out _))))
    refine wpQuiet_nil ?_;rintro _ ⟨W2,rfl⟩;have HB2:=k_ ((HB.out.alloc HB.out.size (.cells #[.int .i64 xop,.int .i64 xa,.int .i64 xb,.int .i64 xc] 63)).trans (W2.2.mono (by have:=HB.out.size;simp;omega)));go_wp2_with fail
    go_ret2
    exact⟨by rw[HNO2.out];rfl,HB2.out⟩
   have h4':decide (255<xc)=false:=by simpa using h4
   by_cases h5:b'=xb
   case neg =>
    have h5':(b' != xb)=true:=by simpa using h5
    have hno:=HNO.out (by first | (simp[*];done) | (simp;intros;omega));have HNO2:=k_ hno;clear hno;go_wp2_with fail;refine bu (by kernel_rfl) (by kernel_rfl) ?_
    repeat (go_big_quiet_step (first | (go_at_call 74;exact Calls.below_same ((KN.out _).mono fun _ _ ⟨a,b⟩=>⟨a,b⟩)) | (go_at_call 75;exact Calls.below_same ((OF.out _).mono fun _ _ ⟨a,b⟩=>⟨a,b⟩)) | (go_at_call 76;exact Calls.below_of (UN.out _))))
    refine wpQuiet_nil ?_;rintro _ ⟨W2,rfl⟩;have HB2:=k_ ((HB.out.alloc HB.out.size (.cells #[.int .i64 xop,.int .i64 xa,.int .i64 xb,.int .i64 xc] 63)).trans (W2.2.mono (by have:=HB.out.size;simp;omega)));go_wp2_with fail
    go_ret2
    exact⟨by rw[HNO2.out];rfl,HB2.out⟩
   have h5:=h5.symm;subst h5
   cases ub
   ·skip
    have hno:=HNO.out (by first | (simp[*];done) | (simp;intros;omega));have HNO2:=k_ hno;clear hno;go_wp2_with fail;refine bu (by kernel_rfl) (by kernel_rfl) ?_
    repeat (go_big_quiet_step (first | (go_at_call 74;exact Calls.below_same ((KN.out _).mono fun _ _ ⟨a,b⟩=>⟨a,b⟩)) | (go_at_call 75;exact Calls.below_same ((OF.out _).mono fun _ _ ⟨a,b⟩=>⟨a,b⟩)) | (go_at_call 76;exact Calls.below_of (UN.out _))))
    refine wpQuiet_nil ?_;rintro _ ⟨W2,rfl⟩;have HB2:=k_ ((HB.out.alloc HB.out.size (.cells #[.int .i64 xop,.int .i64 xa,.int .i64 xb,.int .i64 xc] 63)).trans (W2.2.mono (by have:=HB.out.size;simp;omega)));go_wp2_with fail
    go_ret2
    exact⟨by rw[HNO2.out];rfl,HB2.out⟩
   go_wp2_with fail;refine bu (by kernel_rfl) (by kernel_rfl) ?_
   repeat (go_big_quiet_step (first | (go_at_call 74;exact Calls.below_same ((KN.out _).mono fun _ _ ⟨a,b⟩=>⟨a,b⟩)) | (go_at_call 75;exact Calls.below_same ((OF.out _).mono fun _ _ ⟨a,b⟩=>⟨a,b⟩)) | (go_at_call 76;exact Calls.below_of (UN.out _))))
   refine wpQuiet_nil ?_;rintro _ ⟨W2,rfl⟩;have HB2:=k_ ((HB.out.alloc HB.out.size (.cells #[.int .i64 xop,.int .i64 xa,.int .i64 xb,.int .i64 xc] 63)).trans (W2.2.mono (by have:=HB.out.size;simp;omega)));have hown2:Own u8E W2.val w.heap.size _ (dR (l.take k)):=Own.below (HOWN.out.alloc (.cells #[.int .i64 xop,.int .i64 xa,.int .i64 xb,.int .i64 xc] 63)) W2.2;have k0:=q0 W2;have k1:=q1 W2;have k2:=q2 W2;have k3:=q3 W2;have hlt2:wr.heap.size<W2.val.heap.size:=World.block_lt k0;generalize W2.val=w2 at *;have hin:0≤xa∧xa≤255∧0≤xc∧xc≤255:=by omega
   have HIN:=k_ hin;clear hin;clear q0 q1 q2 q3 hx0 hx1 hx2 hx3 h1 h1' h2 h2' h3 h3' h4 h4';have b4:=xZ xb;have HOWN2:=k_ hown2;clear hown2;have B4:=k_ b4;clear b4;go_wp2_with fail
   go_region_held3 (fun w'=>w'.cell? ⟨wr.heap.size,0,none⟩=some (.int .i64 xop)∧w'.cell? ⟨wr.heap.size,1,none⟩=some (.int .i64 xa)∧w'.cell? ⟨wr.heap.size,2,none⟩=some (.int .i64 xb)∧w'.cell? ⟨wr.heap.size,3,none⟩=some (.int .i64 xc)) (first | go_keep | exact⟨kk0,kk1,kk2,kk3⟩) (first | (refine aS u8E rfl (.tmp 54) (.tmp 64) rfl w.heap.size (dR (l.take k)) [xop % 256,xa % 256,xc % 256] _ rfl (HOWN2.out.drew.alloc _) w2.heap.size 0 3 rfl (aA.new _ _ _ _) (by have:=HLL.out;simp;omega) (by have:=HB2.out.size;simp;omega) ?_;intro v3 w3 hown3 hg3 hf3;have kk0:=cell_grown hg3 ((aY _ _ hlt2).trans k0) (fun e=>absurd (World.ownsRow.lt HOWN.out _ e).2 (Nat.lt_irrefl _));have kk1:=cell_grown hg3 ((aY _ _ hlt2).trans k1) (fun e=>absurd (World.ownsRow.lt HOWN.out _ e).2 (Nat.lt_irrefl _));have kk2:=cell_grown hg3 ((aY _ _ hlt2).trans k2) (fun e=>absurd (World.ownsRow.lt HOWN.out _ e).2 (Nat.lt_irrefl _));have kk3:=cell_grown hg3 ((aY _ _ hlt2).trans k3) (fun e=>absurd (World.ownsRow.lt HOWN.out _ e).2 (Nat.lt_irrefl _))) | (refine qN rfl (.tmp 65) (.tmp 68) rfl w.heap.size (dR (l.take k) ++ [xop % 256,xa % 256,xc % 256]) _ rfl (hown3.alloc _) (iX xb) rfl (by rw[B4.out.2];have:=HLL.out;simp;omega) (by have:=HB2.out.size;have:=hg3.size;simp at *;omega) ?_;intro v5 w5 hown5 hg5 hf5;have kk0:=cell_grown hg5 ((aY _ _ (World.block_lt kk0)).trans kk0) (fun e=>(hf3 _ e).elim (fun e=>absurd (World.ownsRow.lt HOWN.out _ e).2 (Nat.lt_irrefl _)) (fun h=>by simp at h;omega));have kk1:=cell_grown hg5 ((aY _ _ (World.block_lt kk1)).trans kk1) (fun e=>(hf3 _ e).elim (fun e=>absurd (World.ownsRow.lt HOWN.out _ e).2 (Nat.lt_irrefl _)) (fun h=>by simp at h;omega));have kk2:=cell_grown hg5 ((aY _ _ (World.block_lt kk2)).trans kk2) (fun e=>(hf3 _ e).elim (fun e=>absurd (World.ownsRow.lt HOWN.out _ e).2 (Nat.lt_irrefl _)) (fun h=>by simp at h;omega));have kk3:=cell_grown hg5 ((aY _ _ (World.block_lt kk3)).trans kk3) (fun e=>(hf3 _ e).elim (fun e=>absurd (World.ownsRow.lt HOWN.out _ e).2 (Nat.lt_irrefl _)) (fun h=>by simp at h;omega))) | (go_at_call 18;refine(RB.out _).mono ?_;rintro e w4 ⟨rfl,rfl⟩))
   have hB3:=below_grown ((HB2.out.drew).alloc HB2.out.size _) (HOWN2.out.drew.alloc _) hg3 (by have:=HB2.out.size;simp;omega) (Nat.le_refl _);have hB5:=below_grown (hB3.alloc hB3.size _) (hown3.alloc _) hg5 (by have:=hB3.size;simp;omega) (Nat.le_refl _);rw[B4.out.1] at hown5;have HB5:=k_ hB5;clear hB5;have HOWN5:=k_ hown5;clear hown5;clear hB3 hown3 hg3 hg5 hf3 hf5 k0 k1 k2 k3;go_wp2_with fail
   go_roundw
   case rel =>
    refine⟨k+1,by omega,by go_num,?_,HB5.out,?_⟩
    ·rw[HSN.out,uX]
     have h:=HOWN5.out;rw[List.append_assoc] at h;exact h
    ·rw[HSN.out,uA,HLAID.out,HR.out];have:=HIN.out;simp;omega
   case measure=>simp[intOf];omega
  ·have hk':k=l.length:=by omega
   subst hk';rw[List.take_length] at hown hlaid;have hcv:=ni hown;have hres:mE l=.tuple #[.string (ah (dR l)),.bool true]:=by simp[mE,hlaid]
   have HR:=k_ hres;have HB:=k_ hB;clear hres hB hown hlaid;go_wp2_with fail
   go_ret2
   exact⟨by rw[HR.out];rfl,HB.out⟩
end Go.Proofs.YtlofbhoicbemnaaGreatDoor
