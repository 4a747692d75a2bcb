/- A file's parts: what is packed is unpacked as it was; which bytes are a file. Nothing of the program's text stands here. Walks: .. -/
import Derived.Test.YtlofbhoicbemnaaGreatDoorGAn
import Derived.Test.YtlofbhoicbemnaaGreatDoorGAw
import Derived.Test.YtlofbhoicbemnaaGreatDoorGAv
set_option linter.unusedVariables false
set_option linter.unusedSimpArgs false
set_option maxRecDepth 100000
set_option maxHeartbeats 3200000
namespace Go.Proofs.YtlofbhoicbemnaaGreatDoor.Tk
open Go.ChangeShapes Go.WideShapes Go.ChangeAt Go.RowKit Go.Maps
theorem Gp (b:ByteArray) (i j k:Nat) (hk:i+k≤b.size):(b.extract i b.size).extract j k=b.extract (i+j) (i+k):=by
 apply ByteArray.ext
 rw[ByteArray.data_extract,ByteArray.data_extract,ByteArray.data_extract,Array.extract_extract]
 congr 1
 have:i+k≤b.size:=hk
 omega
theorem vz (b:ByteArray) (i j:Nat):(b.extract i b.size).extract j (b.extract i b.size).size=b.extract (i+j) b.size:=by
 apply ByteArray.ext
 rw[ByteArray.data_extract,ByteArray.data_extract,ByteArray.data_extract,Array.extract_extract]
 congr 1
 rw[ByteArray.size_extract]
 omega
theorem iH (b:ByteArray) (i:Nat) (h:i+4≤b.size):eX (b.extract i b.size,false)=(dK (b.extract i (i+4)),(b.extract (i+4) b.size,false)):=by
 unfold eX d9;have hs:(b.extract i b.size).size=b.size - i:=by rw[ByteArray.size_extract];omega
 rw[if_neg (by rw[hs];omega)]
 show (dK ((b.extract i b.size).extract 0 4),((b.extract i b.size).extract 4 (b.extract i b.size).size,false))=_
 rw[Gp _ _ _ _ (by omega),vz]
 rfl
theorem qC (s:RS) (n:Int) (h:(d9 s n).2.2=false):s.2=false∧0≤n∧n≤s.1.size∧(d9 s n).2.1.size=s.1.size - n.toNat:=by
 unfold d9 at h ⊢
 split at h
 ·cases h
 ·next hn=>rw[if_neg hn];refine⟨h,by omega,by omega,?_⟩;rw[ByteArray.size_extract];omega
theorem sP (s:RS) (h:(eX s).2.2=false):s.2=false∧4≤s.1.size∧(eX s).2.1.size=s.1.size - 4:=by
 have h2:=qC s 4 h;exact⟨h2.1,by omega,h2.2.2.2⟩
def fN (b:ByteArray):Int:=dK (b.extract 0 4)
def fI (b:ByteArray):ByteArray:=b.extract 4 (4+(fN b).toNat)
def fK (b:ByteArray):ByteArray:=b.extract (4+(fN b).toNat) b.size
def fC (b:ByteArray):Cfg:=⟨dK ((fK b).extract 0 4),dK ((fK b).extract 4 8),dK ((fK b).extract 8 12),dK ((fK b).extract 12 16),dK ((fK b).extract 16 20)⟩
def fS (b:ByteArray):ByteArray:=(fK b).extract 20 (fK b).size
def oJ (b:ByteArray):Prop:=24≤b.size∧0≤fN b∧fN b≤(b.size:Int) - 24
instance (b:ByteArray):Decidable (oJ b):=by unfold oJ;infer_instance
theorem Bg (b:ByteArray) (h:oJ b):20≤(fK b).size∧(fK b).size≤b.size:=by
 obtain⟨h1,h2,h3⟩:=h;unfold fK;rw[ByteArray.size_extract];omega
theorem FJ (b:ByteArray) (h:oJ b):jT b=(fI b,(fK b,false))∧oD b=fC b∧(unN b 5).2=(fS b,false):=by
 obtain⟨hk,_⟩:=Bg b h;obtain⟨h1,h2,h3⟩:=h;have h0:eX (b,false)=(fN b,(b.extract 4 b.size,false)):=by
  have:=iH b 0 (by omega);rw[show b.extract 0 b.size=b from ByteArray.extract_zero_size] at this;rw[this];rfl
 have hI:jT b=(fI b,(fK b,false)):=by
  unfold jT;rw[h0];unfold d9;have hs:(b.extract 4 b.size).size=b.size - 4:=by rw[ByteArray.size_extract];omega
  rw[if_neg (by rw[hs];omega)]
  show ((b.extract 4 b.size).extract 0 (fN b).toNat,((b.extract 4 b.size).extract (fN b).toNat (b.extract 4 b.size).size,false))=_
  rw[Gp _ _ _ _ (by omega),vz]
  rfl
 have n1:unN b 1=(dK ((fK b).extract 0 4),((fK b).extract 4 (fK b).size,false)):=by
  show eX (jT b).2=_
  rw[hI];have:=iH (fK b) 0 (by omega);rw[show (fK b).extract 0 (fK b).size=fK b from ByteArray.extract_zero_size] at this;exact this
 have n2:unN b 2=(dK ((fK b).extract 4 8),((fK b).extract 8 (fK b).size,false)):=by
  show eX (unN b 1).2=_
  rw[n1];exact iH (fK b) 4 (by omega)
 have n3:unN b 3=(dK ((fK b).extract 8 12),((fK b).extract 12 (fK b).size,false)):=by
  show eX (unN b 2).2=_
  rw[n2];exact iH (fK b) 8 (by omega)
 have n4:unN b 4=(dK ((fK b).extract 12 16),((fK b).extract 16 (fK b).size,false)):=by
  show eX (unN b 3).2=_
  rw[n3];exact iH (fK b) 12 (by omega)
 have n5:unN b 5=(dK ((fK b).extract 16 20),((fK b).extract 20 (fK b).size,false)):=by
  show eX (unN b 4).2=_
  rw[n4];exact iH (fK b) 16 (by omega)
 refine⟨hI,?_,by rw[n5];rfl⟩;unfold oD fC;rw[n1,n2,n3,n4,n5]
theorem oV (b:ByteArray) (k:Nat) (h:(unN b (k+1)).2.2=false):(unN b k).2.2=false∧4≤(unN b k).2.1.size∧(unN b (k+1)).2.1.size=(unN b k).2.1.size - 4:=sP (unN b k).2 h
theorem D8 (b:ByteArray) (h:(unN b 0).2.2=false):4≤b.size∧0≤fN b∧fN b≤(b.size:Int) - 4∧(unN b 0).2.1.size=b.size - 4 - (fN b).toNat:=by
 have kI:=qC (eX (b,false)).2 (eX (b,false)).1 h;have k0:=sP (b,false) kI.1;have h4:4≤b.size:=k0.2.1;have e0:(eX (b,false)).2.1.size=b.size - 4:=k0.2.2;have hn:(eX (b,false)).1=fN b:=by
  have:=iH b 0 (by omega);rw[show b.extract 0 b.size=b from ByteArray.extract_zero_size] at this;rw[this];rfl
 have eI:(unN b 0).2.1.size=(eX (b,false)).2.1.size - (eX (b,false)).1.toNat:=kI.2.2.2;have h1:=kI.2.1;have h2:=kI.2.2.1;rw[hn] at eI h1 h2;rw[e0] at eI h2;exact⟨h4,h1,by omega,eI⟩
theorem JM (b:ByteArray) (h:¬ oJ b):(unN b 5).2.2=true:=by
 cases hb:(unN b 5).2.2 with
 | true=>rfl
 | false =>
   obtain⟨h4,a4,e4⟩:=oV b 4 hb;obtain⟨h3,a3,e3⟩:=oV b 3 h4;obtain⟨h2,a2,e2⟩:=oV b 2 h3;obtain⟨h1,a1,e1⟩:=oV b 1 h2;obtain⟨h0,a0,e0⟩:=oV b 0 h1;obtain⟨b4,b1,b2,b3⟩:=D8 b h0;refine absurd ?_ h;simp only[Nat.reduceAdd] at e0 e1 e2 e3 e4;unfold oJ
   omega
def fOk (b:ByteArray):Bool:=decide (oJ b) && bK (fI b) && decide (fC b).ok && decide ((bZ (fS b)).2=0)
theorem sZ (b:ByteArray):decide (unE b=0)=fOk b:=by
 unfold unE fOk
 by_cases hf:oJ b
 ·obtain⟨h1,h2,h3⟩:=FJ b hf
  rw[h1,h2,h3]
  cases hr:bK (fI b)
  ·rw[if_pos (Or.inr (Or.inl rfl))];simp
  ·by_cases hc:(fC b).ok
   ·rw[if_neg (by simp[hc])];simp[hf,hc]
   ·rw[if_pos (Or.inr (Or.inr hc))];simp[hc]
 ·rw[if_pos (Or.inl (JM b hf))];simp[hf]
theorem mR (v:Int) (k:Nat):0≤byteOf v k∧byteOf v k<256:=by
 unfold byteOf;omega
theorem fJ (v:Int) (h:0≤v) (h2:v≤2147483647):dK (ah (az v))=v:=by
 unfold dK;rw[if_neg (by rw[aM];show ¬ 4<4;omega)];rw[jl (az v) 0 (by show 0<4;omega) (mR v 0),jl (az v) 1 (by show 1<4;omega) (mR v 1),jl (az v) 2 (by show 2<4;omega) (mR v 2),jl (az v) 3 (by show 3<4;omega) (mR v 3)]
 show iN (byteOf v 0) (byteOf v 1) (byteOf v 2) (byteOf v 3)=v
 rw[tX];unfold wrap32;omega
theorem Ab (a b:ByteArray):(a ++ b).extract a.size (a ++ b).size=b:=by
 rw[uh _ _ _ (Nat.le_refl _),ByteArray.extract_same,ByteArray.empty_append]
theorem pz (a b:ByteArray):(a ++ b).extract 0 a.size=a:=by
 rw[wN _ _ _ (Nat.le_refl _),ByteArray.extract_zero_size]
theorem sW (a b c:ByteArray):(a ++ (b ++ c)).extract a.size (a.size+b.size)=b:=by
 have h:=Gp (a ++ (b ++ c)) a.size 0 b.size (by simp only[ByteArray.size_append];omega);rw[Ab,pz,Nat.add_zero] at h;exact h.symm
theorem xn (s:ByteArray):ah (bL s)=s:=by
 apply ByteArray.ext
 unfold ah bL
 apply Array.ext'
 simp only[List.map_map]
 conv=>rhs;rw[← List.map_id s.data.toList]
 refine List.map_congr_left fun x _=>?_
 simp
def dJ (img:ByteArray) (c:Cfg) (t:ByteArray):ByteArray:=ah (az img.size) ++ (img ++ (ah (az c.pages) ++ (ah (az c.first) ++ (ah (az c.limit) ++ (ah (az c.trigger) ++ (ah (az c.pile) ++ t))))))
theorem Dp (img:ByteArray) (c:Cfg) (t:ByteArray):ah (vv img c) ++ t=dJ img c t:=by
 have h:vv img c=az img.size ++ (bL img ++ (az c.pages ++ (az c.first ++ (az c.limit ++ (az c.trigger ++ az c.pile))))):=by
  unfold vv Cfg.list;simp only[List.flatMap_cons,List.flatMap_nil,List.append_nil,List.append_assoc]
 rw[h];simp only[← jy,xn,ByteArray.append_assoc]
 rfl
theorem bW (v:Int):(ah (az v)).size=4:=by rw[aM];rfl
theorem zA (img:ByteArray) (c:Cfg) (t:ByteArray) (hi:img.size≤1000000) (hc:c.ok):oJ (dJ img c t)∧fI (dJ img c t)=img∧fC (dJ img c t)=c∧fS (dJ img c t)=t:=by
 have hN:fN (dJ img c t)=img.size:=by
  unfold fN dJ;have:=pz (ah (az img.size)) (img ++ (ah (az c.pages) ++ (ah (az c.first) ++ (ah (az c.limit) ++ (ah (az c.trigger) ++ (ah (az c.pile) ++ t))))));rw[bW] at this;rw[this,fJ _ (by omega) (by omega)]
 have hsz:(dJ img c t).size=4+(img.size+(4+(4+(4+(4+(4+t.size)))))):=by
  unfold dJ;simp only[ByteArray.size_append,bW]
 have hI:fI (dJ img c t)=img:=by
  unfold fI;rw[hN];have:=sW (ah (az img.size)) img (ah (az c.pages) ++ (ah (az c.first) ++ (ah (az c.limit) ++ (ah (az c.trigger) ++ (ah (az c.pile) ++ t)))));rw[bW] at this;exact this
 have hK:fK (dJ img c t)=ah (az c.pages) ++ (ah (az c.first) ++ (ah (az c.limit) ++ (ah (az c.trigger) ++ (ah (az c.pile) ++ t)))):=by
  unfold fK;rw[hN];have:=Ab (ah (az img.size) ++ img) (ah (az c.pages) ++ (ah (az c.first) ++ (ah (az c.limit) ++ (ah (az c.trigger) ++ (ah (az c.pile) ++ t)))));rw[ByteArray.size_append,bW,ByteArray.append_assoc] at this;exact this
 have b0:=hc 0 (by omega);have b1:=hc 1 (by omega);have b2:=hc 2 (by omega);have b3:=hc 3 (by omega);have b4:=hc 4 (by omega);obtain⟨pages,first,limit,trigger,pile⟩:=c;have b0:1≤pages∧pages≤64:=b0;have b1:1≤first∧first≤limit:=b1;have b2:1≤limit∧limit≤4096:=b2;have b3:1≤trigger∧trigger≤1000000:=b3;have b4:1≤pile∧pile≤1000:=b4
 dsimp only at hK
 generalize hX:dJ img _ t=X at *;have e0:dK ((fK X).extract 0 4)=pages:=by
  rw[hK];have:=pz (ah (az pages)) (ah (az first) ++ (ah (az limit) ++ (ah (az trigger) ++ (ah (az pile) ++ t))));rw[bW] at this;rw[this,fJ _ (by omega) (by omega)]
 have e1:dK ((fK X).extract 4 8)=first:=by
  rw[hK];have:=sW (ah (az pages)) (ah (az first)) (ah (az limit) ++ (ah (az trigger) ++ (ah (az pile) ++ t)));rw[bW,bW] at this;rw[this,fJ _ (by omega) (by omega)]
 have e2:dK ((fK X).extract 8 12)=limit:=by
  rw[hK];have:=sW (ah (az pages) ++ ah (az first)) (ah (az limit)) (ah (az trigger) ++ (ah (az pile) ++ t));simp only[ByteArray.size_append,bW,ByteArray.append_assoc] at this;rw[this,fJ _ (by omega) (by omega)]
 have e3:dK ((fK X).extract 12 16)=trigger:=by
  rw[hK];have:=sW (ah (az pages) ++ ah (az first) ++ ah (az limit)) (ah (az trigger)) (ah (az pile) ++ t);simp only[ByteArray.size_append,bW,ByteArray.append_assoc] at this;rw[this,fJ _ (by omega) (by omega)]
 have e4:dK ((fK X).extract 16 20)=pile:=by
  rw[hK];have:=sW (ah (az pages) ++ ah (az first) ++ ah (az limit) ++ ah (az trigger)) (ah (az pile)) t;simp only[ByteArray.size_append,bW,ByteArray.append_assoc] at this;rw[this,fJ _ (by omega) (by omega)]
 refine⟨⟨by omega,by omega,by omega⟩,hI,?_,?_⟩
 ·unfold fC;rw[e0,e1,e2,e3,e4]
 ·unfold fS
  rw[hK];have:=Ab (ah (az pages) ++ ah (az first) ++ ah (az limit) ++ ah (az trigger) ++ ah (az pile)) t;simp only[ByteArray.size_append,bW,ByteArray.append_assoc] at this;simp only[ByteArray.size_append,bW];exact this
theorem FX (img:ByteArray) (c:Cfg) (t:ByteArray) (hi:img.size≤1000000) (n:Nat) (hn:n≤img.size+23):¬ oJ ((dJ img c t).extract 0 n):=by
 rintro⟨h1,h2,h3⟩;have hsz:(dJ img c t).size=4+(img.size+(4+(4+(4+(4+(4+t.size)))))):=by
  unfold dJ;simp only[ByteArray.size_append,bW]
 have hs:((dJ img c t).extract 0 n).size=n:=by rw[ByteArray.size_extract];omega
 rw[hs] at h1 h3;have hN:fN ((dJ img c t).extract 0 n)=img.size:=by
  unfold fN;have e:((dJ img c t).extract 0 n).extract 0 4=(dJ img c t).extract 0 4:=by
   apply ByteArray.ext
   rw[ByteArray.data_extract,ByteArray.data_extract,ByteArray.data_extract,Array.extract_extract]
   congr 1
   omega
  rw[e];have:=pz (ah (az img.size)) (img ++ (ah (az c.pages) ++ (ah (az c.first) ++ (ah (az c.limit) ++ (ah (az c.trigger) ++ (ah (az c.pile) ++ t))))));rw[bW] at this;unfold dJ;rw[this,fJ _ (by omega) (by omega)]
 rw[hN] at h3
 omega
theorem zX (ns:List Int) (n:Nat):((ah ns).extract 0 n).data.toList=(ns.map fun n=>UInt8.ofNat n.toNat).take n:=by
 unfold ah;rw[ByteArray.data_extract,Array.toList_extract]
 simp
theorem A8 (x:Ent) (h:bR x=true):sQ (UInt8.ofNat (yu x).toNat)=x:=by
 obtain⟨who,n⟩:=x;unfold bR at h;simp only[Bool.and_eq_true,decide_eq_true_eq] at h;obtain⟨⟨⟨h0,h1⟩,h2⟩,h3⟩:=h;have h0:0≤who:=h0;have h1:who≤5:=h1;have h2:0≤n:=h2;have h3:n≤31:=h3;unfold sQ yu;have hn:(UInt8.ofNat (32 * who+n).toNat).toNat=(32 * who+n).toNat:=by
  rw[UInt8.toNat_ofNat'];omega
 simp only[hn]
 congr 1 <;> omega
theorem DZ (l:List Ent) (h:l.all bR=true) (hl:l.length≤4000) (n:Nat) (hn:n≤l.length):bZ ((ah (gK l)).extract 0 n)=(l.take n,0):=by
 have hd:=zX (gK l) n;have hs:((ah (gK l)).extract 0 n).size=n:=by rw[ByteArray.size_extract,aM,jF];omega
 have he:eT ((ah (gK l)).extract 0 n)=l.take n:=by
  unfold eT;rw[hd,gK,List.map_take];rw[List.map_map,List.map_map]
  congr 1
  conv=>rhs;rw[← List.map_id l]
  refine List.map_congr_left fun x hx=>?_
  exact A8 x (List.all_eq_true.1 h x hx)
 have hok:jD ((ah (gK l)).extract 0 n)=true:=by
  unfold jD;have:((ah (gK l)).extract 0 n).data.toList.all (fun x=>decide ((sQ x).who≤5))=(eT ((ah (gK l)).extract 0 n)).all (fun y=>decide (y.who≤5)):=by
   unfold eT;rw[List.all_map];rfl
  rw[this,he,List.all_eq_true];intro x hx;have:=List.all_eq_true.1 h x (List.mem_of_mem_take hx);unfold bR at this;simp only[Bool.and_eq_true,decide_eq_true_eq] at this
  simpa using this.1.1.2
 unfold bZ;rw[hok,hs,if_pos rfl,if_pos (by omega),he]
theorem Ei (l:List Ent) (h:l.all bR=true) (hl:l.length≤4000):bZ (ah (gK l))=(l,0):=by
 have:=DZ l h hl l.length (Nat.le_refl _);rw[List.take_length] at this;rw[← this]
 congr 1
 have hs:(ah (gK l)).size=l.length:=by rw[aM,jF]
 rw[← hs,ByteArray.extract_zero_size]
theorem sM (w:World) (F:Nat→Prop) (tb:Nat) (p:TPrg) (T:Tk) (X:TB) (h:TaskAt w F tb p T X) (hn:T.parts.length≤1000) (M:List Mark) (m:Mark) (hM:T.marks=M ++ [m]) (hl:T.parts.length=M.length+1) :
  Calls Tryz.prog 245 #[.pointer (some ⟨tb,0,none⟩)] w fun e w'=>e=.returned (.bool m.deferred)∧Below w.heap.size w w':=by
 have hml:T.marks.length=M.length+1:=by rw[hM];simp
 obtain⟨a5,c5,hmv,hmel⟩:=aP h.marks;obtain⟨mb,rfl,_,hmc⟩:=hmel M.length (by omega);have hm:T.marks[M.length]'(by omega)=m:=by simp[hM]
 have l1:w.cell? ⟨mb,M.length * 3+1,none⟩=some (.bool (T.marks[M.length]'(by omega)).deferred):=hmc 1 _ rfl;rw[hm] at l1;have q5:=h.cells.2.2.2.2.2.1;rw[hml] at hmv;rw[hmv] at q5;have dp4:=fun wx (hw:Below w.heap.size w wx)=>(eF wx F tb p T X (h.below hw)).mono (fun e w' he=>(show e=.returned (.int .i64 (T.parts.length:Nat))∧Below wx.heap.size wx w' from⟨he.1,by rw[← he.2];exact Below.refl _ _⟩))
 rw[hl] at dp4;obtain⟨N,hN⟩:∃ N,N=M.length+1:=⟨_,rfl⟩;rw[← hN] at dp4 q5;have i1:IntKind.i64.wrap ((N:Int) - 1)=(M.length:Int):=by rw[show ((N:Int) - 1)=(M.length:Int) from by omega];exact IntWalk.i64_in _ (by omega)
 have n1:(M.length:Int)<(N:Int):=by omega
 have n0:0<N:=by omega
 have hkk:=fun wx (hw:Below w.heap.size w wx)=>And.intro (ae hw q5) (ae hw l1)
 clear hN hl hn h hm hmc hmel hmv hml hM l1 q5;generalize M.length=L at *;obtain⟨m0,m1,m2⟩:=m;have DP4:=k_ dp4;clear dp4;have HKK:=k_ hkk;clear hkk
 go_enter Tryz.func245,Tryz.ntmps245
 go_upto_region 1 with fail
 refine wp_region_noPanic ?_;refine wp_region_held_drew (S:=fun w'=>Below w.heap.size w w') (by kernel_rfl) (Below.refl _ _).drew (fun _=>?_);have HR1:=k_ (Below.refl w.heap.size w).drew;generalize w.drew=r1 at *;refine tk_ (i:=0) (v:=?_) rfl (by kernel_rfl) (fun _ _ _ h=>h) ?tq1 HR1.out ?_
 case tq1=>(intro wq hq;obtain⟨f0,f1⟩:=HKK.out wq hq;go_simp;first | done | with_reducible rfl)
 refine rd_ (i:=1) (by kernel_rfl) rfl fun K hK=>?_
 go_simp
 go_at_call 236
 refine(DP4.out r1 HR1.out).mono ?_;rintro e r2 ⟨rfl,hb⟩;have HR2:=k_ (HR1.out.trans (hb.mono HR1.out.size));clear hb;refine hK.out _ _ HR2.out (fun _=>?_);clear hK K;refine tk_ (i:=2) (v:=?_) rfl (by kernel_rfl) (fun _ _ _ h=>h) ?tq2 HR2.out ?_
 case tq2=>(intro wq hq;obtain⟨f0,f1⟩:=HKK.out wq hq;go_simp;first | done | with_reducible rfl)
 refine tk_ (i:=3) (v:=?_) rfl (by kernel_rfl) (fun _ _ _ h=>h) ?tq3 HR2.out ?_
 case tq3=>(intro wq hq;obtain⟨f0,f1⟩:=HKK.out wq hq;go_simp;first | done | with_reducible rfl)
 refine tk_ (i:=4) (v:=?_) rfl (by kernel_rfl) (fun _ _ _ h=>h) ?tq4 HR2.out ?_
 case tq4=>(intro wq hq;obtain⟨f0,f1⟩:=HKK.out wq hq;go_simp;first | done | with_reducible rfl)
 refine tk_ (i:=5) (v:=?_) rfl (by kernel_rfl) (fun _ _ _ h=>h) ?tq5 HR2.out ?_
 case tq5=>(intro wq hq;obtain⟨f0,f1⟩:=HKK.out wq hq;go_simp;first | done | with_reducible rfl)
 refine tk_ (i:=6) (v:=?_) rfl (by kernel_rfl) (fun _ _ _ h=>h) ?tq6 HR2.out ?_
 case tq6=>(intro wq hq;obtain⟨f0,f1⟩:=HKK.out wq hq;go_simp;first | done | with_reducible rfl)
 refine tk_ (i:=7) (v:=?_) rfl (by kernel_rfl) (fun _ _ _ h=>h) ?tq7 HR2.out ?_
 case tq7=>(intro wq hq;obtain⟨f0,f1⟩:=HKK.out wq hq;go_simp;first | done | with_reducible rfl)
 refine tk_ (i:=8) (v:=?_) rfl (by kernel_rfl) (fun _ _ _ h=>h) ?tq8 HR2.out ?_
 case tq8=>(intro wq hq;obtain⟨f0,f1⟩:=HKK.out wq hq;go_simp;first | done | with_reducible rfl)
 refine tk_ (i:=9) (v:=?_) rfl (by kernel_rfl) (fun _ _ _ h=>h) ?tq9 HR2.out ?_
 case tq9=>(intro wq hq;obtain⟨f0,f1⟩:=HKK.out wq hq;go_simp;first | done | with_reducible rfl)
 refine rd_ (i:=10) (by kernel_rfl) rfl fun K hK=>?_
 go_simp
 go_at_call 236
 refine(DP4.out r2 HR2.out).mono ?_;rintro e r3 ⟨rfl,hb⟩;have HR3:=k_ (HR2.out.trans (hb.mono HR2.out.size));clear hb;refine hK.out _ _ HR3.out (fun _=>?_);clear hK K;refine tk_ (i:=11) (v:=?_) rfl (by kernel_rfl) (fun _ _ _ h=>h) ?tq10 HR3.out ?_
 case tq10=>(intro wq hq;obtain⟨f0,f1⟩:=HKK.out wq hq;go_simp;first | done | with_reducible rfl)
 refine tk_ (i:=12) (v:=?_) rfl (by kernel_rfl) (fun _ _ _ h=>h) ?tq11 HR3.out ?_
 case tq11=>(intro wq hq;obtain⟨f0,f1⟩:=HKK.out wq hq;go_simp;first | done | with_reducible rfl)
 refine tk_ (i:=13) (v:=?_) rfl (by kernel_rfl) (fun _ _ _ h=>h) ?tq12 HR3.out ?_
 case tq12=>(intro wq hq;obtain⟨f0,f1⟩:=HKK.out wq hq;go_simp;first | done | with_reducible rfl)
 refine tk_ (i:=14) (v:=?_) rfl (by kernel_rfl) (fun _ _ _ h=>h) ?tq13 HR3.out ?_
 case tq13=>(intro wq hq;obtain⟨f0,f1⟩:=HKK.out wq hq;go_simp;first | done | with_reducible rfl)
 refine tk_ (i:=15) (v:=?_) rfl (by kernel_rfl) (fun _ _ _ h=>h) ?tq14 HR3.out ?_
 case tq14=>(intro wq hq;obtain⟨f0,f1⟩:=HKK.out wq hq;go_simp;first | done | with_reducible rfl)
 refine rd_ (i:=16) (by kernel_rfl) rfl fun K hK=>?_
 go_simp;refine hK.out _ _ HR3.out (fun _=>?_);clear hK K;refine wpAnyH_done (by kernel_rfl) ?_ _;refine NoPanic.normal ?_;go_wp2_with fail
 go_ret
 exact⟨rfl,HR3.out⟩
abbrev I1:={ x:Int // aJ x }
def i1 (a:Int) (h:0≤a∧a≤100):I1:=⟨a,JV a h⟩
def IM (wb:Nat) (k:Nat):Value:=.func (.func k) #[.pointer (some ⟨wb,0,none⟩)] #[]
def JZ:List (Nat × I1 × Nat):=[(4,i1 0 (by omega),102),(8,i1 1 (by omega),103),(12,i1 2 (by omega),104),(16,i1 3 (by omega),105),(20,i1 4 (by omega),106),(24,i1 5 (by omega),107)]
def vU (st:Nat→Int) (k:Nat):Nat:=((List.range k).filter fun i=>decide (st i=0)).length
theorem CF (st:Nat→Int) (k:Nat):vU st (k+1)=vU st k+(if st k=0 then 1 else 0):=by
 unfold vU;rw[List.range_succ,List.filter_append,List.length_append]
 by_cases h:st k=0 <;> simp[h]
theorem Ht (st:Nat→Int) (k:Nat):vU st k≤k:=by
 unfold vU;exact Nat.le_trans (List.length_filter_le _ _) (by simp)
theorem Co (w:World) (wb:Nat) (a:Option Addr) (l:List Ent) (c:Nat) (hall:∀ x ∈ l,x=⟨0,0⟩) (D:Nat→Prop) (hln:l.length≤10000) (S:Nat→Nat→World→Prop) (st:Nat→Int)
  (h0:∀ w',Below w.heap.size w w'→S w'.heap.size 0 w') (hS:∀ N k wr w',S N k wr→Below wr.heap.size wr w'→S N k w') (hE:∀ N k wr,S N k wr→dz wr D a l) (hX:∀ N k wr,S N k wr→∃ X,dw wr wb X∧X.st=st k)
  (hgo:∀ N k,k<l.length→st k=0→∀ wr,S N k wr→Calls Tryz.prog 102 #[.pointer (some ⟨wb,0,none⟩),.int .i64 0] wr fun e w'=>e=.returned (.bool true)∧S N (k+1) w'∧Fr (fun q=>q<w.heap.size∨N≤q) wr w')
  (hno:∀ N k,k<l.length→st k≠0→∀ wr,S N k wr→S N (k+1) wr) :
  Calls Tryz.prog 85 #[.pointer (some ⟨wb,0,none⟩),.slice a l.length c] w fun e w'=>e=.returned (.int .i64 (vU st l.length:Nat))∧∃ N,S N l.length w':=by
 obtain⟨X0,hX0,hX0s⟩:=hX _ _ _ (h0 w (Below.refl _ _));have nn:=tO w wb X0 hX0;have hz:∀ w,(zeroValue 131).run Tryz.prog w=.ok Value.nilFunc w:=fun w=>by kernel_rfl
 have hzz:∀ (f:Fn) (x y:Array Value) (w:World),(Instr.makeFunc f x y).run Tryz.prog w=.ok (.func f x y) w:=fun _ _ _ _=>rfl
 clear hX0s hX0 X0;have HH0:=k_ h0;clear h0;have HHS:=k_ hS;clear hS;have HHE:=k_ hE;clear hE;have HHX:=k_ hX;clear hX;have HGO:=k_ hgo;clear hgo;have HNO:=k_ hno;clear hno;have NN:=k_ nn;clear nn;have HALL:=k_ hall;clear hall
 go_enter Tryz.func85,Tryz.ntmps85
 go_wp2_with fail;refine NN.out.mono ?_;rintro e w1 ⟨rfl,rfl⟩
 go_upto_region 3 with fail
 refine wp_region_noPanic ?_;refine wp_region_held_drew (S:=fun w'=>Below w.heap.size w w') (by kernel_rfl) (Below.refl _ _).drew (fun _=>?_);have HR1:=k_ (Below.refl w.heap.size w).drew;have hs1:w.drew.heap.size=w.heap.size:=rfl;have HS1:=k_ hs1;clear hs1;generalize w.drew=r1 at *;refine tk_ (i:=1) (v:=?_) rfl (by kernel_rfl) (fun _ _ _ h=>h) ?tq1 HR1.out ?_
 case tq1=>(intro wq hq;go_simp;first | done | with_reducible rfl)
 refine tk_ (i:=2) (v:=?_) rfl (by kernel_rfl) (fun _ _ _ h=>h) ?tq2 HR1.out ?_
 case tq2=>(intro wq hq;go_simp;first | done | with_reducible rfl)
 refine tk_ (i:=3) (v:=?_) rfl (by kernel_rfl) (fun _ _ _ h=>h) ?tq3 HR1.out ?_
 case tq3=>(intro wq hq;go_simp;first | done | with_reducible rfl)
 refine tk_ (i:=5) (v:=?_) rfl (by kernel_rfl) (fun _ _ _ h=>h) ?tq5 HR1.out ?_
 case tq5=>(intro wq hq;go_simp;first | done | with_reducible rfl)
 refine tk_ (i:=6) (v:=?_) rfl (by kernel_rfl) (fun _ _ _ h=>h) ?tq6 HR1.out ?_
 case tq6=>(intro wq hq;go_simp;first | done | with_reducible rfl)
 refine tk_ (i:=7) (v:=?_) rfl (by kernel_rfl) (fun _ _ _ h=>h) ?tq7 HR1.out ?_
 case tq7=>(intro wq hq;go_simp;first | done | with_reducible rfl)
 refine tk_ (i:=9) (v:=?_) rfl (by kernel_rfl) (fun _ _ _ h=>h) ?tq9 HR1.out ?_
 case tq9=>(intro wq hq;go_simp;first | done | with_reducible rfl)
 refine tk_ (i:=10) (v:=?_) rfl (by kernel_rfl) (fun _ _ _ h=>h) ?tq10 HR1.out ?_
 case tq10=>(intro wq hq;go_simp;first | done | with_reducible rfl)
 refine tk_ (i:=11) (v:=?_) rfl (by kernel_rfl) (fun _ _ _ h=>h) ?tq11 HR1.out ?_
 case tq11=>(intro wq hq;go_simp;first | done | with_reducible rfl)
 refine tk_ (i:=13) (v:=?_) rfl (by kernel_rfl) (fun _ _ _ h=>h) ?tq13 HR1.out ?_
 case tq13=>(intro wq hq;go_simp;first | done | with_reducible rfl)
 refine tk_ (i:=14) (v:=?_) rfl (by kernel_rfl) (fun _ _ _ h=>h) ?tq14 HR1.out ?_
 case tq14=>(intro wq hq;go_simp;first | done | with_reducible rfl)
 refine tk_ (i:=15) (v:=?_) rfl (by kernel_rfl) (fun _ _ _ h=>h) ?tq15 HR1.out ?_
 case tq15=>(intro wq hq;go_simp;first | done | with_reducible rfl)
 refine tk_ (i:=17) (v:=?_) rfl (by kernel_rfl) (fun _ _ _ h=>h) ?tq17 HR1.out ?_
 case tq17=>(intro wq hq;go_simp;first | done | with_reducible rfl)
 refine tk_ (i:=18) (v:=?_) rfl (by kernel_rfl) (fun _ _ _ h=>h) ?tq18 HR1.out ?_
 case tq18=>(intro wq hq;go_simp;first | done | with_reducible rfl)
 refine tk_ (i:=19) (v:=?_) rfl (by kernel_rfl) (fun _ _ _ h=>h) ?tq19 HR1.out ?_
 case tq19=>(intro wq hq;go_simp;first | done | with_reducible rfl)
 refine tk_ (i:=21) (v:=?_) rfl (by kernel_rfl) (fun _ _ _ h=>h) ?tq21 HR1.out ?_
 case tq21=>(intro wq hq;go_simp;first | done | with_reducible rfl)
 refine tk_ (i:=22) (v:=?_) rfl (by kernel_rfl) (fun _ _ _ h=>h) ?tq22 HR1.out ?_
 case tq22=>(intro wq hq;go_simp;first | done | with_reducible rfl)
 refine tk_ (i:=23) (v:=?_) rfl (by kernel_rfl) (fun _ _ _ h=>h) ?tq23 HR1.out ?_
 case tq23=>(intro wq hq;go_simp;first | done | with_reducible rfl)
 refine rd_ (i:=0) (by kernel_rfl) rfl fun K hK=>?_
 go_simp;have hb2:Below w.heap.size w (r1.alloc (.map #[] 0)):=HR1.out.alloc HR1.out.size _;refine hK.out _ _ hb2 (fun _=>?_);clear hK K;refine rV (K:=acK) (val:=IM wb) Tryz.underlying179 _ r1.heap.size (fun w'=>Below w.heap.size w w') (fun _ h=>h) (fun w1 w2 h1 h2=>h1.trans ((bi h2).below (N:=w.heap.size) h1.size (fun q hq=>by have:=HS1.out;have hq:q=r1.heap.size:=hq;omega))) 2 6 JZ rfl _ _ (by kernel_rfl) (fun x hx=>?_) (by decide) (by decide) (by kernel_rfl) (bf.made acK _ r1) (by decide) hb2 (fun w3 n g hn hm h1 h2 hb3=>?_)
 ·simp only[JZ,List.mem_cons,List.not_mem_nil,or_false] at hx
  rcases hx with rfl | rfl | rfl | rfl | rfl | rfl <;> exact⟨⟨_,_,_,rfl,rfl,rfl,rfl⟩,trivial⟩
 have hg:g (i1 0 (by omega))=some 102:=h1 _ (List.mem_cons_self ..);have HM:=k_ hm;have HB3:=k_ hb3;have HG:=k_ hg;clear hm h1 h2 hb3 hg;refine tk_ (i:=25) (v:=?_) rfl (by kernel_rfl) (fun _ _ _ h=>h) ?tq25 HB3.out ?_
 case tq25=>(intro wq hq;go_simp;first | done | with_reducible rfl)
 refine tk_ (i:=26) (v:=?_) rfl (by kernel_rfl) (fun _ _ _ h=>h) ?tq26 HB3.out ?_
 case tq26=>(intro wq hq;go_simp;first | done | with_reducible rfl)
 refine wpAnyH_done (by kernel_rfl) ?_ _;refine NoPanic.normal ?_;have hs0:=HH0.out w3 HB3.out;have hmb:w.heap.size≤r1.heap.size∧r1.heap.size<w3.heap.size:=⟨HR1.out.size,HM.out.lt⟩;clear HB3 HR1 HS1 hb2;generalize r1.heap.size=mb at *;obtain⟨N1,hN1⟩:∃ N1,N1=w3.heap.size:=⟨_,rfl⟩;rw[← hN1] at hs0 hmb;have HS0:=k_ hs0;have HMB:=k_ hmb;have HN1:=k_ hN1;clear hs0 hmb hN1 hn;go_wp2_with fail
 go_loopw [6,35] (fun n i wr=>∃ k:Nat,k≤l.length∧i=.int .i64 k∧n=.int .i64 (vU st k:Nat)∧S N1 k wr∧(∃ m,bf acK (IM wb) wr mb m g)∧N1≤wr.heap.size) (fun _ i _=>l.length - (intOf i).toNat)
 case atStart=>exact⟨0,Nat.zero_le _,rfl,rfl,HS0.out,⟨_,HM.out⟩,Nat.le_of_eq HN1.out⟩
 case round =>
  clear HM HS0;obtain⟨k,hk,rfl,rfl,hs,⟨m,hm⟩,hN⟩:=hrel
  by_cases hlt:k<l.length
  ·obtain⟨b,o,rfl,hd,e0,e1⟩:=HHE.out _ _ _ hs k hlt
   rw[HALL.out _ (List.getElem_mem hlt)] at e0 e1;have e0:wr.cell? ⟨b,o+k * 2,none⟩=some (.int .i64 0):=e0;have e1:wr.cell? ⟨b,o+k * 2+1,none⟩=some (.int .i64 0):=e1;obtain⟨w7,hw7⟩:∃ w7,w7=wr.alloc (.cells #[.int .i64 0,.int .i64 0] 29):=⟨_,rfl⟩;have hb7:Below wr.heap.size wr w7:=by rw[hw7];exact(Below.refl _ _).alloc (Nat.le_refl _) _
   have hr7:w7.heap[wr.heap.size]?=some (.cells #[.int .i64 0,.int .i64 0] 29):=by rw[hw7];exact ai _ _
   have hs7:=HHS.out _ _ _ _ hs hb7;have hm7:=hm.below hb7;obtain⟨X,hx,hst⟩:=HHX.out _ _ _ hs7;have q20:w7.cell? ⟨wb,20,none⟩=some (.int .i64 X.st):=(hx.cell 20).1;rw[hst] at q20;have hN7:=Nat.le_trans hN hb7.size;obtain⟨z,hz7⟩:∃ z,z=wr.heap.size:=⟨_,rfl⟩;rw[← hz7] at hr7;have z0:=(aa hr7 0).1;have z1:=(aa hr7 1).1;simp only[List.getElem?_toArray,List.getElem?_cons_zero,List.getElem?_cons_succ] at z0 z1;obtain⟨k1,hk1⟩:∃ k1,k1=k+1:=⟨_,rfl⟩;have iw:IntKind.i64.wrap ((k:Int)+1)=(k1:Int):=by rw[show ((k:Int)+1)=(k1:Int) from by omega];exact IntWalk.i64_in _ (by omega)
   have hcs:=CF st k;have hcl:=Ht st k;rw[← hk1] at hcs;have hle:k1≤l.length:=by omega
   have hdl:l.length - k1<l.length - k:=by omega
   obtain⟨cn,hcn⟩:∃ cn,cn=vU st k:=⟨_,rfl⟩;rw[← hcn] at hcs hcl ⊢;obtain⟨cn1,hcn1⟩:∃ cn1,cn1=cn+1:=⟨_,rfl⟩;have jw:IntKind.i64.wrap ((cn:Int)+1)=(cn1:Int):=by rw[show ((cn:Int)+1)=(cn1:Int) from by omega];exact IntWalk.i64_in _ (by omega)
   have HW7:=k_ hw7;have HZ7:=k_ hz7;have HK1:=k_ hk1;clear hw7 hz7 hr7 hs hm hb7 hN hx hst X hcn hcl hk1 hd;have HS7:=k_ hs7;clear hs7;have HM7:=k_ hm7;clear hm7;have HN7:=k_ hN7;clear hN7;have HCS:=k_ hcs;clear hcs;have HLE:=k_ hle;clear hle;have HDL:=k_ hdl;clear hdl;have HCN1:=k_ hcn1;clear hcn1
   go_upto_region 8 with fail
   rw[← HW7.out,← HZ7.out];clear e0 e1
   by_cases h0:st k=0
   ·have go7:=HGO.out N1 k hlt h0 w7 HS7.out
    rw[h0] at q20;have GO7:=k_ go7;clear go7
    go_upto_region 9 with (refine kC rfl (.tmp 40) (.tmp 43) 179 131 rfl HM7.out Tryz.underlying179 (hz _) (i1 0 (by omega)) trivial rfl rfl _ HG.out ?_)
    unfold IM;go_wp2_with fail;refine GO7.out.mono ?_;rintro e w8 ⟨rfl,hs8,hf8⟩;have hm8:=HM7.out.fr hf8 (fun h=>by have:=HMB.out;omega);have hN8:=Nat.le_trans HN7.out hf8.size;rw[← HK1.out] at hs8;clear hf8 z0 z1 q20;have HS8:=k_ hs8;clear hs8;have HM8:=k_ hm8;clear hm8;have HN8:=k_ hN8;clear hN8;go_wp2_with fail
    go_roundw
    case rel=>exact⟨k1,HLE.out,by go_num,by rw[HCS.out,if_pos h0,← HCN1.out],HS8.out,⟨m,HM8.out⟩,HN8.out⟩
    case measure=>have:=HDL.out;simp[intOf];omega
   ·have d20:(st k == 0)=false:=by rw[beq_eq_false_iff_ne];exact h0
    have hs8:=HNO.out N1 k hlt h0 w7 HS7.out;rw[← HK1.out] at hs8;have HS8:=k_ hs8;clear hs8
    go_upto_region 9 with (refine kC rfl (.tmp 40) (.tmp 43) 179 131 rfl HM7.out Tryz.underlying179 (hz _) (i1 0 (by omega)) trivial rfl rfl _ HG.out ?_)
    unfold IM;go_wp2_with fail
    go_roundw
    case rel=>exact⟨k1,HLE.out,by go_num,by rw[HCS.out,if_neg h0];rfl,HS8.out,⟨m,HM7.out⟩,HN7.out⟩
    case measure=>have:=HDL.out;simp[intOf];omega
  ·have hk':k=l.length:=by omega
   subst hk';have HSE:=k_ hs;clear hs hm hN;go_wp2_with fail
   go_ret
   exact⟨rfl,N1,HSE.out⟩
end Go.Proofs.YtlofbhoicbemnaaGreatDoor.Tk
