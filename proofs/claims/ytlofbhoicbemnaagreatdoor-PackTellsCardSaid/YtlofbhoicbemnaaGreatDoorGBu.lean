/- The first program on a machine: step for step. The first program on a machine, whole. The first program on a machine: all its steps. The .. -/
import Derived.Test.YtlofbhoicbemnaaGreatDoorGBq
import Derived.Test.YtlofbhoicbemnaaGreatDoorGBt
set_option linter.unusedVariables false
set_option linter.unusedSimpArgs false
namespace Go.Proofs.YtlofbhoicbemnaaGreatDoor.Tk
open Go.ChangeShapes Go.WideShapes Go.ChangeAt Go.RowKit Go.Maps
abbrev KF:={ x:Int × Int // aJ x.1∧aJ x.2 }→Option Int
structure MSt where (wb kb tc hb hc tb:Nat) (D De:Nat→Prop) (c0 c1 c2:Value) (mb:Nat) (v:Int) (a:Option Addr) (l:List Ent) (n0 B lo:Nat)
structure MSt.ok (M:MSt):Prop where
 lt:M.wb<M.n0∧M.kb<M.n0∧M.hb<M.n0
 lo:M.lo≤M.wb∧M.lo≤M.hb
 ne:M.wb≠M.kb∧M.wb≠M.hb∧M.kb≠M.hb
 d:∀ q,M.D q→q<M.n0∧q≠M.wb∧q≠M.kb∧q≠M.hb
 e:∀ q,M.De q→q<M.n0∧q≠M.wb∧q≠M.kb∧q≠M.hb
 b:M.wb<M.B∧M.B≤M.n0
 s:∃ a0 n0 m0 a1 n1 m1 a2 n2 m2,M.c0=.slice a0 n0 m0∧M.c1=.slice a1 n1 m1∧M.c2=.slice a2 n2 m2
structure MS (M:MSt) (N:Nat) (wr:World) (L:List Int) (st hs:Int) (T:Tk) (al:List Alarm) (kf:KF) (X:WoD) (F:Nat→Prop) (XT:TB):Prop where
 mach:dw wr M.wb X
 cc:X.c0=M.c0∧X.c1=M.c1∧X.c2=M.c2∧X.mb=M.mb
 tk:X.tk=.slice (some ⟨M.kb,0,none⟩) 1 M.tc
 hd:X.hd=.slice (some ⟨M.hb,0,none⟩) 1 M.hc
 stv:X.st=st
 out:Own aG wr M.B X.ot L
 task:TaskAt wr F M.tb qZ T XT
 alv:XT.al=al
 kfv:XT.kf=kf
 xd:XT.D=M.D
 kbc:wr.cell? ⟨M.kb,0,none⟩=some (.pointer (some ⟨M.tb,0,none⟩))
 hand:∃ cs:Array Value,wr.heap[M.hb]?=some (.cells cs 213)∧cs[0]?=some (.int .i64 hs)∧cs[1]?=some (.bool false)
 prg:aD wr M.D (pZ M.v) M.c0 M.c1 M.c2
 ent:dz wr M.De M.a M.l
 fn:∀ q,F q→((M.lo≤q∧q<M.n0)∨N≤q)∧q≠M.wb∧q≠M.kb∧q≠M.hb∧¬ M.D q∧¬ M.De q∧X.ot.ownBlock≠some q
 on:∀ q,X.ot.ownBlock=some q→((M.lo≤q∧q<M.n0)∨N≤q)∧q≠M.wb∧q≠M.kb∧q≠M.hb∧¬ M.D q∧¬ M.De q
 big:M.n0≤N∧N≤wr.heap.size
variable {M:MSt} {N:Nat} {wr w2:World} {L:List Int} {st hs:Int} {T:Tk} {al:List Alarm} {kf:KF} {X:WoD} {F:Nat→Prop} {XT:TB}
theorem MS.frame (h:MS M N wr L st hs T al kf X F XT) {G:Nat→Prop} (hf:Fr G wr w2) (hG:∀ q,G q→q≠M.wb∧q≠M.kb∧q≠M.hb∧¬ M.D q∧¬ M.De q∧¬ F q∧X.ot.ownBlock≠some q):MS M N w2 L st hs T al kf X F XT where
 mach:=h.mach.fr hf (fun e=>(hG _ e).1 rfl)
 cc:=h.cc
 tk:=h.tk
 hd:=h.hd
 stv:=h.stv
 out:=h.out.fr hf (fun q hq e=>(hG q e).2.2.2.2.2.2 hq)
 task:=h.task.fr hf (fun q hq e=>(hG q e).2.2.2.2.2.1 hq) (fun q hq e=>by rw[h.xd] at hq;exact(hG q e).2.2.2.1 hq)
 alv:=h.alv
 kfv:=h.kfv
 xd:=h.xd
 kbc:=hf.cell h.kbc (fun e=>(hG _ e).2.1 rfl)
 hand:=by obtain⟨cs,h1,h2,h3⟩:=h.hand;exact⟨cs,hf.heap h1 (fun e=>(hG _ e).2.2.1 rfl),h2,h3⟩
 prg:=h.prg.fr hf (fun q hq e=>(hG q e).2.2.2.1 hq)
 ent:=h.ent.fr hf (fun q hq e=>(hG q e).2.2.2.2.1 hq)
 fn:=h.fn
 on:=h.on
 big:=⟨h.big.1,Nat.le_trans h.big.2 hf.size⟩
theorem MS.below (h:MS M N wr L st hs T al kf X F XT) (hb:Below wr.heap.size wr w2):MS M N w2 L st hs T al kf X F XT:=h.frame (fb_ hb) (fun q e=>e.elim)
theorem MS.one (h:MS M N wr L st 0 T al kf X F XT) (hM:M.ok):One wr M.wb X M.kb M.tc M.hb M.hc M.tb false :=
 ⟨h.mach,h.tk,h.kbc,h.hd,h.hand,hM.ne.2.1,hM.ne.2.2⟩
def Mid (M:MSt) (N:Nat) (wr:World) (L:List Int) (T':Tk) (al':List Alarm) (kf':KF) (X:WoD) (n:Nat) (w':World):Prop :=
 ∃ F' XT',MS M N w' L 0 0 T' al' kf' X F' XT'∧(∀ q,F' q→q<wr.heap.size∨n≤q)∧wr.heap.size≤n∧n≤w'.heap.size∧Fr (fun q=>(M.lo≤q∧q<M.n0)∨N≤q) wr w'
theorem zF (hM:M.ok) (h:MS M N wr L 0 0 T al kf X F XT) (T':Tk) (al':List Alarm) (kf':KF) (k a f x fn:Int) (bb:Bool) (wx:World) (hx:Fr (fun q=>q=M.hb) wr wx) (hh:∃ cs:Array Value,wx.heap[M.hb]?=some (.cells cs 213)∧cs[0]?=some (.int .i64 0)∧cs[1]?=some (.bool false))
  (STEP:∀ wy,TaskAt wy F M.tb qZ T XT→aD wy M.D (pZ M.v) M.c0 M.c1 M.c2→(∀ q,M.D q→¬ F q∧q<wy.heap.size)→Calls Tryz.prog 126 #[.agg #[M.c0,M.c1,M.c2],.pointer (some ⟨M.mb,0,none⟩),.pointer (some ⟨M.tb,0,none⟩)] wy (aW wy F M.tb qZ XT T' al' kf' (bA k a f x fn bb (.slice none 0 0)))) :
  Calls Tryz.prog 126 #[.agg #[X.c0,X.c1,X.c2],.pointer (some ⟨X.mb,0,none⟩),.pointer (some ⟨M.tb,0,none⟩)] wx fun e w'=>e=.returned (bA k a f x fn bb (.slice none 0 0))∧Mid M N wr L T' al' kf' X wx.heap.size w'∧Fr (fun q=>q<wr.heap.size∨wx.heap.size≤q) wx w':=by
 obtain⟨l1,l2,l3⟩:=hM.lt;have hbig:=h.big;have hG:∀ q,q=M.hb→¬ M.D q∧¬ M.De q∧¬ F q∧X.ot.ownBlock≠some q:=fun q e=>⟨fun hq=>(hM.d q hq).2.2.2 e,fun hq=>(hM.e q hq).2.2.2 e,fun hq=>(h.fn q hq).2.2.2.1 e,fun hq=>(h.on q hq).2.2.2.1 e⟩
 have h2:MS M N wx L 0 0 T al kf X F XT:={
  mach:=h.mach.fr hx (fun e=>hM.ne.2.1 e)
  cc:=h.cc
  tk:=h.tk
  hd:=h.hd
  stv:=h.stv
  out:=h.out.fr hx (fun q hq e=>(hG q e).2.2.2 hq)
  task:=h.task.fr hx (fun q hq e=>(hG q e).2.2.1 hq) (fun q hq e=>by rw[h.xd] at hq;exact(hG q e).1 hq)
  alv:=h.alv
  kfv:=h.kfv
  xd:=h.xd
  kbc:=hx.cell h.kbc (fun e=>hM.ne.2.2 e)
  hand:=hh
  prg:=h.prg.fr hx (fun q hq e=>(hG q e).1 hq)
  ent:=h.ent.fr hx (fun q hq e=>(hG q e).2.1 hq)
  fn:=h.fn
  on:=h.on
  big:=⟨h.big.1,Nat.le_trans h.big.2 hx.size⟩ }
 rw[h.cc.1,h.cc.2.1,h.cc.2.2.1,h.cc.2.2.2];refine(STEP wx h2.task h2.prg (fun q hq=>⟨fun hf=>(h.fn q hf).2.2.2.2.1 hq,by have:=(hM.d q hq).1;have:=h2.big;omega⟩)).mono ?_;rintro e w' ⟨rfl,F',XT',hT',hQ,hF',hf'⟩;have hnew:∀ q,F' q→F q∨(wx.heap.size≤q):=hF';have hFlt:∀ q,F q→q<wr.heap.size:=h.task.flt;have hsz:=hx.size;refine⟨rfl,⟨F',XT',?_,fun q hq=>(hF' q hq).imp (hFlt q) id,hx.size,hf'.size,?_⟩,hf'.mono (fun q hq=>.inl (hFlt q hq))⟩
 ·have hg:∀ q,F q→q≠M.wb∧q≠M.kb∧q≠M.hb∧¬ M.D q∧¬ M.De q∧X.ot.ownBlock≠some q:=fun q hq=>(h.fn q hq).2
  exact {
   mach:=h2.mach.fr hf' (fun e=>(hg _ e).1 rfl)
   cc:=h.cc
   tk:=h.tk
   hd:=h.hd
   stv:=h.stv
   out:=h2.out.fr hf' (fun q hq e=>(hg q e).2.2.2.2.2 hq)
   task:=hT'
   alv:=hQ.2.1
   kfv:=hQ.2.2.1
   xd:=by rw[hQ.1];exact h.xd
   kbc:=hf'.cell h2.kbc (fun e=>(hg _ e).2.1 rfl)
   hand:=by obtain⟨cs,g1,g2,g3⟩:=hh;exact⟨cs,hf'.heap g1 (fun e=>(hg _ e).2.2.1 rfl),g2,g3⟩
   prg:=h2.prg.fr hf' (fun q hq e=>(hg q e).2.2.2.1 hq)
   ent:=h2.ent.fr hf' (fun q hq e=>(hg q e).2.2.2.2.1 hq)
   fn:=fun q hq=>by
    rcases hF' q hq with h1 | h1
    ·exact h.fn q h1
    ·have hd:=fun (hq:M.D q)=>(hM.d q hq).1
     have he:=fun (hq:M.De q)=>(hM.e q hq).1
     have ho:=fun (hq:X.ot.ownBlock=some q)=>(h.out.lt hq).2
     have h2b:=h2.big;exact⟨.inr (by omega),by omega,by omega,by omega,fun hq=>by have:=hd hq;omega,fun hq=>by have:=he hq;omega,fun hq=>by have:=ho hq;omega⟩
   on:=h.on
   big:=⟨h.big.1,Nat.le_trans h2.big.2 hf'.size⟩ }
 ·exact(hx.mono (fun q e=>.inl (by have e:q=M.hb:=e;have:=hM.lo.2;omega))).trans (hf'.mono (fun q hq=>(h.fn q hq).1)) (fun q _ hq=>hq)
theorem AC (hM:M.ok) {T':Tk} {al':List Alarm} {kf':KF} {n:Nat} {w1 w2:World} (hb:M.n0≤N∧N≤wr.heap.size) (ho:∀ q,X.ot.ownBlock=some q→q<wr.heap.size) (h:Mid M N wr L T' al' kf' X n w1) (hf:Fr (fun q=>wr.heap.size≤q∧q<n) w1 w2):Mid M N wr L T' al' kf' X n w2:=by
 obtain⟨F',XT',h1,h2,h3,h4,h5⟩:=h;obtain⟨l1,l2,l3⟩:=hM.lt;refine⟨F',XT',h1.frame hf (fun q hq=>⟨by omega,by omega,by omega,fun hd=>by have:=(hM.d q hd).1;omega,fun hd=>by have:=(hM.e q hd).1;omega,fun hd=>by have:=h2 q hd;omega,fun hd=>by have:=ho q hd;omega⟩),h2,h3,Nat.le_trans h4 hf.size,?_⟩;exact h5.trans (hf.mono (G:=fun q=>(M.lo≤q∧q<M.n0)∨N≤q) (fun q hq=>.inr (by have:=hb;omega))) (fun q _ hq=>hq)
end Go.Proofs.YtlofbhoicbemnaaGreatDoor.Tk
namespace Go.Proofs.YtlofbhoicbemnaaGreatDoor.Tk
open Go.ChangeShapes Go.WideShapes Go.ChangeAt Go.RowKit Go.Maps
variable {M:MSt} {N:Nat} {wr w2:World} {L:List Int} {st hs:Int} {T:Tk} {al:List Alarm} {kf:KF} {X:WoD} {F:Nat→Prop} {XT:TB}
def DT (M:MSt) (F:Nat→Prop) (XT:TB) (T T':Tk) (al':List Alarm) (kf':KF) (k x:Int):Prop:=∀ wy,TaskAt wy F M.tb qZ T XT→aD wy M.D (pZ M.v) M.c0 M.c1 M.c2→(∀ q,M.D q→¬ F q∧q<wy.heap.size)→Calls Tryz.prog 126 #[.agg #[M.c0,M.c1,M.c2],.pointer (some ⟨M.mb,0,none⟩),.pointer (some ⟨M.tb,0,none⟩)] wy (aW wy F M.tb qZ XT T' al' kf' (bA k 0 0 x 0 false (.slice none 0 0)))
def sw (M:MSt) (wr:World) (sf:Bool):Prop:=∀ wx,Below wr.heap.size wr wx→Calls Tryz.prog 125 #[.agg #[M.c0,M.c1,M.c2],.pointer (some ⟨M.tb,0,none⟩)] wx fun e w'=>e=.returned (.bool sf)∧Below wx.heap.size wx w'
theorem Ag (h:MS M N wr L st hs T al kf X F XT):∀ q,X.ot.ownBlock=some q→q<wr.heap.size:=fun q hq=>(h.out.lt hq).2
theorem vZ (hM:M.ok) (h:MS M N wr L st hs T al kf X F XT):∃ a0 n0 m0 a1 n1 m1 a2 n2 m2,X.c0=.slice a0 n0 m0∧X.c1=.slice a1 n1 m1∧X.c2=.slice a2 n2 m2:=by
 obtain⟨a0,n0,m0,a1,n1,m1,a2,n2,m2,h0,h1,h2⟩:=hM.s;exact⟨a0,n0,m0,a1,n1,m1,a2,n2,m2,by rw[h.cc.1,h0],by rw[h.cc.2.1,h1],by rw[h.cc.2.2.1,h2]⟩
theorem wW (hM:M.ok) (h:MS M N wr L 0 0 T al kf X F XT) {sf:Bool} (sc:sw M wr sf) (T':Tk) (al':List Alarm) (kf':KF) (sp:DT M F XT T T' al' kf' 0 0) :
  Calls Tryz.prog 102 #[.pointer (some ⟨M.wb,0,none⟩),.int .i64 0] wr fun e w'=>e=.returned (.bool true)∧(∃ X' F' XT',MS M N w' L 0 0 T' al' kf' X' F' XT')∧Fr (fun q=>(M.lo≤q∧q<M.n0)∨N≤q) wr w' :=
 sj wr M.wb X M.kb M.tc M.hb M.hc M.tb false (h.one hM) (vZ hM h) sf (by rw[h.cc.1,h.cc.2.1,h.cc.2.2.1];exact sc) 0 0 0 0 0 false none 0 0 (by decide) (by decide) (Mid M N wr L T' al' kf' X)
  (fun wx hx _ hh=>zF hM h T' al' kf' 0 0 0 0 0 false wx hx hh sp) (fun n w1 w2 h1 hf=>AC hM h.big (Ag h) h1 hf) (fun n wx hm=>by obtain⟨F',XT',h1,_⟩:=hm;exact h1.mach)
  (fun w'=>(∃ X' F' XT',MS M N w' L 0 0 T' al' kf' X' F' XT')∧Fr (fun q=>(M.lo≤q∧q<M.n0)∨N≤q) wr w')
  (fun n wx hm=>(GR wx M.wb 0 0 0 0 false none 0 0).mono fun e w' he=>by
   obtain⟨rfl,hb⟩:=he;obtain⟨F',XT',h1,_,_,_,h5⟩:=hm;exact⟨rfl,⟨X,F',XT',h1.below hb⟩,h5.trans (Fr.of_below hb _) (fun q _ hq=>hq)⟩)
theorem Ji (hM:M.ok) (h:MS M N wr L 0 0 T al kf X F XT) {sf:Bool} (sc:sw M wr sf) (T':Tk) (al':List Alarm) (kf':KF) (x:Int) (sp:DT M F XT T T' al' kf' 2 x) (hL:L.length<500) :
  Calls Tryz.prog 102 #[.pointer (some ⟨M.wb,0,none⟩),.int .i64 0] wr fun e w'=>e=.returned (.bool true)∧(∃ X' F' XT',MS M N w' (L ++ [x]) 0 0 T' al' kf' X' F' XT')∧Fr (fun q=>(M.lo≤q∧q<M.n0)∨N≤q) wr w' :=
 sj wr M.wb X M.kb M.tc M.hb M.hc M.tb false (h.one hM) (vZ hM h) sf (by rw[h.cc.1,h.cc.2.1,h.cc.2.2.1];exact sc) 2 0 0 x 0 false none 0 0 (by decide) (by decide) (Mid M N wr L T' al' kf' X)
  (fun wx hx _ hh=>zF hM h T' al' kf' 2 0 0 x 0 false wx hx hh sp) (fun n w1 w2 h1 hf=>AC hM h.big (Ag h) h1 hf) (fun n wx hm=>by obtain⟨F',XT',h1,_⟩:=hm;exact h1.mach)
  (fun w'=>(∃ X' F' XT',MS M N w' (L ++ [x]) 0 0 T' al' kf' X' F' XT')∧Fr (fun q=>(M.lo≤q∧q<M.n0)∨N≤q) wr w')
  (fun n wx hm=>by
   obtain⟨F',XT',h1,h2,h3,h4,h5⟩:=hm;refine(JS wx M.wb X h1.mach M.B (by have:=hM.b.2;have:=h1.big;omega) hM.b.1 L h1.out hL 0 0 x 0 false none 0 0).mono fun e w' he=>?_
   obtain⟨rfl,v,hw,ho,hf,hfr⟩:=he;have hlt:=hM.lt;have hG:∀ q,(q=M.wb∨X.ot.ownBlock=some q)→q≠M.kb∧q≠M.hb∧¬ M.D q∧¬ M.De q∧¬ F' q:=fun q hq=>by
    rcases hq with rfl | hq
    ·exact⟨hM.ne.1,hM.ne.2.1,fun hd=>(hM.d _ hd).2.1 rfl,fun hd=>(hM.e _ hd).2.1 rfl,fun hd=>(h1.fn _ hd).2.1 rfl⟩
    ·have:=h1.on q hq
     exact⟨this.2.2.1,this.2.2.2.1,this.2.2.2.2.1,this.2.2.2.2.2,fun hd=>(h1.fn q hd).2.2.2.2.2.2 hq⟩
   have hnew:∀ q,v.ownBlock=some q→((M.lo≤q∧q<M.n0)∨N≤q)∧q≠M.wb∧q≠M.kb∧q≠M.hb∧¬ M.D q∧¬ M.De q∧¬ F' q:=fun q hq=>by
    rcases hfr q hq with h6 | h6
    ·have:=h1.on q h6
     exact⟨this.1,this.2.1,this.2.2.1,this.2.2.2.1,this.2.2.2.2.1,this.2.2.2.2.2,fun hd=>(h1.fn q hd).2.2.2.2.2.2 h6⟩
    ·have hb:=h1.big
     exact⟨.inr (by omega),by omega,by omega,by omega,fun hd=>by have:=(hM.d q hd).1;omega,fun hd=>by have:=(hM.e q hd).1;omega,fun hd=>by have:=h1.task.flt q hd;omega⟩
   refine⟨rfl,⟨{ X with ot:=v },F',XT',?_⟩,h5.trans (hf.mono (G:=fun q=>(M.lo≤q∧q<M.n0)∨N≤q) (fun q hq=>?_)) (fun q _ hq=>hq)⟩
   ·exact {
     mach:=hw
     cc:=h1.cc
     tk:=h1.tk
     hd:=h1.hd
     stv:=h1.stv
     out:=ho
     task:=h1.task.fr hf (fun q hq e=>(hG q e).2.2.2.2 hq) (fun q hq e=>by rw[h1.xd] at hq;exact(hG q e).2.2.1 hq)
     alv:=h1.alv
     kfv:=h1.kfv
     xd:=h1.xd
     kbc:=hf.cell h1.kbc (fun e=>(hG _ e).1 rfl)
     hand:=by obtain⟨cs,g1,g2,g3⟩:=h1.hand;exact⟨cs,hf.heap g1 (fun e=>(hG _ e).2.1 rfl),g2,g3⟩
     prg:=h1.prg.fr hf (fun q hq e=>(hG q e).2.2.1 hq)
     ent:=h1.ent.fr hf (fun q hq e=>(hG q e).2.2.2.1 hq)
     fn:=fun q hq=>by have:=h1.fn q hq;exact⟨this.1,this.2.1,this.2.2.1,this.2.2.2.1,this.2.2.2.2.1,this.2.2.2.2.2.1,fun e=>(hnew q e).2.2.2.2.2.2 hq⟩
     on:=fun q hq=>by have:=hnew q hq;exact⟨this.1,this.2.1,this.2.2.1,this.2.2.2.1,this.2.2.2.2.1,this.2.2.2.2.2.1⟩
     big:=⟨h1.big.1,Nat.le_trans h1.big.2 hf.size⟩ }
   ·rcases hq with rfl | hq
    ·exact .inl ⟨hM.lo.1,hlt.1⟩
    ·exact(h1.on q hq).1)
def Fin (M:MSt) (w:World) (L:List Int):Prop:=∃ X,dw w M.wb X∧X.st=1∧Own aG w M.B X.ot L∧dz w M.De M.a M.l
theorem Fin.below {w:World} (h:Fin M w L) (hb:Below w.heap.size w w2):Fin M w2 L:=by
 obtain⟨X,h1,h2,h3,h4⟩:=h;exact⟨X,h1.below hb,h2,h3.below hb,h4.below hb⟩
theorem JK (hM:M.ok) (h:MS M N wr L 0 0 T al kf X F XT) {sf:Bool} (sc:sw M wr sf) (T':Tk) (al':List Alarm) (kf':KF) (sp:DT M F XT T T' al' kf' 10 0) :
  Calls Tryz.prog 102 #[.pointer (some ⟨M.wb,0,none⟩),.int .i64 0] wr fun e w'=>e=.returned (.bool true)∧Fin M w' L∧Fr (fun q=>(M.lo≤q∧q<M.n0)∨N≤q) wr w' :=
 sj wr M.wb X M.kb M.tc M.hb M.hc M.tb false (h.one hM) (vZ hM h) sf (by rw[h.cc.1,h.cc.2.1,h.cc.2.2.1];exact sc) 10 0 0 0 0 false none 0 0 (by decide) (by decide) (Mid M N wr L T' al' kf' X)
  (fun wx hx _ hh=>zF hM h T' al' kf' 10 0 0 0 0 false wx hx hh sp) (fun n w1 w2 h1 hf=>AC hM h.big (Ag h) h1 hf) (fun n wx hm=>by obtain⟨F',XT',h1,_⟩:=hm;exact h1.mach)
  (fun w'=>Fin M w' L∧Fr (fun q=>(M.lo≤q∧q<M.n0)∨N≤q) wr w')
  (fun n wx hm=>by
   obtain⟨F',XT',h1,h2,h3,h4,h5⟩:=hm;obtain⟨cs,g1,g2,g3⟩:=h1.hand;refine(Jg wx M.wb X h1.mach M.hb M.hc h1.hd 0 false cs g1 g2 g3 hM.ne.2.1 0 0 0 0 false none 0 0).mono fun e w' he=>?_
   obtain⟨rfl,hw,hf⟩:=he;have hlt:=hM.lt;refine⟨rfl,⟨{ X with st:=1 },hw,rfl,h1.out.fr hf (fun q hq e=>?_),h1.ent.fr hf (fun q hq e=>?_)⟩,h5.trans (hf.mono (G:=fun q=>(M.lo≤q∧q<M.n0)∨N≤q) (fun q hq=>?_)) (fun q _ hq=>hq)⟩
   ·have:=h1.on q hq
    rcases e with e | e
    ·exact this.2.1 e
    ·exact this.2.2.2.1 e
   ·have:=hM.e q hq
    rcases e with e | e
    ·exact this.2.1 e
    ·exact this.2.2.2 e
   ·rcases hq with rfl | rfl
    ·exact .inl ⟨hM.lo.1,hlt.1⟩
    ·exact .inl ⟨hM.lo.2,hlt.2.2⟩)
end Go.Proofs.YtlofbhoicbemnaaGreatDoor.Tk
namespace Go.Proofs.YtlofbhoicbemnaaGreatDoor.Tk
open Go.ChangeShapes Go.WideShapes Go.ChangeAt Go.RowKit Go.Maps
variable {M:MSt} {N:Nat} {wr w2:World} {L:List Int} {st hs:Int} {T:Tk} {al:List Alarm} {kf:KF} {X:WoD} {F:Nat→Prop} {XT:TB}
def kf0:KF:=fun _=>none
def SM (M:MSt) (N k:Nat) (wr:World):Prop:=match k with
 | 0=>∃ X F XT,MS M N wr [] 0 0 (TZ 0 0) [] kf0 X F XT
 | 1=>∃ X F XT,MS M N wr [] 0 0 (TZ 1 M.v) [] kf0 X F XT
 | 2=>∃ X F XT,MS M N wr [M.v] 0 0 (TZ 2 M.v) [] kf0 X F XT
 | 3=>∃ X F XT,MS M N wr [M.v] 0 0 (TZ 2 M.v) [alZ] kf0 X F XT
 | 4=>∃ X F XT,MS M N wr [M.v] 0 0 (TZ0 M.v) [alZ] (qQ kf0 0) X F XT
 | _=>Fin M wr [M.v]
def stZ (k:Nat):Int:=if k<5 then 0 else 1
theorem rG (hM:M.ok) (pc:Nat) (hpc:pc<3) (x:Int) (h:MS M N wr L st hs (TZ pc x) [] kf X F XT):∃ sf,sw M wr sf:=by
 obtain⟨a0,n0,m0,a1,n1,m1,a2,n2,m2,e0,e1,e2⟩:=hM.s;have hp:=h.prg;rw[e0,e1,e2] at hp;unfold sw;rw[e0,e1,e2];obtain⟨⟨iop,ia,ib,ic⟩,hi⟩:∃ i:Ins,((pZ M.v).funcs[0]'(by show 0<1;decide)).code[pc]'hpc=i:=⟨_,rfl⟩;refine⟨uE iop,fun wx hx=>BZ wx M.tb a0 a1 a2 n0 m0 n1 m1 n2 m2 iop ia ib ic (fun wy hy=>?_)⟩;have hxy:=hx.trans (hy.mono hx.size);exact Jt wy F M.tb qZ (TZ pc x) XT (h.task.below hxy) (by show 1≤1000;decide) (by rw[h.alv];rfl) (by show 1≤10000;decide) (by rw[h.alv];decide) [] ⟨0,pc,0,-1,none,0,0⟩ rfl M.D (fun q hq=>by have:=(hM.d q hq).1;have:=h.big;have:=hxy.size;omega) (pZ M.v) _ _ _ (hp.fr (fb_ hxy) (fun _ _ h=>h)) 0 (by show 0<1;decide) rfl pc rfl hpc ⟨iop,ia,ib,ic⟩ hi
theorem yA (hM:M.ok) (h:MS M N wr L st hs T [alZ] kf X F XT) (hT:T.parts=[]∨iK T.marks [alZ]≠0) (hml:T.marks.length≤10000):∃ sf,sw M wr sf:=by
 obtain⟨a0,n0,m0,a1,n1,m1,a2,n2,m2,e0,e1,e2⟩:=hM.s;unfold sw;rw[e0,e1,e2];refine⟨_,fun wx hx=>Cj wx M.tb a0 a1 a2 n0 m0 n1 m1 n2 m2 (fun wy hy=>?_)⟩;have hxy:=hx.trans (hy.mono hx.size);exact JR wy F M.tb qZ T XT (h.task.below hxy) (by rw[h.alv];exact hT) hml (by rw[h.alv];decide) a0 a1 a2 n0 m0 n1 m1 n2 m2
theorem SM.below {k:Nat} (h:SM M N k wr) (hb:Below wr.heap.size wr w2):SM M N k w2:=by
 unfold SM at *
 split at h
 ·obtain⟨X,F,XT,h⟩:=h;exact⟨X,F,XT,h.below hb⟩
 ·obtain⟨X,F,XT,h⟩:=h;exact⟨X,F,XT,h.below hb⟩
 ·obtain⟨X,F,XT,h⟩:=h;exact⟨X,F,XT,h.below hb⟩
 ·obtain⟨X,F,XT,h⟩:=h;exact⟨X,F,XT,h.below hb⟩
 ·obtain⟨X,F,XT,h⟩:=h;exact⟨X,F,XT,h.below hb⟩
 ·exact h.below hb
theorem SM.ent {k:Nat} (h:SM M N k wr):dz wr M.De M.a M.l:=by
 unfold SM at h
 split at h
 ·obtain⟨X,F,XT,h⟩:=h;exact h.ent
 ·obtain⟨X,F,XT,h⟩:=h;exact h.ent
 ·obtain⟨X,F,XT,h⟩:=h;exact h.ent
 ·obtain⟨X,F,XT,h⟩:=h;exact h.ent
 ·obtain⟨X,F,XT,h⟩:=h;exact h.ent
 ·obtain⟨X,_,_,_,h⟩:=h;exact h
theorem SM.wo {k:Nat} (h:SM M N k wr):∃ X,dw wr M.wb X∧X.st=stZ k:=by
 unfold SM at h
 split at h
 ·obtain⟨X,F,XT,h⟩:=h;exact⟨X,h.mach,h.stv⟩
 ·obtain⟨X,F,XT,h⟩:=h;exact⟨X,h.mach,h.stv⟩
 ·obtain⟨X,F,XT,h⟩:=h;exact⟨X,h.mach,h.stv⟩
 ·obtain⟨X,F,XT,h⟩:=h;exact⟨X,h.mach,h.stv⟩
 ·obtain⟨X,F,XT,h⟩:=h;exact⟨X,h.mach,h.stv⟩
 ·rename_i h0 h1 h2 h3 h4
  obtain⟨X,h5,h6,_⟩:=h;refine⟨X,h5,?_⟩;rw[h6];unfold stZ;rw[if_neg (fun hk=>by
   have h7:k=0∨k=1∨k=2∨k=3∨k=4:=by omega
   rcases h7 with e | e | e | e | e
   ·exact h0 e
   ·exact h1 e
   ·exact h2 e
   ·exact h3 e
   ·exact h4 e)]
theorem SM.go (hM:M.ok) (hv:wrap32 M.v=M.v) {k:Nat} (hk:k<5) (h:SM M N k wr) :
  Calls Tryz.prog 102 #[.pointer (some ⟨M.wb,0,none⟩),.int .i64 0] wr fun e w'=>e=.returned (.bool true)∧SM M N (k+1) w'∧Fr (fun q=>(M.lo≤q∧q<M.n0)∨N≤q) wr w':=by
 have h5:k=0∨k=1∨k=2∨k=3∨k=4:=by omega
 rcases h5 with rfl | rfl | rfl | rfl | rfl
 ·obtain⟨X,F,XT,h⟩:=h
  obtain⟨sf,sc⟩:=rG hM 0 (by decide) 0 h;refine(wW hM h sc (TZ 1 M.v) XT.al XT.kf (fun wy hT hp hd=>Ho M.v hv hT h.alv M.D hd _ _ _ _ hp)).mono fun e w' he=>?_
  obtain⟨e1,⟨X',F',XT',h'⟩,hf⟩:=he;rw[h.alv,h.kfv] at h';exact⟨e1,⟨X',F',XT',h'⟩,hf⟩
 ·obtain⟨X,F,XT,h⟩:=h
  obtain⟨sf,sc⟩:=rG hM 1 (by decide) M.v h;refine(Ji hM h sc (TZ 2 M.v) XT.al XT.kf M.v (fun wy hT hp hd=>IQ M.v hT h.alv M.D hd _ _ _ _ hp) (by decide)).mono fun e w' he=>?_
  obtain⟨e1,⟨X',F',XT',h'⟩,hf⟩:=he;rw[h.alv,h.kfv] at h';exact⟨e1,⟨X',F',XT',h'⟩,hf⟩
 ·obtain⟨X,F,XT,h⟩:=h
  obtain⟨sf,sc⟩:=rG hM 2 (by decide) M.v h;refine(wW hM h sc (TZ 2 M.v) [alZ] XT.kf (fun wy hT hp hd=>IK M.v hT h.alv M.D hd _ _ _ _ hp)).mono fun e w' he=>?_
  obtain⟨e1,⟨X',F',XT',h'⟩,hf⟩:=he;rw[h.kfv] at h';exact⟨e1,⟨X',F',XT',h'⟩,hf⟩
 ·obtain⟨X,F,XT,h⟩:=h
  obtain⟨sf,sc⟩:=yA hM h (.inr (by show iK [⟨false,false,0⟩] [alZ]≠0;decide)) (by show 1≤10000;decide);refine(wW hM h sc (TZ0 M.v) [alZ] (qQ XT.kf 0) (fun wy hT hp hd=>H7 M.v hT h.alv h.kfv M.D hd _ _ _ _ hp)).mono fun e w' he=>?_
  obtain⟨e1,⟨X',F',XT',h'⟩,hf⟩:=he;rw[h.kfv] at h';exact⟨e1,⟨X',F',XT',h'⟩,hf⟩
 ·obtain⟨X,F,XT,h⟩:=h
  obtain⟨sf,sc⟩:=yA hM h (.inl rfl) (by show 0≤10000;decide);exact JK hM h sc (TZ0 M.v) XT.al XT.kf (fun wy hT hp hd=>Ip M.v hT h.alv _ _ _ hM.s _)
theorem SM.big {k:Nat} (hk:k<5) (h:SM M N k wr):M.n0≤N:=by
 have h5:k=0∨k=1∨k=2∨k=3∨k=4:=by omega
 rcases h5 with rfl | rfl | rfl | rfl | rfl <;> (obtain⟨X,F,XT,h⟩:=h;exact h.big.1)
theorem Kw (hM:M.ok) (hv:wrap32 M.v=M.v) (w:World) (hn0:M.n0=w.heap.size) (hall:∀ x ∈ M.l,x=⟨0,0⟩) (hln:M.l.length≤10000) (hl5:5≤M.l.length) (c:Nat) (h0:∃ X F XT,MS M w.heap.size w [] 0 0 (TZ 0 0) [] kf0 X F XT∧(∀ q,F q→M.lo≤q)∧∀ q,X.ot.ownBlock=some q→M.lo≤q) :
  Calls Tryz.prog 85 #[.pointer (some ⟨M.wb,0,none⟩),.slice M.a M.l.length c] w fun e w'=>e=.returned (.int .i64 (vU stZ M.l.length:Nat))∧Fin M w' [M.v]∧Below M.lo w w':=by
 obtain⟨X0,F0,XT0,hms,hFlo,hot⟩:=h0;have hlo:M.lo≤w.heap.size:=by have:=hM.lo.1;have:=hM.lt.1;omega
 refine(Co w M.wb M.a M.l c hall M.De hln (fun N k wr=>SM M N k wr∧Below M.lo w wr) stZ (fun w' hb=>?_) (fun N k wr w' h hb=>⟨h.1.below hb,h.2.trans (hb.mono (Nat.le_trans hlo h.2.size))⟩) (fun N k wr h=>h.1.ent) (fun N k wr h=>h.1.wo) (fun N k hk h0 wr h=>?_) (fun N k hk h0 wr h=>?_)).mono fun e w' he=>?_
 ·have h1:=hms.below hb
  exact⟨⟨X0,F0,XT0,{ h1 with
   fn:=fun q hq=>by have:=h1.fn q hq;exact⟨.inl ⟨hFlo q hq,by have:=hms.task.flt q hq;omega⟩,this.2⟩
   on:=fun q hq=>by have:=h1.on q hq;exact⟨.inl ⟨hot q hq,by have:=(hms.out.lt hq).2;omega⟩,this.2⟩
   big:=⟨by have:=hb.size;omega,Nat.le_refl _⟩ }⟩,hb.mono hlo⟩
 ·rw[← hn0]
  have hk5:k<5:=by
   rcases Nat.lt_or_ge k 5 with h5 | h5
   ·exact h5
   ·unfold stZ at h0;rw[if_neg (by omega)] at h0;cases h0
  have hbig:=h.1.big hk5;refine(h.1.go hM hv hk5).mono fun e w' he=>?_
  obtain⟨e1,e2,e3⟩:=he;have hb2:Below M.lo wr w':=e3.below (Nat.le_trans hlo h.2.size) (fun q hq=>by have:=hM.lo.1;have:=hM.lt.1;rcases hq with hq | hq <;> omega);exact⟨e1,⟨e2,h.2.trans hb2⟩,e3.mono (fun q hq=>by rcases hq with hq | hq;exact .inl hq.2;exact .inr hq)⟩
 ·have hk5:5≤k:=by
   rcases Nat.lt_or_ge k 5 with h5 | h5
   ·unfold stZ at h0;rw[if_pos h5] at h0;exact absurd rfl h0
   ·exact h5
  obtain⟨j,rfl⟩:∃ j,k=j+5:=⟨k - 5,by omega⟩;exact h
 ·obtain⟨he,N,h⟩:=he
  obtain⟨j,hj⟩:∃ j,M.l.length=j+5:=⟨M.l.length - 5,by omega⟩;rw[hj] at h;exact⟨he,h⟩
end Go.Proofs.YtlofbhoicbemnaaGreatDoor.Tk
namespace Go.Proofs.YtlofbhoicbemnaaGreatDoor.Tk
open Go.ChangeShapes Go.WideShapes Go.ChangeAt Go.RowKit Go.Maps
theorem Av {P:Program} {α:Type} {E:Elem P α} {w:World} {B g n c:Nat} {l:List α} (h:Own E w B (.slice (some ⟨g,0,none⟩) n c) l):∃ cs:Array Value,w.heap[g]?=some (.cells cs E.e)∧∀ (j:Nat) (u:Value),(l.flatMap E.enc)[j]?=some u→cs[j]?=some u:=by
 have hc:=World.ownsRow.cells (g:=g) h rfl
 rcases h.2 with⟨h1,_⟩ | ⟨g',cap,cur,e,_,hh,_⟩
 ·cases h1
 ·injection e with e1
  injection e1 with e1
  injection e1 with e1
  subst e1;refine⟨cur,hh,fun j u hj=>?_⟩;have h1:=hc j u hj;rw[← (aa hh j).1];have h2:(⟨g,0,none⟩:Addr).add j=⟨g,j,none⟩:=by rw[addr_add _ rfl];simp
  rw[h2] at h1;exact h1
theorem kP.below {v:Int} {w w' w2:World} {e:Ending} (hp:kP v w e w') (hb2:Below w'.heap.size w' w2):kP v w e w2:=by
 obtain⟨wb,X,D,tb,F,XT,kb,tc,hb,hc,he,hwo,hot,hst,htk,hhd,ho1,ho2,hT,hXn,hXD,hprg,hD,hF,hkh,hwk,hwh,hwb,hB⟩:=hp;exact⟨wb,X,D,tb,F,XT,kb,tc,hb,hc,he,hwo.below hb2,hot,hst,htk,hhd,ho1.below hb2,ho2.below hb2,hT.below hb2,hXn,hXD,hprg.fr (fb_ hb2) (fun _ _ h=>h),fun k hk=>by have h1:=hD k hk;exact⟨h1.1,Nat.lt_of_lt_of_le h1.2.1 hb2.size,h1.2.2⟩,hF,hkh,hwk,hwh,hwb,hB.trans (hb2.mono hB.size)⟩
theorem JD (v:Int) (w w':World) (e:Ending) (hp:kP v w e w') (a:Option Addr) (l:List Ent) (De:Nat→Prop) (hent:dz w De a l) (hDe:∀ q,De q→q<w.heap.size) :
  ∃ M:MSt,e=.returned (.tuple #[.pointer (some ⟨M.wb,0,none⟩),.int .i64 0,.agg #[.int .i64 0,.int .i64 0]])∧M.ok∧M.v=v∧M.a=a∧M.l=l∧M.n0=w'.heap.size∧M.B=w'.heap.size∧M.De=De∧M.lo=w.heap.size∧Below w.heap.size w w' ∧
   ∃ X F XT,MS M w'.heap.size w' [] 0 0 (TZ 0 0) [] kf0 X F XT∧(∀ q,F q→M.lo≤q)∧∀ q,X.ot.ownBlock=some q→M.lo≤q:=by
 obtain⟨wb,X,D,tb,F,XT,kb,tc,hb,hc,he,hwo,hot,hst,htk,hhd,ho1,ho2,hT,hXn,hXD,hprg,hD,hF,hkh,hwk,hwh,hwb,hB⟩:=hp;have hkb:=World.ownsRow.lt ho1 kb (by rw[htk];rfl);have hhb:=World.ownsRow.lt ho2 hb (by rw[hhd];rfl);have hwlt:=hwo.lt;refine⟨⟨wb,kb,tc,hb,hc,tb,D,De,X.c0,X.c1,X.c2,X.mb,v,a,l,w'.heap.size,w'.heap.size,w.heap.size⟩,he,⟨⟨hwlt,hkb.2,hhb.2⟩,⟨hwb,hhb.1⟩,⟨hwk,hwh,hkh⟩,fun q hq=>?_,fun q hq=>?_,⟨hwlt,Nat.le_refl _⟩,?_⟩,rfl,rfl,rfl,rfl,rfl,rfl,rfl,hB,X,F,XT,?_,fun q hq=>(hF q hq).1,fun q hq=>by rw[hot] at hq;cases hq⟩
 ·have:=hD q hq;exact⟨this.2.1,this.2.2⟩
 ·have h1:=hDe q hq;have h2:=hB.size;exact⟨show q<w'.heap.size by omega,show q≠wb by omega,show q≠kb by omega,show q≠hb by omega⟩
 ·obtain⟨⟨a0,m0,e0,_⟩,⟨a1,m1,e1,_⟩,a2,m2,e2,_⟩:=hprg
  exact⟨a0,_,m0,a1,_,m1,a2,_,m2,e0,e1,e2⟩
 ·rw[htk] at ho1
  rw[hhd] at ho2;obtain⟨c1,h11,h12⟩:=Av ho1;obtain⟨c2,h21,h22⟩:=Av ho2;exact {
   mach:=hwo
   cc:=⟨rfl,rfl,rfl,rfl⟩
   tk:=htk
   hd:=hhd
   stv:=hst
   out:=by rw[hot];exact Own.nil _ _ _
   task:=hT
   alv:=hXn.1
   kfv:=hXn.2.1
   xd:=hXD
   kbc:=by rw[(aa h11 0).1];exact h12 0 _ rfl
   hand:=⟨c2,h21,h22 0 _ rfl,h22 1 _ rfl⟩
   prg:=hprg
   ent:=hent.below' hB
   fn:=fun q hq=>by
    have h1:=hF q hq;have h2:=hT.flt q hq;refine⟨Or.inl ⟨h1.1,h2⟩,h1.2.1,h1.2.2.1,h1.2.2.2,fun h=>?_,fun h=>?_,fun h=>?_⟩
    ·exact(hT.out q (by rw[hXD];exact h)).1 hq
    ·have h1:=h1.1;have:=hDe q h;omega
    ·rw[hot] at h;cases h
   on:=fun q hq=>by rw[hot] at hq;cases hq
   big:=⟨Nat.le_refl _,Nat.le_refl _⟩ }
end Go.Proofs.YtlofbhoicbemnaaGreatDoor.Tk
