/- The bytes of a program: whether they may be laid, told list by list; how much bytes can hold. Nothing of the program's text stands here. .. -/
import Derived.Test.YtlofbhoicbemnaaGreatDoorGAi
import Derived.BigRegion
import Derived.Deep.CutBlock
import Derived.Deep.DeepCutAuto
set_option linter.unusedVariables false
set_option linter.unusedSimpArgs false
set_option maxRecDepth 100000
set_option maxHeartbeats 3200000
namespace Go.Proofs.YtlofbhoicbemnaaGreatDoor
theorem iB (s:List Int × Bool) (l:List Int):(bY s l).2=(s.2 || gZ l):=rfl
theorem oQ (n:Nat):gZ [(n:Int)]=!decide (n≤255):=by
 have h1:decide ((n:Int)<0)=false:=decide_eq_false (by omega);have h2:decide ((255:Int)<(n:Int))=!decide (n≤255):=by
  by_cases h:n≤255
  ·rw[decide_eq_true h];exact decide_eq_false (by omega)
  ·rw[decide_eq_false h];exact decide_eq_true (by omega)
 unfold gZ;simp only[List.any_cons,List.any_nil,h1,h2,Bool.or_false,Bool.false_or]
theorem kG (s:List Int × Bool) (l:List Int):(bH s l).2=(s.2 || !dA l):=by
 unfold bH dA;rw[iB,iB,oQ]
 cases s.2 <;> cases decide (l.length≤255) <;> cases gZ l <;> rfl
theorem AA (ls:List (List Int)):∀ s,(ls.foldl bH s).2=(s.2 || !ls.all dA):=by
 induction ls with
 | nil=>intro s;simp
 | cons x ls ih =>
   intro s;rw[List.foldl_cons,ih,kG,List.all_cons]
   cases s.2 <;> cases dA x <;> cases ls.all dA <;> rfl
def jC (f:Fun):Bool:=dA f.args && dA f.objects && laid f.code && decide (0≤f.result) && decide (f.result≤255) && decide (0≤f.slots) && decide (f.slots≤255) && decide (f.code.length≤255)
theorem Fj (a b:Int):gZ [a,b]=!(decide (0≤a) && decide (a≤255) && decide (0≤b) && decide (b≤255)):=by
 have h:∀ x:Int,(decide (x<0) || decide (255<x))=!(decide (0≤x) && decide (x≤255)):=fun x=>by
  by_cases h1:0≤x
  ·by_cases h2:x≤255
   ·rw[decide_eq_true h1,decide_eq_true h2,decide_eq_false (by omega:¬ x<0),decide_eq_false (by omega:¬ 255<x)];rfl
   ·rw[decide_eq_true h1,decide_eq_false h2,decide_eq_false (by omega:¬ x<0),decide_eq_true (by omega:255<x)];rfl
  ·rw[decide_eq_false h1,decide_eq_true (by omega:x<0)];rfl
 unfold gZ;simp only[List.any_cons,List.any_nil,h,Bool.or_false]
 cases decide (0≤a) <;> cases decide (a≤255) <;> cases decide (0≤b) <;> cases decide (b≤255) <;> rfl
theorem Gh (s:List Int × Bool) (f:Fun):(wFn s f).2=(s.2 || !jC f):=by
 have:(wFn s f).2=((bY (bH (bY (bH s f.args) [f.result,f.slots]) f.objects) [(f.code.length:Int)]).2 || !laid f.code):=rfl;rw[this,iB,kG,iB,kG,oQ,Fj];unfold jC
 cases s.2 <;> cases dA f.args <;> cases dA f.objects <;> cases laid f.code <;> cases decide (0≤f.result) <;> cases decide (f.result≤255) <;> cases decide (0≤f.slots) <;> cases decide (f.slots≤255) <;> cases decide (f.code.length≤255) <;> rfl
theorem zG (fs:List Fun):∀ s,(fs.foldl wFn s).2=(s.2 || !fs.all jC):=by
 induction fs with
 | nil=>intro s;simp
 | cons x fs ih =>
   intro s;rw[List.foldl_cons,ih,Gh,List.all_cons]
   cases s.2 <;> cases jC x <;> cases fs.all jC <;> rfl
def okS (p:Prg) (k:Nat):Bool:=dA p.globals && decide (p.shapes.length≤255) && decide (p.funcs.length≤255) && (p.shapes.take k).all dA
def xe (p:Prg) (k:Nat):List Int:=jB p.globals ++ [(p.shapes.length:Int)] ++ (p.shapes.take k).flatMap jB
def pY (p:Prg) (k:Nat):Bool:=okS p p.shapes.length && (p.funcs.take k).all jC
def yF (p:Prg) (k:Nat):List Int:=xe p p.shapes.length ++ [(p.funcs.length:Int)] ++ (p.funcs.take k).flatMap nT
theorem EI (p:Prg) (k:Nat) (hk:k<p.shapes.length):okS p (k+1)=(okS p k && dA p.shapes[k]):=by
 unfold okS;rw[aK _ k hk,List.all_append]
 simp[Bool.and_assoc]
theorem Dv (p:Prg) (k:Nat) (hk:k<p.shapes.length):xe p (k+1)=xe p k ++ jB p.shapes[k]:=by
 unfold xe;rw[aK _ k hk,List.flatMap_append]
 simp
theorem BD (p:Prg) (k:Nat) (hk:k<p.funcs.length):pY p (k+1)=(pY p k && jC p.funcs[k]):=by
 unfold pY;rw[aK _ k hk,List.all_append]
 simp[Bool.and_assoc]
theorem BB (p:Prg) (k:Nat) (hk:k<p.funcs.length):yF p (k+1)=yF p k ++ nT p.funcs[k]:=by
 unfold yF;rw[aK _ k hk,List.flatMap_append]
 simp
theorem Ey (p:Prg) (k n:Nat) (hk:k≤n) (h:okS p k=false):okS p n=false:=by
 cases hn:okS p n
 ·rfl
 ·unfold okS at h hn
  simp only[Bool.and_eq_true] at hn;rw[hn.1.1.1,hn.1.1.2,hn.1.2] at h;have h3:(p.shapes.take k).all dA=true:=by
   rw[List.all_eq_true] at hn ⊢;exact fun x hx=>hn.2 x (List.mem_of_mem_take (show x ∈ (p.shapes.take n).take k by rw[List.take_take,Nat.min_eq_left hk];exact hx))
  rw[h3] at h
  cases h
theorem CX (p:Prg) (k n:Nat) (hk:k≤n) (h:pY p k=false):pY p n=false:=by
 cases hn:pY p n
 ·rfl
 ·unfold pY at h hn
  simp only[Bool.and_eq_true] at hn;rw[hn.1] at h;have h3:(p.funcs.take k).all jC=true:=by
   rw[List.all_eq_true] at hn ⊢;exact fun x hx=>hn.2 x (List.mem_of_mem_take (show x ∈ (p.funcs.take n).take k by rw[List.take_take,Nat.min_eq_left hk];exact hx))
  rw[h3] at h
  cases h
theorem Ce (p:Prg):pY p 0=okS p p.shapes.length:=by unfold pY;simp
def vM (p:Prg):Bool:=pY p p.funcs.length
theorem Fz (p:Prg):yF p p.funcs.length=nW p:=by
 unfold yF xe nW;rw[List.take_length,List.take_length]
theorem kM (p:Prg):(gP p).2=!vM p:=by
 unfold gP qK nJ vM pY okS;rw[zG,iB,AA,iB,kG,oQ,oQ,List.take_length,List.take_length]
 cases dA p.globals <;> cases decide (p.shapes.length≤255) <;> cases decide (p.funcs.length≤255) <;> cases p.shapes.all dA <;> cases p.funcs.all jC <;> rfl
theorem jy (a b:List Int):ah a ++ ah b=ah (a ++ b):=by
 apply ByteArray.ext
 unfold ah
 simp
theorem DC (l:List Int) (h:dA l=true):okB l∧l.length≤255:=by
 unfold dA at h;simp only[Bool.and_eq_true,Bool.not_eq_true',decide_eq_true_eq] at h;exact⟨Fa l h.2,h.1⟩
open Go.ChangeShapes Go.WideShapes Go.ChangeAt Go.RowKit
def eZ (w:World) (p:Nat) (s:RS):Prop:=w.heap[p]?=some (.cells #[.string s.1,.bool s.2] 142)
theorem eZ.fr {F:Nat→Prop} {w w':World} {p:Nat} {s:RS} (h:eZ w p s) (hf:Fr F w w') (hn:¬ F p):eZ w' p s:=hf.heap h hn
theorem eZ.alloc {w:World} {p:Nat} {s:RS} (h:eZ w p s) (o:Obj):eZ (w.alloc o) p s:=by
 unfold eZ;rw[Below.heap_alloc _ _ _ (aj h)];exact h
theorem wG {w:World} {p:Nat} {x y u:Value} {t:TypeId} (h:w.heap[p]?=some (.cells #[x,y] t)):(w.setCell ⟨p,0,none⟩ u).heap[p]?=some (.cells #[u,y] t):=ag h 0 u
theorem H9 {w:World} {p:Nat} {x y u:Value} {t:TypeId} (h:w.heap[p]?=some (.cells #[x,y] t)):(w.setCell ⟨p,1,none⟩ u).heap[p]?=some (.cells #[x,u] t):=ag h 1 u
theorem nN {w:World} {p:Nat} {x y:Value} {t:TypeId} (h:w.heap[p]?=some (.cells #[x,y] t)):w.cell? ⟨p,0,none⟩=some x∧w.cell? ⟨p,1,none⟩=some y∧w.frozen? ⟨p,0,none⟩=false∧w.frozen? ⟨p,1,none⟩=false :=
 ⟨(aa h 0).1,(aa h 1).1,(aa h 0).2,(aa h 1).2⟩
theorem yE (b:ByteArray) (h:b.size<1):b=⟨#[]⟩:=by
 obtain⟨⟨l⟩⟩:=b
 cases l with
 | nil=>rfl
 | cons x l=>simp[ByteArray.size] at h
theorem iq (w:World) (p:Nat) (s:RS) (hr:eZ w p s) (hs:s.1.size≤1000000) :
  Calls Tryz.prog 82 #[.pointer (some ⟨p,0,none⟩)] w fun e w'=>e=.returned (.int .i64 (aC s).1)∧eZ w' p (aC s).2∧Fr (onB p) w w':=by
 obtain⟨b,bad⟩:=s;obtain⟨q0,q1,q2,q3⟩:=nN (show _=some (Obj.cells #[.string b,.bool bad] 142) from hr)
 dsimp only at hs
 by_cases h:b.size<1
 ·have e2:aC (b,bad)=(0,(⟨#[]⟩,true)):=by unfold aC;rw[if_pos h]
  rw[e2];have hb:=yE b h;have h0:b.size=0:=by omega
  have hp:eZ (w.setCell ⟨p,1,none⟩ (.bool true)) p (⟨#[]⟩,true)∧Fr (onB p) w (w.setCell ⟨p,1,none⟩ (.bool true)):=by
   refine⟨?_,(Fr.refl (onB p) w).setCell (p:=⟨p,1,none⟩) (fun _=>rfl) _⟩;rw[← hb];exact H9 hr
  clear e2 hr hb h;have HP:=k_ hp;clear hp
  go_enter Tryz.func82,Tryz.ntmps82
  go_wp2_with fail
  go_ret
  exact⟨rfl,HP.out⟩
 ·have e2:aC (b,bad)=(gb b 0,(b.extract 1 b.size,bad)):=by unfold aC;rw[if_neg h]
  rw[e2];have h0:0<b.size:=by omega
  have h1:1≤b.size:=by omega
  have hz:((b.size:Int) == 0)=false:=by rw[beq_eq_false_iff_ne];omega
  have hg:=fV b 0 h0;have hbd:=fM b 0;have hp:eZ (w.setCell ⟨p,0,none⟩ (.string (b.extract 1 b.size))) p (b.extract 1 b.size,bad)∧Fr (onB p) w (w.setCell ⟨p,0,none⟩ (.string (b.extract 1 b.size))) :=
   ⟨wG hr,(Fr.refl (onB p) w).setCell (p:=⟨p,0,none⟩) (fun _=>rfl) _⟩
  generalize gb b 0=x at *;clear e2 hr h;have HP:=k_ hp;clear hp
  go_enter Tryz.func82,Tryz.ntmps82
  go_wp2_with fail
  go_ret
  exact⟨rfl,HP.out⟩
theorem cZ (s:RS) (h:s.2=true):(aC s).2.2=true:=by
 unfold aC;split
 ·rfl
 ·exact h
theorem Au (s:RS) (n:Nat) (h:s.2=true):(bC s n).2.2=true:=by
 induction n with
 | zero=>exact h
 | succ n ih=>exact cZ _ ih
theorem wY (s:RS) (k n:Nat) (hk:k≤n) (h:(bC s k).2.2=true):(bC s n).2.2=true:=by
 induction n with
 | zero =>
   have:k=0:=by omega
   rw[this] at h;exact h
 | succ n ih =>
   by_cases e:k=n+1
   ·rw[← e];exact h
   ·exact cZ _ (ih (by omega))
theorem kV (s:RS) (h:s.2=true):(aF s).2.2=true:=Au _ _ (cZ s h)
def Emp (s:RS):Prop:=s.2=true→s.1=⟨#[]⟩
theorem gV {s:RS} (h:Emp s):Emp (aC s).2:=by
 intro hb;unfold aC at hb ⊢
 by_cases hn:s.1.size<1
 ·rw[if_pos hn]
 ·rw[if_neg hn] at hb
  have h2:=h hb;rw[h2] at hn;exact absurd (by decide) hn
theorem uF {s:RS} (h:Emp s) (hb:s.2=true):(aC s).2=s:=by
 obtain⟨b,t⟩:=s;have hb:t=true:=hb;subst hb;have h2:b=⟨#[]⟩:=h rfl;subst h2
 rfl
theorem vg {s:RS} (h:Emp s) (n:Nat):Emp (bC s n).2:=by
 induction n with
 | zero=>exact h
 | succ n ih=>exact gV ih
theorem tQ {s:RS} (h:Emp s) (k n:Nat) (hk:k≤n) (hb:(bC s k).2.2=true):(bC s n).2=(bC s k).2:=by
 induction n with
 | zero =>
   have:k=0:=by omega
   rw[this]
 | succ n ih =>
   by_cases e:k=n+1
   ·rw[← e]
   ·have h1:=ih (by omega)
    show (aC (bC s n).2).2=_
    rw[h1];exact uF (vg h k) hb
theorem mM {s:RS} (h:Emp s):Emp (aF s).2:=vg (gV h) _
theorem zw {s:RS} (h:Emp s) (hb:s.2=true):(aF s).2=s:=by
 have h1:(bC (aC s).2 (aC s).1.toNat).2=(bC (aC s).2 0).2:=tQ (gV h) 0 _ (Nat.zero_le _) (cZ s hb);exact h1.trans (uF h hb)
def iy (w:World) (p:Nat) (s:RS) (e:Ending) (w':World):Prop :=
 ∃ v l,e=.returned v∧Own aG w' w.heap.size v l∧eZ w' p (aF s).2∧Fr (onB p) w w'∧l.length≤255∧(l=(aF s).1∨(aF s).2.2=true)
theorem kN (w:World) (p:Nat) (s:RS) (hr:eZ w p s) (hs:s.1.size≤1000000) (he:Emp s) :
  Calls Tryz.prog 81 #[.pointer (some ⟨p,0,none⟩)] w (iy w p s):=by
 have hpl:=aj hr;have n1:=iq w p s hr hs;have n2:=fun w1 k (h:eZ w1 p (bC (aC s).2 k).2)=>iq w1 p (bC (aC s).2 k).2 h (Nat.le_trans (nM _ _) (Nat.le_trans (bM _) hs))
 have hl:aF s=bC (aC s).2 (aC s).1.toNat:=rfl;have hsz:=bM s;have hbd:=jP s;have hem:=gV he;clear he;generalize hg:aC s=t at *;obtain⟨x,s1⟩:=t
 dsimp only at n1 n2 hbd hl hsz hem
 clear hg hr;obtain⟨n,rfl⟩:=Int.eq_ofNat_of_zero_le hbd.1;rw[Int.toNat_natCast] at hl;have hn:n<256:=by omega
 clear hbd hs;have N1:=k_ n1;clear n1;have N2:=k_ n2;clear n2;have HL:=k_ hl;clear hl;have HSZ:=k_ hsz;clear hsz;have HEM:=k_ hem;clear hem
 go_enter Tryz.func81,Tryz.ntmps81
 go_wp2_with fail;refine N1.out.mono ?_;rintro e w1 ⟨rfl,hr1,hf1⟩;have HR1:=k_ hr1;clear hr1;have HF1:=k_ hf1;clear hf1;go_wp2_with fail
 go_loopw [3,5] (fun v i wr=>∃ k:Nat,k≤n∧i=.int .i64 k∧Own aG wr w.heap.size v (bC s1 k).1∧eZ wr p (bC s1 k).2∧Fr (onB p) w wr) (fun _ i _=>n - (intOf i).toNat)
 case atStart=>exact⟨0,Nat.zero_le _,rfl,Own.nil _ _ _,HR1.out,HF1.out⟩
 case round =>
  obtain⟨k,hk,rfl,hown,hr2,hf2⟩:=hrel;obtain⟨q0,q1,_,_⟩:=nN (show _=some (Obj.cells #[.string (bC s1 k).2.1,.bool (bC s1 k).2.2] 142) from hr2);have hlk:=uW s1 k
  by_cases hlt:k<n
  ·cases hbad:(bC s1 k).2.2
   ·rw[hbad] at q1
    have hc:=N2.out _ k hr2;clear hbad;have HC:=k_ hc;clear hc;have HOWN:=k_ hown;clear hown;have HR2:=k_ hr2;clear hr2;have HF2:=k_ hf2;clear hf2;go_wp2_with fail;refine HC.out.mono ?_;rintro e w3 ⟨rfl,hr3,hf3⟩;have hf4:=HF2.out.trans hf3 (fun _ _ h=>h);have hown3:=HOWN.out.fr hf3 (fun m hm=>by have:=(HOWN.out.lt hm).1;unfold onB;omega);have hsn:bC s1 (k+1)=((bC s1 k).1 ++ [(aC (bC s1 k).2).1],(aC (bC s1 k).2).2):=rfl;clear q0 q1;generalize bC s1 k=t at *;obtain⟨l,s2⟩:=t
    dsimp only at hsn hown3 hr3 hlk
    generalize aC s2=t at *;obtain⟨y,s3⟩:=t
    dsimp only at hsn hr3
    have HR3:=k_ hr3;clear hr3;have HF4:=k_ hf4;clear hf4;have HOWN3:=k_ hown3;clear hown3;have HSN:=k_ hsn;clear hsn;clear hf3
    go_wp2_with (at_builtin;refine bE aG rfl (.tmp 20) (.tmp 23) rfl w.heap.size l [y] _ rfl (HOWN3.out.alloc _) w3.heap.size 0 1 rfl (aA.new _ _ _ _) ?c1 ?c2 ?_)
    case c1=>simp;omega
    case c2=>have:=HF4.out.size;simp;omega
    intro v4 w4 hown4 hg4 _;have hr4:eZ w4 p s3:=by
     have h1:=HR3.out.alloc (.cells #[.int .i64 y] 3);unfold eZ at h1 ⊢;rw[hg4.block p (aj h1) (fun e=>by have:=(HOWN3.out.lt e.symm).1;omega)];exact h1
    have hf5:=(HF4.out.alloc _).grown hg4 (fun m hm hlt'=>by have:=(HOWN3.out.lt hm).1;omega);obtain⟨a4,n4,c4,rfl⟩:=hown4.slice;have HOWN4:=k_ hown4;clear hown4;have HR4:=k_ hr4;clear hr4;have HF5:=k_ hf5;clear hf5;clear hg4;go_wp2_with fail
    go_roundw
    case rel =>
     refine⟨k+1,by omega,by go_num,?_,?_,HF5.out⟩
     ·rw[HSN.out];exact HOWN4.out
     ·rw[HSN.out];exact HR4.out
    case measure=>simp[intOf];omega
   ·rw[hbad] at q1
    have hP:∀ v,Own aG wr w.heap.size v (bC s1 k).1→iy w p s (.returned v) wr:=fun v hv=>⟨v,_,rfl,hv,by rw[HL.out,tQ HEM.out k n hk hbad];exact hr2,hf2,by omega,.inr (by rw[HL.out];exact wY s1 k n hk hbad)⟩
    have HP:=k_ (hP _ hown);clear hP hown hr2 hf2 hbad hlk;go_wp2_with fail
    go_ret
    exact HP.out
  ·have hk':k=n:=by omega
   subst hk';have hP:∀ v,Own aG wr w.heap.size v (bC s1 k).1→iy w p s (.returned v) wr:=fun v hv=>⟨v,_,rfl,hv,by rw[HL.out];exact hr2,hf2,by omega,.inl (by rw[HL.out])⟩
   have HP:=k_ (hP _ hown);clear hP hown hr2 hf2 hlk q0 q1;go_wp2_with fail
   go_ret
   exact HP.out
theorem gH {w:World} {q:Nat} {x0 x1 x2 x3:Value} {t:TypeId} (h:w.heap[q]?=some (.cells #[x0,x1,x2,x3] t)) :
  (w.cell? ⟨q,0,none⟩=some x0∧w.cell? ⟨q,1,none⟩=some x1∧w.cell? ⟨q,2,none⟩=some x2∧w.cell? ⟨q,3,none⟩=some x3)∧w.frozen? ⟨q,0,none⟩=false∧w.frozen? ⟨q,1,none⟩=false∧w.frozen? ⟨q,2,none⟩=false∧w.frozen? ⟨q,3,none⟩=false :=
 ⟨⟨(aa h 0).1,(aa h 1).1,(aa h 2).1,(aa h 3).1⟩,(aa h 0).2,(aa h 1).2,(aa h 2).2,(aa h 3).2⟩
theorem uj (b:ByteArray) (w:World) (hb:b.size≤1000000) :
  Calls Tryz.prog 83 #[.string b] w (jk b w):=by
 by_cases h7:b.size % 7=0
 case neg =>
  have h7':((b.size:Int) % 7 != 0)=true:=by rw[bne_iff_ne];omega
  have hok:bV b=false:=by
   unfold bV;rw[show (b.size % 7 == 0)=false from by simpa using h7,Bool.false_and]
  have hP:jk b w (.returned (.tuple #[.slice none 0 0,.bool false])) w:=⟨_,by rw[hok],by unfold eQ;rw[hok];exact Own.nil _ _ _,Below.refl _ _⟩;clear hok h7;have HP:=k_ hP;clear hP
  go_enter Tryz.func83,Tryz.ntmps83
  go_wp2_with fail
  go_ret2
  exact HP.out
 have h7':((b.size:Int) % 7 != 0)=false:=by rw[bne_eq_false_iff_eq];omega
 go_enter Tryz.func83,Tryz.ntmps83
 go_wp2_with fail;clear h7'
 go_loopw [4,5] (fun v i wr=>∃ at_ k:Nat,at_=7 * k∧at_≤b.size∧i=.int .i64 at_∧Own ig wr w.heap.size v (eP b k)∧Below w.heap.size w wr∧(eP b k).all cB=true) (fun _ i _=>b.size - (intOf i).toNat)
 case atStart=>exact⟨0,0,rfl,Nat.zero_le _,rfl,Own.nil _ _ _,Below.refl _ _,rfl⟩
 case round =>
  obtain⟨at_,k,hak,hle,rfl,hown,hB,hall⟩:=hrel
  by_cases hlt:at_<b.size
  ·have h7le:at_+7≤b.size:=by omega
   obtain⟨hs4,hg4⟩:=J8 b at_ h7le;have hrw:=uL (b.extract (at_+3) (at_+7)) hs4;rw[hg4 0 (by omega),hg4 1 (by omega),hg4 2 (by omega),hg4 3 (by omega)] at hrw;have l1:at_+1<b.size:=by omega
   have l2:at_+2<b.size:=by omega
   have g0:=fV b at_ hlt;have g1:=fV b (at_+1) l1;have g2:=fV b (at_+2) l2;have hx:nA b at_=⟨gb b at_,gb b (at_+1),iN (gb b (at_+3+0)) (gb b (at_+3+1)) (gb b (at_+3+2)) (gb b (at_+3+3)),gb b (at_+2)⟩:=rfl;generalize iN (gb b (at_+3+0)) (gb b (at_+3+1)) (gb b (at_+3+2)) (gb b (at_+3+3))=xb at *;have hbd0:=fM b at_;have hbd1:=fM b (at_+1);have hbd2:=fM b (at_+2);clear hg4 hs4;have hrr:=Ev b at_;rw[hx] at hrr;have kn:=fun w=>tV w (gb b at_)
   unfold kK at kn;have un:∀ w,Calls Tryz.prog 76 #[.agg #[.int .i64 (gb b at_),.int .i64 (gb b (at_+1)),.int .i64 xb,.int .i64 (gb b (at_+2))]] w fun e w'=>e=.returned (.bool (jb ⟨gb b at_,gb b (at_+1),xb,gb b (at_+2)⟩))∧Below w.heap.size w w':=rY ⟨gb b at_,gb b (at_+1),xb,gb b (at_+2)⟩
   generalize gb b at_=xop at *;generalize gb b (at_+1)=xa at *;generalize gb b (at_+2)=xc at *;generalize jb ⟨xop,xa,xb,xc⟩=ub at *;generalize dh xop=kb at *;have hno:(kb && ub)=false→bV b=false:=fun h=>vw b k (by rw[← hak];exact hlt) h7 (by rw[← hak,hx,hrr];exact h)
   have HAK:=k_ hak;clear hak;have HALL:=k_ hall;clear hall;have HRW:=k_ hrw;clear hrw;have KN:=k_ kn;clear kn;have UN:=k_ un;clear un;have HX:=k_ hx;clear hx;have HRR:=k_ hrr;clear hrr;have HNO:=k_ hno;clear hno;have HOWN:=k_ hown;clear hown;have HB:=k_ hB;clear hB;have n1:(0:Int)≤(at_:Int)+1:=by omega
   have n2:(0:Int)≤(at_:Int)+2:=by omega
   have n3:(0:Int)≤(at_:Int)+3:=by omega
   have n7:(0:Int)≤(at_:Int)+7:=by omega
   have m0:(at_:Int)<b.size:=by omega
   have m1:(at_:Int)+1<b.size:=by omega
   have m2:(at_:Int)+2<b.size:=by omega
   have m3:(at_:Int)+3≤(at_:Int)+7:=by omega
   have m7:(at_:Int)+7≤b.size:=by omega
   have ix0:IntKind.i64.wrap xop=xop:=IntWalk.i64_in _ (by omega);have ix1:IntKind.i64.wrap xa=xa:=IntWalk.i64_in _ (by omega);have ix2:IntKind.i64.wrap xc=xc:=IntWalk.i64_in _ (by omega);have t1:((at_:Int)+1).toNat=at_+1:=by omega
   have t2:((at_:Int)+2).toNat=at_+2:=by omega
   have t3:((at_:Int)+3).toNat=at_+3:=by omega
   have t7:((at_:Int)+7).toNat=at_+7:=by omega
   have i1:IntKind.i64.wrap ((at_:Int)+1)=(at_:Int)+1:=IntWalk.i64_in _ (by omega);have i2:IntKind.i64.wrap ((at_:Int)+2)=(at_:Int)+2:=IntWalk.i64_in _ (by omega);have i3:IntKind.i64.wrap ((at_:Int)+3)=(at_:Int)+3:=IntWalk.i64_in _ (by omega);have i7:IntKind.i64.wrap ((at_:Int)+7)=(at_:Int)+7:=IntWalk.i64_in _ (by omega)
   go_upto_region 7 with fail
   go_cut [6] (fun o wx=>∃ y:Nat,o=.pointer (some ⟨y,0,none⟩)∧wr.heap.size≤y∧(wx.cell? ⟨y,0,none⟩=some (.int .i64 xop)∧wx.cell? ⟨y,1,none⟩=some (.int .i64 xa)∧wx.cell? ⟨y,2,none⟩=some (.int .i64 xb)∧wx.cell? ⟨y,3,none⟩=some (.int .i64 xc))∧Below wr.heap.size wr wx)
   case first =>
    refine wp_region_noPanic ?_;refine wp_region_any (by kernel_rfl) ?_
    change wpAny _ _ _ _ _ _ _ (World.drew _)
    refine wpAny_take (i:=0) (v:=?_) rfl (by kernel_rfl) (by kernel_rfl) (by kernel_rfl) (fun _ _ _ h=>h) (Or.inl ⟨by rfl,?tk0⟩) ?_
    case tk0=>(intro w;go_simp;try with_reducible rfl)
    refine wpAny_take (i:=1) (v:=?_) rfl (by kernel_rfl) (by kernel_rfl) (by kernel_rfl) (fun _ _ _ h=>h) (Or.inl ⟨by rfl,?tk1⟩) ?_
    case tk1=>(intro w;go_simp;try with_reducible rfl)
    refine wpAny_take (i:=2) (v:=?_) rfl (by kernel_rfl) (by kernel_rfl) (by kernel_rfl) (fun _ _ _ h=>h) (Or.inl ⟨by rfl,?tk2⟩) ?_
    case tk2=>(intro w;go_simp;try with_reducible rfl)
    refine wpAny_take (i:=3) (v:=?_) rfl (by kernel_rfl) (by kernel_rfl) (by kernel_rfl) (fun _ _ _ h=>h) (Or.inl ⟨by rfl,?tk3⟩) ?_
    case tk3=>(intro w;go_simp;try with_reducible rfl)
    refine wpAny_take (i:=4) (v:=?_) rfl (by kernel_rfl) (by kernel_rfl) (by kernel_rfl) (fun _ _ _ h=>h) (Or.inl ⟨by rfl,?tk4⟩) ?_
    case tk4=>(intro w;go_simp;try with_reducible rfl)
    refine wpAny_take (i:=5) (v:=?_) rfl (by kernel_rfl) (by kernel_rfl) (by kernel_rfl) (fun _ _ _ h=>h) (Or.inl ⟨by rfl,?tk5⟩) ?_
    case tk5=>(intro w;go_simp;try with_reducible rfl)
    refine wpAny_take (i:=6) (v:=?_) rfl (by kernel_rfl) (by kernel_rfl) (by kernel_rfl) (fun _ _ _ h=>h) (Or.inl ⟨by rfl,?tk6⟩) ?_
    case tk6=>(intro w;go_simp;try with_reducible rfl)
    refine wpAny_take (i:=7) (v:=?_) rfl (by kernel_rfl) (by kernel_rfl) (by kernel_rfl) (fun _ _ _ h=>h) (Or.inl ⟨by rfl,?tk7⟩) ?_
    case tk7=>(intro w;go_simp;try with_reducible rfl)
    refine wpAny_take (i:=8) (v:=?_) rfl (by kernel_rfl) (by kernel_rfl) (by kernel_rfl) (fun _ _ _ h=>h) (Or.inl ⟨by rfl,?tk8⟩) ?_
    case tk8=>(intro w;go_simp;try with_reducible rfl)
    refine wpAny_take (i:=9) (v:=?_) rfl (by kernel_rfl) (by kernel_rfl) (by kernel_rfl) (fun _ _ _ h=>h) (Or.inl ⟨by rfl,?tk9⟩) ?_
    case tk9=>(intro w;go_simp;try with_reducible rfl)
    refine wpAny_take (i:=10) (v:=?_) rfl (by kernel_rfl) (by kernel_rfl) (by kernel_rfl) (fun _ _ _ h=>h) (Or.inl ⟨by rfl,?tk10⟩) ?_
    case tk10=>(intro w;go_simp;try with_reducible rfl)
    refine wpAny_take (i:=11) (v:=?_) rfl (by kernel_rfl) (by kernel_rfl) (by kernel_rfl) (fun _ _ _ h=>h) (Or.inl ⟨by rfl,?tk11⟩) ?_
    case tk11=>(intro w;go_simp;try with_reducible rfl)
    refine wpAny_take (i:=12) (v:=?_) rfl (by kernel_rfl) (by kernel_rfl) (by kernel_rfl) (fun _ _ _ h=>h) (Or.inl ⟨by rfl,?tk12⟩) ?_
    case tk12=>(intro w;go_simp;try with_reducible rfl)
    refine wpAny_take (i:=13) (v:=?_) rfl (by kernel_rfl) (by kernel_rfl) (by kernel_rfl) (fun _ _ _ h=>h) (Or.inl ⟨by rfl,?tk13⟩) ?_
    case tk13=>(intro w;go_simp;try with_reducible rfl)
    refine wpAny_take (i:=14) (v:=?_) rfl (by kernel_rfl) (by kernel_rfl) (by kernel_rfl) (fun _ _ _ h=>h) (Or.inl ⟨by rfl,?tk14⟩) ?_
    case tk14=>(intro w;go_simp;try with_reducible rfl)
    refine wpAny_take (i:=16) (v:=?_) rfl (by kernel_rfl) (by kernel_rfl) (by kernel_rfl) (fun _ _ _ h=>h) (Or.inl ⟨by rfl,?tk16⟩) ?_
    case tk16=>(intro w;go_simp;try with_reducible rfl)
    refine wpAny_take (i:=17) (v:=?_) rfl (by kernel_rfl) (by kernel_rfl) (by kernel_rfl) (fun _ _ _ h=>h) (Or.inl ⟨by rfl,?tk17⟩) ?_
    case tk17=>(intro w;go_simp;try with_reducible rfl)
    refine wpAny_take (i:=18) (v:=?_) rfl (by kernel_rfl) (by kernel_rfl) (by kernel_rfl) (fun _ _ _ h=>h) (Or.inl ⟨by rfl,?tk18⟩) ?_
    case tk18=>(intro w;go_simp;try with_reducible rfl)
    refine wpAny_take (i:=19) (v:=?_) rfl (by kernel_rfl) (by kernel_rfl) (by kernel_rfl) (fun _ _ _ h=>h) (Or.inl ⟨by rfl,?tk19⟩) ?_
    case tk19=>(intro w;go_simp;try with_reducible rfl)
    refine wpAny_take (i:=20) (v:=?_) rfl (by kernel_rfl) (by kernel_rfl) (by kernel_rfl) (fun _ _ _ h=>h) (Or.inl ⟨by rfl,?tk20⟩) ?_
    case tk20=>(intro w;go_simp;try with_reducible rfl)
    refine wpAny_ready (rs:=[15,22]) (by kernel_rfl) (by simp) ?_;refine AllReady.cons rfl (fun K hK=>?_) (AllReady.cons rfl (fun K hK=>?_) AllReady.nil)
    ·go_simp
     go_at_call 55
     refine(HRW.out _).mono ?_;rintro e w4 ⟨rfl,hw4⟩;have hb4:Below wr.heap.size wr w4:=by
      obtain⟨n,rfl⟩:=hw4;exact below_drewN ((Below.refl _ _).drew) n
     clear hw4;refine hK _ _ ?_;clear hK K;refine wpAny_take (i:=21) (v:=?_) rfl (by kernel_rfl) (by kernel_rfl) (by kernel_rfl) (fun _ _ _ h=>h) (Or.inl ⟨by rfl,?tk21a⟩) ?_
     case tk21a=>(intro w;go_simp;try with_reducible rfl)
     refine wpAny_ready (rs:=[22]) (by kernel_rfl) (by simp) ?_;refine AllReady.cons rfl (fun K hK=>?_) AllReady.nil;go_simp;refine hK _ _ ?_;clear hK K;refine wpAny_ready (rs:=[23]) (by kernel_rfl) (by simp) ?_;refine AllReady.cons rfl (fun K hK=>?_) AllReady.nil;go_simp;refine hK _ _ ?_;clear hK K;refine wpAny_done (by kernel_rfl) ?_ _;refine NoPanic.normal ?_;go_wp2_with fail
     go_meet
     case rel=>exact⟨_,rfl,hb4.size,⟨aI w4 _ _ (0,0) 0,aI w4 _ _ (0,0) 1,aI w4 _ _ (0,0) 2,aI w4 _ _ (0,0) 3⟩,hb4.alloc hb4.size _⟩
    ·go_simp
     refine hK _ _ ?_;clear hK K;refine wpAny_ready (rs:=[15]) (by kernel_rfl) (by simp) ?_;refine AllReady.cons rfl (fun K hK=>?_) AllReady.nil;go_simp
     go_at_call 55
     refine(HRW.out _).mono ?_;rintro e w4 ⟨rfl,hw4⟩;obtain⟨y,hy⟩:∃ y,y=wr.heap.size:=⟨_,rfl⟩;have hb4:Below wr.heap.size wr w4:=by
      obtain⟨n,rfl⟩:=hw4;exact below_drewN (((Below.refl wr.heap.size wr).drew).alloc (Nat.le_refl _) _) n
     have hh:w4.heap[wr.heap.size]?=some (.cells #[.int .i64 0,.int .i64 0,.int .i64 0,.int .i64 0] 63):=by
      obtain⟨n,rfl⟩:=hw4;exact ai wr.drew _
     obtain⟨⟨c0,c1,c2,c3⟩,f0,f1,f2,f3⟩:=gH hh;have HH:=k_ hh;clear hw4 hh;refine hK _ _ ?_;clear hK K;refine wpAny_take (i:=21) (v:=?_) rfl (by kernel_rfl) (by kernel_rfl) (by kernel_rfl) (fun _ _ _ h=>h) (Or.inl ⟨by rfl,?tk21b⟩) ?_
     case tk21b=>(intro w;go_simp;try with_reducible rfl)
     refine wpAny_ready (rs:=[23]) (by kernel_rfl) (by simp) ?_;refine AllReady.cons rfl (fun K hK=>?_) AllReady.nil;go_simp;refine hK _ _ ?_;clear hK K;refine wpAny_done (by kernel_rfl) ?_ _;refine NoPanic.normal ?_;go_wp2_with fail
     go_meet
     case rel =>
      have hn:=ag (ag (ag (ag HH.out 0 (.int .i64 xop)) 1 (.int .i64 xa)) 2 (.int .i64 xb)) 3 (.int .i64 xc);have hfr:Fr (onB wr.heap.size) w4 _:=((((Fr.refl (onB wr.heap.size) w4).setCell (p:=⟨wr.heap.size,0,none⟩) (fun _=>rfl) (.int .i64 xop)).setCell (p:=⟨wr.heap.size,1,none⟩) (fun _=>rfl) (.int .i64 xa)).setCell (p:=⟨wr.heap.size,2,none⟩) (fun _=>rfl) (.int .i64 xb)).setCell (p:=⟨wr.heap.size,3,none⟩) (fun _=>rfl) (.int .i64 xc);exact⟨_,rfl,Nat.le_refl _,(gH hn).1,hb4.trans (hfr.below hb4.size (fun k hk=>by unfold onB at hk;omega))⟩
   case rest =>
    obtain⟨y,rfl,hy,⟨q0,q1,q2,q3⟩,hb5⟩:=hcut;have hB5:=HB.out.trans (hb5.mono HB.out.size);have hO5:Own ig wc w.heap.size _ (eP b k):=Own.below HOWN.out hb5;clear hb5 n1 n2 n3 n7 m0 m1 m2 m3 m7 t1 t2 t3 t7 i1 i2 i3 i7 g0 g1 g2
    cases kb
    ·have hno2:=HNO.out rfl
     have hP:jk b w (.returned (.tuple #[.slice none 0 0,.bool false])) wc:=⟨_,by rw[hno2],by unfold eQ;rw[hno2];exact Own.nil _ _ _,hB5⟩;clear hno2 hB5 hO5;have HP:=k_ hP;clear hP;go_wp2_with fail;refine(KN.out _).mono ?_;rintro e w6 ⟨rfl,rfl⟩;go_wp2_with fail
     go_ret2
     exact HP.out
    ·skip
     have HB5:=k_ hB5;clear hB5;have HO5:=k_ hO5;clear hO5;go_wp2_with fail;refine(KN.out _).mono ?_;rintro e w6 ⟨rfl,rfl⟩;go_wp2_with fail;refine(UN.out _).mono ?_;rintro e w6 ⟨rfl,hb6⟩;have hB6:=HB5.out.trans (hb6.mono HB5.out.size)
     cases ub
     ·have hno2:=HNO.out rfl
      have hP:jk b w (.returned (.tuple #[.slice none 0 0,.bool false])) w6:=⟨_,by rw[hno2],by unfold eQ;rw[hno2];exact Own.nil _ _ _,hB6⟩;clear hno2 hB6 hb6;have HP:=k_ hP;clear hP;go_wp2_with fail
      go_ret2
      exact HP.out
     ·have q0:=ae hb6 q0
      have q1:=ae hb6 q1;have q2:=ae hb6 q2;have q3:=ae hb6 q3;have ho6:=Own.below HO5.out hb6;clear hb6;have HB6:=k_ hB6;clear hB6;have HO6:=k_ ho6;clear ho6
      go_wp2_with (at_builtin;refine bJ ig rfl (.tmp 48) (.tmp 50) rfl w.heap.size (eP b k) [⟨xop,xa,xb,xc⟩] _ rfl (HO6.out.alloc _) w6.heap.size 0 1 rfl (aA.new _ _ _ _) ?c1 ?c2 ?_)
      case c1=>rw[mP];have:=HAK.out;simp;omega
      case c2=>have:=HB6.out.size;simp;omega
      intro v3 w3 hown3 hg3;have hB7:=below_grown (HB6.out.alloc HB6.out.size _) (HO6.out.alloc _) hg3 (by have:=HB6.out.size;simp;omega) (Nat.le_refl _);clear hg3 q0 q1 q2 q3;have HB7:=k_ hB7;clear hB7;have HOWN3:=k_ hown3;clear hown3;go_wp2_with fail
      go_roundw
      case rel =>
       refine⟨at_+7,k+1,by have:=HAK.out;omega,h7le,by go_num,?_,HB7.out,?_⟩
       ·have hsn:eP b (k+1)=eP b k ++ [⟨xop,xa,xb,xc⟩]:=by rw[lm,← HAK.out,HX.out]
        rw[hsn];exact HOWN3.out
       ·rw[lm,List.all_append,HALL.out,← HAK.out];simp[HX.out,HRR.out]
      case measure=>simp[intOf];omega
  ·have hk':at_=b.size:=by omega
   have hkk:b.size / 7=k:=by omega
   have hok:bV b=true:=by
    unfold bV;rw[hkk,hall,h7];rfl
   have hP:∀ v,Own ig wr w.heap.size v (eP b k)→jk b w (.returned (.tuple #[v,.bool true])) wr:=fun v hv=>⟨v,by rw[hok],by unfold eQ;rw[hok,if_pos rfl,hkk];exact hv,hB⟩
   have HP:=k_ (hP _ hown);clear hok hkk hall hown hB hak hP;go_wp2_with fail
   go_ret2
   exact HP.out
end Go.Proofs.YtlofbhoicbemnaaGreatDoor
