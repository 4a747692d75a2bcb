/- Walks: package image's writer. Walks: package image's writer: lists, functions. An append of a string onto bytes of one's own. Walks: .. -/
import Derived.Test.YtlofbhoicbemnaaGreatDoorGAb
import Derived.Lib.AppendStr
set_option linter.unusedVariables false
set_option linter.unusedSimpArgs false
set_option maxRecDepth 100000
set_option maxHeartbeats 3200000
namespace Go.Proofs.YtlofbhoicbemnaaGreatDoor
open Go.ChangeShapes Go.WideShapes Go.ChangeAt Go.RowKit
def aQ (w:World) (D:Nat→Prop) (a:Option Addr) (l:List Int):Prop:=∀ j (hj:j<l.length),∃ b o,a=some ⟨b,o,none⟩∧D b∧w.cell? ⟨b,o+j,none⟩=some (.int .i64 l[j])
theorem aQ.fr {F:Nat→Prop} {w w':World} {D:Nat→Prop} {a:Option Addr} {l:List Int} (h:aQ w D a l) (hf:Fr F w w') (hd:∀ k,D k→¬ F k):aQ w' D a l:=fun j hj=>by
 obtain⟨b,o,h1,h2,h3⟩:=h j hj;exact⟨b,o,h1,h2,hf.cell h3 (hd b h2)⟩
def gY (v:Value) (bad:Bool):Obj:=.cells #[v,.bool bad] 125
theorem aN {w:World} {p:Nat} {x y:Value} {t:TypeId} (h:w.heap[p]?=some (.cells #[x,y] t)) :
  w.cell? ⟨p,0,none⟩=some x∧w.cell? ⟨p,1,none⟩=some y∧w.frozen? ⟨p,0,none⟩=false∧w.frozen? ⟨p,1,none⟩=false:=by
 simp[World.cell?,World.frozen?,h]
theorem fH {w:World} {p:Nat} {x y u:Value} {t:TypeId} (h:w.heap[p]?=some (.cells #[x,y] t)):(w.setCell ⟨p,0,none⟩ u).heap[p]?=some (.cells #[u,y] t):=by
 simp only[World.setCell,Array.getElem?_modify,if_pos rfl,h,Option.map]
 rfl
theorem gm {w:World} {p:Nat} {x y u:Value} {t:TypeId} (h:w.heap[p]?=some (.cells #[x,y] t)):(w.setCell ⟨p,1,none⟩ u).heap[p]?=some (.cells #[x,u] t):=by
 simp only[World.setCell,Array.getElem?_modify,if_pos rfl,h,Option.map]
 rfl
def Wr (w:World) (B p:Nat) (v:Value) (out:List Int) (bad:Bool):Prop:=w.heap[p]?=some (gY v bad)∧Own u8E w B v out∧v.ownBlock≠some p∧B≤p
def wrF (p:Nat) (v:Value):Nat→Prop:=fun k=>k=p∨v.ownBlock=some k
def jA (w:World) (B p:Nat) (v:Value) (out:List Int) (bad:Bool) (w':World):Prop:=∃ v',Wr w' B p v' out bad∧Fr (wrF p v) w w'∧eO w v v'
def gZ (l:List Int):Bool:=l.any fun n=>decide (n<0) || decide (255<n)
theorem ol (bad:Bool) (t:List Int) (x:Int):(bad || gZ (t ++ [x]))=((bad || gZ t) || (decide (x<0) || decide (255<x))):=by
 simp[gZ,Bool.or_assoc]
def jU (l:List Int):List Int:=l.map (· % 256)
theorem eO.trans {a b:World} {v1 v2 v3:Value} (h:eO a v1 v2) (k:eO b v2 v3) (hs:a.heap.size≤b.heap.size):eO a v1 v3:=fun n hn=>by
 rcases k n hn with h' | h'
 ·exact h n h'
 ·exact .inr (by omega)
theorem xL (w:World) (B p:Nat) (v:Value) (out:List Int) (bad:Bool) (hw:Wr w B p v out bad) (D:Nat→Prop) (a:Option Addr) (l:List Int) (c:Nat) (hsl:aQ w D a l)
  (hD:∀ k,D k→k≠p∧v.ownBlock≠some k∧k<w.heap.size) (hlen:out.length+l.length≤10000000) :
  Calls Tryz.prog 71 #[.pointer (some ⟨p,0,none⟩),.slice a l.length c] w fun e w'=>e=.returned (.tuple #[])∧jA w B p v (out ++ jU l) (bad || gZ l) w':=by
 have HSL:=k_ hsl;clear hsl;have HD:=k_ hD;clear hD;have HWR:=k_ hw;clear hw
 go_enter Tryz.func71,Tryz.ntmps71
 go_wp2_with fail
 go_loopw [8] (fun i wr=>∃ k:Nat,k≤l.length∧i=.int .i64 k∧∃ v1,Wr wr B p v1 (out ++ jU (l.take k)) (bad || gZ (l.take k))∧Fr (wrF p v) w wr∧eO w v v1) (fun i _=>l.length - (intOf i).toNat)
 case atStart=>exact⟨0,Nat.zero_le _,rfl,v,by simpa[jU,gZ] using HWR.out,Fr.refl _ _,fun k hk=>.inl hk⟩
 case round =>
  obtain⟨k,hk,rfl,v1,⟨hp,hown,hv,hB⟩,hf,hfr⟩:=hrel
  by_cases hlt:k<l.length
  ·obtain⟨b,o,rfl,hDb,hx⟩:=HSL.out k hlt
   obtain⟨d1,d2,d3⟩:=HD.out b hDb;have hx1:=hf.cell hx (fun h=>h.elim (fun e=>d1 e) (fun e=>d2 e));obtain⟨x,hxe⟩:∃ x,x=l[k]:=⟨_,rfl⟩;rw[← hxe] at hx1;clear hx;obtain⟨q0,q1,q2,q3⟩:=aN (show wr.heap[p]?=some (.cells #[v1,.bool (bad || gZ (l.take k))] 125) from hp);have HX:=k_ hxe;clear hxe;have HP:=k_ hp;have HO:=k_ hown;have HV:=k_ hv;have HB:=k_ hB;have HF:=k_ hf;have HFR:=k_ hfr;clear hp hown hv hB hf hfr d1 d2 d3
   cases hbb:bad || gZ (l.take k)
   case true =>
    rw[hbb] at q1;have HBB:=k_ hbb
    go_wp2_with (at_builtin;refine bE u8E rfl (.tmp 31) (.tmp 34) rfl B (out ++ jU (l.take k)) [(x%256)] v1 rfl (Own.alloc (HO.out.fr (Fr.setCell (Fr.refl (fun k=>k=p) _) (fun _=>rfl) _) (fun k hk e=>HV.out (by rw[hk,e]))) _) wr.heap.size 0 1 rfl (aA.new' (w:=wr.setCell ⟨p,1,none⟩ (.bool true)) #[.int .u8 ((x%256))] _ _ (by simp)) ?c1 ?c2 ?_)
    case c1=>simp[jU] at *;omega
    case c2=>have:=HB.out;have:=aj HP.out;simp;omega
    intro v2 w2 hown2 hg2 hfr2;have e1:w2.heap[p]?=some (.cells #[v1,.bool true] 125):=by
     have hpl:=aj HP.out;rw[hg2.block p (by simp;omega) (fun e=>HV.out e.symm),Below.heap_alloc _ _ _ (by simpa using hpl)];exact gm HP.out
    obtain⟨r0,r1,r2,r3⟩:=aN e1;have E1:=k_ e1;clear e1;have hv2:v2.ownBlock≠some p:=fun e=>by
     rcases hfr2 p e with h' | h'
     ·exact HV.out h'
     ·have:=aj HP.out;simp at h';omega
    have HV2:=k_ hv2;clear hv2;have hf2:Fr (wrF p v) w w2:=by
     refine((HF.out.setCell (p:=⟨p,1,none⟩) (fun _=>.inl rfl) _).alloc _).grown hg2 (fun k hk hlt=>?_)
     rcases HFR.out k hk with h' | h'
     ·exact .inr h'
     ·omega
    have HF2:=k_ hf2;clear hf2;have HFR2:=k_ (HFR.out.trans hfr2 (by have:=HF.out.size;simp;omega));have HO2:=k_ hown2;obtain⟨a2,n2,c2,rfl⟩:=hown2.slice;clear hg2 hfr2 hown2;go_wp2_with fail
    go_roundw
    case rel =>
     refine⟨k+1,by omega,by go_num,_,⟨by rw[fH E1.out];unfold gY;rw[show (bad || gZ (l.take (k+1)))=true from by rw[aK l k hlt,← HX.out,ol,HBB.out];simp[*]],?_,HV2.out,HB.out⟩,HF2.out.setCell (fun _=>.inl rfl) _,HFR2.out⟩;have:=HO2.out.fr (Fr.setCell (Fr.refl (fun k=>k=p) _) (p:=⟨p,0,none⟩) (fun _=>rfl) (.slice a2 n2 c2)) (fun k hk e=>HV2.out (by rw[hk,e]));have e256:x % 256=(x%256):=by omega
     rw[aK l k hlt,← HX.out]
     simpa[jU,e256] using this
    case measure=>simp[intOf];omega
   case false =>
    rw[hbb] at q1;have HBB:=k_ hbb
    by_cases h1:x<0
    ·skip
     go_wp2_with (at_builtin;refine bE u8E rfl (.tmp 31) (.tmp 34) rfl B (out ++ jU (l.take k)) [(x%256)] v1 rfl (Own.alloc (HO.out.fr (Fr.setCell (Fr.refl (fun k=>k=p) _) (fun _=>rfl) _) (fun k hk e=>HV.out (by rw[hk,e]))) _) wr.heap.size 0 1 rfl (aA.new' (w:=wr.setCell ⟨p,1,none⟩ (.bool true)) #[.int .u8 ((x%256))] _ _ (by simp)) ?c1 ?c2 ?_)
     case c1=>simp[jU] at *;omega
     case c2=>have:=HB.out;have:=aj HP.out;simp;omega
     intro v2 w2 hown2 hg2 hfr2;have e1:w2.heap[p]?=some (.cells #[v1,.bool true] 125):=by
      have hpl:=aj HP.out;rw[hg2.block p (by simp;omega) (fun e=>HV.out e.symm),Below.heap_alloc _ _ _ (by simpa using hpl)];exact gm HP.out
     obtain⟨r0,r1,r2,r3⟩:=aN e1;have E1:=k_ e1;clear e1;have hv2:v2.ownBlock≠some p:=fun e=>by
      rcases hfr2 p e with h' | h'
      ·exact HV.out h'
      ·have:=aj HP.out;simp at h';omega
     have HV2:=k_ hv2;clear hv2;have hf2:Fr (wrF p v) w w2:=by
      refine((HF.out.setCell (p:=⟨p,1,none⟩) (fun _=>.inl rfl) _).alloc _).grown hg2 (fun k hk hlt=>?_)
      rcases HFR.out k hk with h' | h'
      ·exact .inr h'
      ·omega
     have HF2:=k_ hf2;clear hf2;have HFR2:=k_ (HFR.out.trans hfr2 (by have:=HF.out.size;simp;omega));have HO2:=k_ hown2;obtain⟨a2,n2,c2,rfl⟩:=hown2.slice;clear hg2 hfr2 hown2;go_wp2_with fail
     go_roundw
     case rel =>
      refine⟨k+1,by omega,by go_num,_,⟨by rw[fH E1.out];unfold gY;rw[show (bad || gZ (l.take (k+1)))=true from by rw[aK l k hlt,← HX.out,ol,HBB.out];simp[*]],?_,HV2.out,HB.out⟩,HF2.out.setCell (fun _=>.inl rfl) _,HFR2.out⟩;have:=HO2.out.fr (Fr.setCell (Fr.refl (fun k=>k=p) _) (p:=⟨p,0,none⟩) (fun _=>rfl) (.slice a2 n2 c2)) (fun k hk e=>HV2.out (by rw[hk,e]));have e256:x % 256=(x%256):=by omega
      rw[aK l k hlt,← HX.out]
      simpa[jU,e256] using this
     case measure=>simp[intOf];omega
    have h1':decide (x<0)=false:=by simpa using h1
    by_cases h2:255<x
    ·skip
     go_wp2_with (at_builtin;refine bE u8E rfl (.tmp 31) (.tmp 34) rfl B (out ++ jU (l.take k)) [(x%256)] v1 rfl (Own.alloc (HO.out.fr (Fr.setCell (Fr.refl (fun k=>k=p) _) (fun _=>rfl) _) (fun k hk e=>HV.out (by rw[hk,e]))) _) wr.heap.size 0 1 rfl (aA.new' (w:=wr.setCell ⟨p,1,none⟩ (.bool true)) #[.int .u8 ((x%256))] _ _ (by simp)) ?c1 ?c2 ?_)
     case c1=>simp[jU] at *;omega
     case c2=>have:=HB.out;have:=aj HP.out;simp;omega
     intro v2 w2 hown2 hg2 hfr2;have e1:w2.heap[p]?=some (.cells #[v1,.bool true] 125):=by
      have hpl:=aj HP.out;rw[hg2.block p (by simp;omega) (fun e=>HV.out e.symm),Below.heap_alloc _ _ _ (by simpa using hpl)];exact gm HP.out
     obtain⟨r0,r1,r2,r3⟩:=aN e1;have E1:=k_ e1;clear e1;have hv2:v2.ownBlock≠some p:=fun e=>by
      rcases hfr2 p e with h' | h'
      ·exact HV.out h'
      ·have:=aj HP.out;simp at h';omega
     have HV2:=k_ hv2;clear hv2;have hf2:Fr (wrF p v) w w2:=by
      refine((HF.out.setCell (p:=⟨p,1,none⟩) (fun _=>.inl rfl) _).alloc _).grown hg2 (fun k hk hlt=>?_)
      rcases HFR.out k hk with h' | h'
      ·exact .inr h'
      ·omega
     have HF2:=k_ hf2;clear hf2;have HFR2:=k_ (HFR.out.trans hfr2 (by have:=HF.out.size;simp;omega));have HO2:=k_ hown2;obtain⟨a2,n2,c2,rfl⟩:=hown2.slice;clear hg2 hfr2 hown2;go_wp2_with fail
     go_roundw
     case rel =>
      refine⟨k+1,by omega,by go_num,_,⟨by rw[fH E1.out];unfold gY;rw[show (bad || gZ (l.take (k+1)))=true from by rw[aK l k hlt,← HX.out,ol,HBB.out];simp[*]],?_,HV2.out,HB.out⟩,HF2.out.setCell (fun _=>.inl rfl) _,HFR2.out⟩;have:=HO2.out.fr (Fr.setCell (Fr.refl (fun k=>k=p) _) (p:=⟨p,0,none⟩) (fun _=>rfl) (.slice a2 n2 c2)) (fun k hk e=>HV2.out (by rw[hk,e]));have e256:x % 256=(x%256):=by omega
      rw[aK l k hlt,← HX.out]
      simpa[jU,e256] using this
     case measure=>simp[intOf];omega
    have h2':decide (255<x)=false:=by simpa using h2
    go_wp2_with (at_builtin;refine bE u8E rfl (.tmp 31) (.tmp 34) rfl B (out ++ jU (l.take k)) [x] v1 rfl (Own.alloc (HO.out.fr (Fr.setCell (Fr.refl (fun k=>k=p) _) (fun _=>rfl) _) (fun k hk e=>HV.out (by rw[hk,e]))) _) wr.heap.size 0 1 rfl (aA.new' (w:=wr.setCell ⟨p,1,none⟩ (.bool false)) #[.int .u8 (x)] _ _ (by simp)) ?c1 ?c2 ?_)
    case c1=>simp[jU] at *;omega
    case c2=>have:=HB.out;have:=aj HP.out;simp;omega
    intro v2 w2 hown2 hg2 hfr2;have e1:w2.heap[p]?=some (.cells #[v1,.bool false] 125):=by
     have hpl:=aj HP.out;rw[hg2.block p (by simp;omega) (fun e=>HV.out e.symm),Below.heap_alloc _ _ _ (by simpa using hpl)];exact gm HP.out
    obtain⟨r0,r1,r2,r3⟩:=aN e1;have E1:=k_ e1;clear e1;have hv2:v2.ownBlock≠some p:=fun e=>by
     rcases hfr2 p e with h' | h'
     ·exact HV.out h'
     ·have:=aj HP.out;simp at h';omega
    have HV2:=k_ hv2;clear hv2;have hf2:Fr (wrF p v) w w2:=by
     refine((HF.out.setCell (p:=⟨p,1,none⟩) (fun _=>.inl rfl) _).alloc _).grown hg2 (fun k hk hlt=>?_)
     rcases HFR.out k hk with h' | h'
     ·exact .inr h'
     ·omega
    have HF2:=k_ hf2;clear hf2;have HFR2:=k_ (HFR.out.trans hfr2 (by have:=HF.out.size;simp;omega));have HO2:=k_ hown2;obtain⟨a2,n2,c2,rfl⟩:=hown2.slice;clear hg2 hfr2 hown2;go_wp2_with fail
    go_roundw
    case rel =>
     refine⟨k+1,by omega,by go_num,_,⟨by rw[fH E1.out];unfold gY;rw[show (bad || gZ (l.take (k+1)))=false from by rw[aK l k hlt,← HX.out,ol,HBB.out];simp[*]],?_,HV2.out,HB.out⟩,HF2.out.setCell (fun _=>.inl rfl) _,HFR2.out⟩;have:=HO2.out.fr (Fr.setCell (Fr.refl (fun k=>k=p) _) (p:=⟨p,0,none⟩) (fun _=>rfl) (.slice a2 n2 c2)) (fun k hk e=>HV2.out (by rw[hk,e]));have e256:x % 256=x:=by omega
     rw[aK l k hlt,← HX.out]
     simpa[jU,e256] using this
    case measure=>simp[intOf];omega
  ·have hk':k=l.length:=by omega
   subst hk';rw[List.take_length] at hp hown;have HP:=k_ (show jA w B p v (out ++ jU l) (bad || gZ l) wr from⟨v1,⟨hp,hown,hv,hB⟩,hf,hfr⟩);clear hp hown hv hB hf hfr;go_wp2_with fail
   go_end0
   exact⟨rfl,HP.out⟩
theorem rD {w:World} {B p:Nat} {v:Value} {out:List Int} {bad:Bool} (h:Wr w B p v out bad) (o:Obj):Wr (w.alloc o) B p v out bad:=by
 obtain⟨h1,h2,h3,h4⟩:=h;refine⟨?_,h2.alloc o,h3,h4⟩;rw[Below.heap_alloc _ _ _ (aj h1)];exact h1
theorem E9 {w w':World} {B p:Nat} {v:Value} {out:List Int} {bad:Bool} (h:Wr w B p v out bad) (hb:Below w.heap.size w w'):Wr w' B p v out bad:=by
 obtain⟨h1,h2,h3,h4⟩:=h;exact⟨by rw[hb.block p (aj h1)];exact h1,h2.below hb,h3,h4⟩
theorem Ga {w w1 w2:World} {B p:Nat} {v v1:Value} {out:List Int} {bad:Bool} (hf:Fr (wrF p v) w w1) (hfr:eO w v v1) (h2:jA w1 B p v1 out bad w2):jA w B p v out bad w2:=by
 obtain⟨v2,hw,hf2,hfr2⟩:=h2;refine⟨v2,hw,hf.trans hf2 (fun k hk hF=>?_),hfr.trans hfr2 hf.size⟩
 rcases hF with h | h
 ·exact .inl h
 ·rcases hfr k h with h' | h'
  ·exact .inr h'
  ·omega
theorem Ak {w w1:World} {p:Nat} {v v1:Value} {D:Nat→Prop} (hD:∀ k,D k→k≠p∧v.ownBlock≠some k∧k<w.heap.size) (hf:Fr (wrF p v) w w1) (hfr:eO w v v1):∀ k,D k→k≠p∧v1.ownBlock≠some k∧k<w1.heap.size:=by
 intro k hk;obtain⟨h1,h2,h3⟩:=hD k hk;refine⟨h1,fun e=>?_,Nat.lt_of_lt_of_le h3 hf.size⟩
 rcases hfr k e with h' | h'
 ·exact h2 h'
 ·omega
theorem mg {w:World} {p:Nat} {v:Value} {D:Nat→Prop} (hD:∀ k,D k→k≠p∧v.ownBlock≠some k∧k<w.heap.size):∀ k,D k→¬ wrF p v k:=fun k hk h=>h.elim (hD k hk).1 (hD k hk).2.1
theorem wL (w:World) (l:List Int):aQ (w.alloc (.cells (l.map (Value.int .i64)).toArray 3)) (fun k=>k=w.heap.size) (some ⟨w.heap.size,0,none⟩) l:=fun j hj =>
 ⟨w.heap.size,0,rfl,rfl,by rw[Nat.zero_add,aI];simp[hj]⟩
theorem Bn {w:World} {B p:Nat} {v:Value} {out:List Int} {bad:Bool} (h:Wr w B p v out bad) (o:Obj):∀ k,k=w.heap.size→k≠p∧v.ownBlock≠some k∧k<(w.alloc o).heap.size:=by
 rintro k rfl;have h1:=aj h.1;refine⟨by omega,fun e=>?_,by simp⟩;have:=(h.2.1.lt e).2
 omega
def bY (s:List Int × Bool) (l:List Int):List Int × Bool:=(s.1 ++ jU l,s.2 || gZ l)
def bH (s:List Int × Bool) (l:List Int):List Int × Bool:=bY (bY s [(l.length:Int)]) l
theorem eB (s:List Int × Bool) (l:List Int):(bY s l).1.length=s.1.length+l.length:=by simp[bY,jU]
theorem dS (s:List Int × Bool) (l:List Int):(bH s l).1.length=s.1.length+1+l.length:=by simp[bH,eB]
theorem xS (w:World) (B p:Nat) (v:Value) (s:List Int × Bool) (hw:Wr w B p v s.1 s.2) (l:List Int) (hlen:s.1.length+l.length≤10000000) :
  Calls Tryz.prog 71 #[.pointer (some ⟨p,0,none⟩),.slice (some ⟨w.heap.size,0,none⟩) l.length l.length] (w.alloc (.cells (l.map (Value.int .i64)).toArray 3)) fun e w'=>e=.returned (.tuple #[])∧jA w B p v (bY s l).1 (bY s l).2 w' :=
 (xL _ B p v s.1 s.2 (rD hw _) _ _ l _ (wL w l) (Bn hw _) hlen).mono fun _ _ ⟨he,v1,h1,h2,h3⟩ =>
  ⟨he,v1,h1,(Fr.alloc (Fr.refl (wrF p v) w) _).trans h2 (fun _ _ h=>h),fun k hk=>by
   rcases h3 k hk with h' | h'
   ·exact .inl h'
   ·exact .inr (by simp at h';omega)⟩
theorem Gm (w:World) (B p:Nat) (v:Value) (s:List Int × Bool) (hw:Wr w B p v s.1 s.2) (D:Nat→Prop) (a:Option Addr) (l:List Int) (c:Nat) (hsl:aQ w D a l)
  (hD:∀ k,D k→k≠p∧v.ownBlock≠some k∧k<w.heap.size) (hlen:s.1.length+l.length≤1000000) :
  Calls Tryz.prog 70 #[.pointer (some ⟨p,0,none⟩),.slice a l.length c] w fun e w'=>e=.returned (.tuple #[])∧jA w B p v (bH s l).1 (bH s l).2 w':=by
 have n1:=xS w B p v s hw [(l.length:Int)] (by simp;omega);have hmap:([(l.length:Int)].map (Value.int .i64)).toArray=#[.int .i64 l.length]:=rfl;rw[hmap] at n1;have N1:=k_ n1;clear n1 hmap;have n2:∀ w1 v1,Wr w1 B p v1 (bY s [(l.length:Int)]).1 (bY s [(l.length:Int)]).2→Fr (wrF p v) w w1→eO w v v1→Calls Tryz.prog 71 #[.pointer (some ⟨p,0,none⟩),.slice a l.length c] w1 fun e w'=>e=.returned (.tuple #[])∧jA w1 B p v1 (bH s l).1 (bH s l).2 w' :=
  fun w1 v1 h1 h2 h3=>xL w1 B p v1 _ _ h1 D a l c (hsl.fr h2 (mg hD)) (Ak hD h2 h3) (by rw[eB];simp;omega)
 have N2:=k_ n2;clear n2;clear hsl hw hD hlen;generalize bH s l=s2 at *;generalize bY s [(l.length:Int)]=s1 at *
 go_enter Tryz.func70,Tryz.ntmps70
 go_wp2_with fail;refine N1.out.mono ?_;rintro e w1 ⟨rfl,v1,h1,h2,h3⟩;have H2:=k_ h2;have H3:=k_ h3;have n3:=N2.out w1 v1 h1 h2 h3;have N3:=k_ n3;clear n3 h1 h2 h3;go_wp2_with fail;refine N3.out.mono ?_;rintro e w2 ⟨rfl,hp⟩;have HP:=k_ (Ga H2.out H3.out hp);clear hp;go_wp2_with fail
 go_end0
 exact⟨rfl,HP.out⟩
def bL (s:ByteArray):List Int:=s.data.toList.map fun b=>(b.toNat:Int)
theorem lZ (s:ByteArray):(bL s).length=s.size:=by
 unfold bL;rw[List.length_map];rfl
theorem uk (s:ByteArray):Lib.strCells s=(bL s).flatMap u8E.enc:=by
 rw[En];unfold bL Lib.strCells;rw[List.map_map];rfl
theorem lQ (l:List Int) (h:∀ x ∈ l,0≤x∧x<256):bL (ah l)=l:=by
 unfold bL ah;simp only[List.map_map]
 conv=>rhs;rw[← List.map_id l]
 apply List.map_congr_left
 intro x hx;have:=h x hx
 simp
 omega
theorem mI (w:World) (ty:TypeId) (B:Nat) (l:List Int) (v:Value) (hown:Own u8E w B v l) (s:ByteArray)
  (hlen:l.length+s.size≤100000000) (hB:B≤w.heap.size) :
  ∃ v' w',(Builtin.append_ #[30,9] ty #[v,.string s]).run Tryz.prog w=.ok v' w'∧Own u8E w' B v' (l ++ bL s)∧w.grownBy w' v.ownBlock∧eO w v v':=by
 obtain⟨i0,hi,hz0,hz1,hz2⟩:=info_parts u8E.info;have hml:l.length+s.size≤maxLen:=by unfold maxLen;omega
 have go:∀ B',B'≤w.heap.size→Own u8E w B' v l→∃ v' w',(Builtin.append_ #[30,9] ty #[v,.string s]).run Tryz.prog w=.ok v' w'∧Own u8E w' B' v' (l ++ bL s)∧w.grownBy w' v.ownBlock:=fun B' hB' ho=>by
  obtain⟨v',w',hr,h2,h3,_⟩:=Lib.run_append_own_string (P:=Tryz.prog) w B' 30 9 ty 5 i0 Tryz.underlying30 Tryz.underlying9 hi hz0 hz1 hz2 v l.length (l.flatMap u8E.enc) ho s hml (by omega) hB';refine⟨v',w',hr,?_,h3⟩;unfold Own;rw[List.length_append,List.flatMap_append,lZ,← uk];exact h2
 obtain⟨v',w',hr,h2,h3⟩:=go B hB hown;refine⟨v',w',hr,h2,h3,?_⟩
 rcases hown.2 with⟨rfl,h0⟩ | ⟨g,cap,cur,rfl,hbg,hg,hnc,hcm,hcs,htake⟩
 ·have hl0:l=[]:=List.length_eq_zero_iff.1 h0
  subst hl0;obtain⟨v2,w2,hr2,h22,_⟩:=go w.heap.size (Nat.le_refl _) (Own.nil _ _ _);rw[hr] at hr2
  injection hr2 with e1 e2
  subst e1 e2;exact fun k hk=>.inr (h22.lt hk).1
 ·by_cases hroom:l.length+s.size≤cap
  ·have hcs':cur.size=cap:=by rw[hcs];show cap * 1=cap;omega
   have hr2:=Lib.run_append_room_string (P:=Tryz.prog) w 30 9 ty 5 i0 Tryz.underlying30 Tryz.underlying9 hi hz1 g l.length cap cur hg s hroom (by omega);rw[hr] at hr2
   injection hr2 with e1 e2
   subst e1;exact fun k hk=>.inl hk
  ·have holds:∀ j u,(l.flatMap u8E.enc)[j]?=some u→w.cell? ((⟨g,0,none⟩:Addr).add j)=some u:=World.ownsRow.cells (g:=g) hown rfl
   have hr2:=Lib.run_append_grow_string (P:=Tryz.prog) w 30 9 ty 5 i0 (.int .u8 0) Tryz.underlying30 Tryz.underlying9 hi hz0 ⟨g,0,none⟩ l.length cap (l.flatMap u8E.enc) (by rw[hz1];exact u8E.len l) holds s (by omega) (by omega) (by rw[hz2];exact growslice_fits (by omega) (by show (l.length+s.size) * 1≤_;omega));rw[hr] at hr2
   injection hr2 with e1 e2
   subst e1;intro k hk
   simp[Value.ownBlock] at hk
   exact .inr (by omega)
theorem lc {ops:Array Oper} {rest:List Oper} {o:Oper} {a:Act} {Q:Exit→Act→World→Prop} {w:World} (hgd:o.guard=none) (sl x:Operand)
  (ho:o.op=.call { callee:=.builtin .append,args:=#[sl,x],argTypes:=#[30,9] })
  (B:Nat) (l:List Int) (v:Value) (hs:a.eval sl=v) (hown:Own u8E w B v l) (s:ByteArray) (hx:a.eval x=.string s)
  (hlen:l.length+s.size≤100000000) (hB:B≤w.heap.size)
  (h:∀ v' w',Own u8E w' B v' (l ++ bL s)→w.grownBy w' v.ownBlock→eO w v v'→wpList Tryz.prog ops Q rest (a.put o.dst v') w'):wpList Tryz.prog ops Q (o :: rest) a w :=
 wpList_plain hgd fun _ hK=>by
  obtain⟨v',w',hr,h2,h3,h4⟩:=mI w o.type B l v hown s hlen hB;unfold Oper.wp execOp;simp only[ho,resolve,invoke,builtin,Sem.run_bind,Sem.run_pure,Result.andThen_ok,List.map_toArray,List.map_cons,List.map_nil,hs,hx,hr];exact hK _ _ (h v' w' h2 h3 h4)
structure Fun where (args:List Int) (result slots:Int) (objects:List Int) (code:List Ins)
structure Prg where (globals:List Int) (shapes:List (List Int)) (funcs:List Fun)
def eH (w:World) (D:Nat→Prop) (a:Option Addr) (l:List Ins):Prop:=∀ j (hj:j<l.length),∃ b o,a=some ⟨b,o,none⟩∧D b∧xI w b (o+j * 4) l[j]
theorem eH.fr {F:Nat→Prop} {w w':World} {D:Nat→Prop} {a:Option Addr} {l:List Ins} (h:eH w D a l) (hf:Fr F w w') (hd:∀ k,D k→¬ F k):eH w' D a l:=fun j hj=>by
 obtain⟨b,o,h1,h2,h3⟩:=h j hj;have hn:=hd b h2;exact⟨b,o,h1,h2,hf.cell h3.1 hn,hf.cell h3.2.1 hn,hf.cell h3.2.2.1 hn,hf.cell h3.2.2.2 hn⟩
theorem eH.plain {w:World} {D:Nat→Prop} {a:Option Addr} {l:List Ins} (h:eH w D a l):rH w a l:=fun j hj=>by
 obtain⟨b,o,h1,_,h3⟩:=h j hj;exact⟨b,o,h1,h3⟩
def dP (w:World) (D:Nat→Prop) (f:Fun) (c0 c1 c2 c3 c4:Value):Prop :=
 c1=.int .i64 f.result∧c2=.int .i64 f.slots∧(∃ a c,c0=.slice a f.args.length c∧aQ w D a f.args)∧(∃ a c,c3=.slice a f.objects.length c∧aQ w D a f.objects)∧∃ a c,c4=.slice a f.code.length c∧eH w D a f.code
theorem dP.fr {F:Nat→Prop} {w w':World} {D:Nat→Prop} {f:Fun} {c0 c1 c2 c3 c4:Value} (h:dP w D f c0 c1 c2 c3 c4) (hf:Fr F w w') (hd:∀ k,D k→¬ F k):dP w' D f c0 c1 c2 c3 c4:=by
 obtain⟨h1,h2,⟨a,c,h3,h4⟩,⟨a',c',h5,h6⟩,a'',c'',h7,h8⟩:=h;exact⟨h1,h2,⟨a,c,h3,h4.fr hf hd⟩,⟨a',c',h5,h6.fr hf hd⟩,a'',c'',h7,h8.fr hf hd⟩
def wFn (s:List Int × Bool) (f:Fun):List Int × Bool :=
 let t:=bY (bH (bY (bH s f.args) [f.result,f.slots]) f.objects) [(f.code.length:Int)]
 (t.1 ++ (if laid f.code then dR f.code else []),t.2 || !laid f.code)
def St (wa:World) (B p:Nat) (v:Value) (w:World) (v':Value) (s:List Int × Bool):Prop:=Wr w B p v' s.1 s.2∧Fr (wrF p v) wa w∧eO wa v v'
theorem St.refl {wa:World} {B p:Nat} {v:Value} {s:List Int × Bool} (h:Wr wa B p v s.1 s.2):St wa B p v wa v s:=⟨h,Fr.refl _ _,fun _ h=>.inl h⟩
theorem St.trans {wa w w':World} {B p:Nat} {v v1 v':Value} {s t:List Int × Bool} (h:St wa B p v w v1 s) (h2:St w B p v1 w' v' t):St wa B p v w' v' t:=by
 obtain⟨_,hf,hfr⟩:=h;obtain⟨hw,hf2,hfr2⟩:=h2;refine⟨hw,hf.trans hf2 (fun k hk hF=>?_),hfr.trans hfr2 hf.size⟩
 rcases hF with h | h
 ·exact .inl h
 ·rcases hfr k h with h' | h'
  ·exact .inr h'
  ·omega
theorem St.alloc {wa w:World} {B p:Nat} {v v':Value} {s:List Int × Bool} (h:St wa B p v w v' s) (o:Obj):St wa B p v (w.alloc o) v' s:=⟨rD h.1 o,h.2.1.alloc o,h.2.2⟩
theorem St.below {wa w w':World} {B p:Nat} {v v':Value} {s:List Int × Bool} (h:St wa B p v w v' s) (hb:Below w.heap.size w w'):St wa B p v w' v' s :=
 ⟨E9 h.1 hb,h.2.1.trans (fb_ hb) (fun _ _ h=>h.elim),h.2.2⟩
theorem St.post {wa w:World} {B p:Nat} {v v':Value} {s:List Int × Bool} (h:St wa B p v w v' s):jA wa B p v s.1 s.2 w:=⟨v',h⟩
abbrev Dom (wa:World) (p:Nat) (v:Value) (D:Nat→Prop):Prop:=∀ k,D k→k≠p∧v.ownBlock≠some k∧k<wa.heap.size
theorem rf {wa w:World} {B p:Nat} {v v1:Value} {s:List Int × Bool} (h:St wa B p v w v1 s) {D:Nat→Prop} (hD:Dom wa p v D) {a:Option Addr} {l:List Int} (c:Nat) (hsl:aQ wa D a l) (hlen:s.1.length+l.length≤1000000) :
  Calls Tryz.prog 70 #[.pointer (some ⟨p,0,none⟩),.slice a l.length c] w fun e w'=>e=.returned (.tuple #[])∧∃ v',St wa B p v w' v' (bH s l) :=
 (Gm w B p v1 s h.1 D a l c (hsl.fr h.2.1 (mg hD)) (Ak hD h.2.1 h.2.2) hlen).mono fun _ _ ⟨he,v',hp⟩=>⟨he,v',h.trans hp⟩
theorem qU {wa w:World} {B p:Nat} {v v1:Value} {s:List Int × Bool} (h:St wa B p v w v1 s) (l:List Int) (hlen:s.1.length+l.length≤10000000) :
  Calls Tryz.prog 71 #[.pointer (some ⟨p,0,none⟩),.slice (some ⟨w.heap.size,0,none⟩) l.length l.length] (w.alloc (.cells (l.map (Value.int .i64)).toArray 3)) fun e w'=>e=.returned (.tuple #[])∧∃ v',St wa B p v w' v' (bY s l) :=
 (xS w B p v1 s h.1 l hlen).mono fun _ _ ⟨he,v',hp⟩=>⟨he,v',h.trans hp⟩
theorem St.keep {wa w:World} {B p:Nat} {v v':Value} {s:List Int × Bool} (h:St wa B p v w v' s) {D:Nat→Prop} (hD:Dom wa p v D) {b:Nat} (hb:D b) {o:Nat} {u:Value} (hc:wa.cell? ⟨b,o,none⟩=some u):w.cell? ⟨b,o,none⟩=some u :=
 h.2.1.cell hc (mg hD b hb)
theorem Iy {w:World} {B p:Nat} {v:Value} {out:List Int} {bad:Bool} (h:Wr w B p v out bad) (o:Obj) {D:Nat→Prop} (hD:Dom w p v D):Dom (w.alloc o) p v (fun k=>D k∨k=w.heap.size):=by
 intro k hk
 rcases hk with hk | rfl
 ·obtain⟨h1,h2,h3⟩:=hD k hk
  exact⟨h1,h2,by simp;omega⟩
 ·exact Bn h o _ rfl
theorem Ij (l:List Ins):∃ s E,lJ l=.tuple #[.string s,.int .i64 E]∧bL s=(if laid l then dR l else [])∧(E != 0)=!laid l∧s.size≤7 * l.length:=by
 cases h:laid l
 ·exact⟨⟨#[]⟩,1,by simp[lJ,h],rfl,rfl,Nat.zero_le _⟩
 ·refine⟨ah (dR l),0,by simp[lJ,h],?_,rfl,by rw[aM,fZ];omega⟩
  rw[if_pos rfl]
  apply lQ
  intro x hx;obtain⟨y,hy,hxy⟩:=List.mem_flatMap.1 hx;exact Bj y (List.all_eq_true.1 h y hy) x hxy
theorem JG (w:World) (B p:Nat) (v:Value) (s:List Int × Bool) (hw:Wr w B p v s.1 s.2) (D:Nat→Prop) (f:Fun) (c0 c1 c2 c3 c4:Value) (hf:dP w D f c0 c1 c2 c3 c4)
  (hD:Dom w p v D) (hlen:s.1.length+f.args.length+f.objects.length+7 * f.code.length≤900000) (hcode:f.code.length≤100000) :
  Calls Tryz.prog 72 #[.pointer (some ⟨p,0,none⟩),.agg #[c0,c1,c2,c3,c4]] w fun e w'=>e=.returned (.tuple #[])∧jA w B p v (wFn s f).1 (wFn s f).2 w':=by
 obtain⟨rfl,rfl,⟨a0,n0,rfl,hs0⟩,⟨a3,n3,rfl,hs3⟩,a4,n4,rfl,hs4⟩:=hf;have hD':=Iy hw (.cells #[.slice a0 f.args.length n0,.int .i64 f.result,.int .i64 f.slots,.slice a3 f.objects.length n3,.slice a4 f.code.length n4] 66) hD;have hst0:=St.refl (rD hw (.cells #[.slice a0 f.args.length n0,.int .i64 f.result,.int .i64 f.slots,.slice a3 f.objects.length n3,.slice a4 f.code.length n4] 66));have hfin:∀ w' v',St w B p v w' v' (wFn s f)→jA w B p v (wFn s f).1 (wFn s f).2 w':=fun w' v' h=>h.post
 have hfr0:Fr (fun _=>False) w (w.alloc (.cells #[.slice a0 f.args.length n0,.int .i64 f.result,.int .i64 f.slots,.slice a3 f.objects.length n3,.slice a4 f.code.length n4] 66)):=(Fr.refl _ _).alloc _;have hs0:=hs0.fr hfr0 (fun _ _ h=>h);have hs3:=hs3.fr hfr0 (fun _ _ h=>h);have hs4:=hs4.fr hfr0 (fun _ _ h=>h);have hbase:St w B p v (w.alloc (.cells #[.slice a0 f.args.length n0,.int .i64 f.result,.int .i64 f.slots,.slice a3 f.objects.length n3,.slice a4 f.code.length n4] 66)) v s:=(St.refl hw).alloc _;have k1:=fun (w1:World) v1 t (h:St (w.alloc (.cells #[.slice a0 f.args.length n0,.int .i64 f.result,.int .i64 f.slots,.slice a3 f.objects.length n3,.slice a4 f.code.length n4] 66)) B p v w1 v1 t) =>
  (show w1.cell? ⟨w.heap.size,1,none⟩=some (.int .i64 f.result)∧w1.cell? ⟨w.heap.size,2,none⟩=some (.int .i64 f.slots)∧w1.cell? ⟨w.heap.size,3,none⟩=some (.slice a3 f.objects.length n3)∧w1.cell? ⟨w.heap.size,4,none⟩=some (.slice a4 f.code.length n4) from
   ⟨h.keep hD' (.inr rfl) (aI w _ _ _ 1),h.keep hD' (.inr rfl) (aI w _ _ _ 2),h.keep hD' (.inr rfl) (aI w _ _ _ 3),h.keep hD' (.inr rfl) (aI w _ _ _ 4)⟩)
 have hD0:Dom (w.alloc (.cells #[.slice a0 f.args.length n0,.int .i64 f.result,.int .i64 f.slots,.slice a3 f.objects.length n3,.slice a4 f.code.length n4] 66)) p v D:=fun k hk=>hD' k (.inl hk)
 generalize hwa:w.alloc (.cells #[.slice a0 f.args.length n0,.int .i64 f.result,.int .i64 f.slots,.slice a3 f.objects.length n3,.slice a4 f.code.length n4] 66)=wa at *;have hq0:wa.cell? ⟨w.heap.size,0,none⟩=some (.slice a0 f.args.length n0):=by rw[← hwa];exact aI w _ _ _ 0
 have l1:=rf hst0 hD0 n0 hs0 (by omega);have l2:=fun w1 v1 (h:St wa B p v w1 v1 (bH s f.args))=>qU h [f.result,f.slots] (by rw[dS];simp;omega)
 have l3:=fun w1 v1 (h:St wa B p v w1 v1 (bY (bH s f.args) [f.result,f.slots]))=>rf h hD0 n3 hs3 (by rw[eB,dS];simp;omega)
 have l4:=fun w1 v1 (h:St wa B p v w1 v1 (bH (bY (bH s f.args) [f.result,f.slots]) f.objects))=>qU h [(f.code.length:Int)] (by rw[dS,eB,dS];simp;omega)
 have l5:=fun w1 v1 t (h:St wa B p v w1 v1 t)=>GY f.code a4 n4 w1 hcode ((hs4.fr h.2.1 (mg hD0)).plain)
 obtain⟨code,E,hE1,hE2,hE3,hE4⟩:=Ij f.code;rw[hE1] at l5;have hfn:wFn s f=((bY (bH (bY (bH s f.args) [f.result,f.slots]) f.objects) [(f.code.length:Int)]).1 ++ bL code,(bY (bH (bY (bH s f.args) [f.result,f.slots]) f.objects) [(f.code.length:Int)]).2 || (E != 0)):=by
  rw[hE2,hE3];rfl
 rw[hfn] at hfin ⊢;have hl4:(bY (bH (bY (bH s f.args) [f.result,f.slots]) f.objects) [(f.code.length:Int)]).1.length+code.size≤10000000:=by
  rw[eB,dS,eB,dS];simp;omega
 generalize bY (bH (bY (bH s f.args) [f.result,f.slots]) f.objects) [(f.code.length:Int)]=s4 at *;generalize bH (bY (bH s f.args) [f.result,f.slots]) f.objects=s3 at *;generalize bY (bH s f.args) [f.result,f.slots]=s2 at *;generalize bH s f.args=s1 at *;have hsz:w.heap.size<wa.heap.size:=by rw[← hwa];simp
 have HWA:=k_ hwa;have HFIN:Hid (∀ w' v' t,t=(s4.1 ++ bL code,s4.2 || E != 0)→St wa B p v w' v' t→jA w B p v (s4.1 ++ bL code) (s4.2 || E != 0) w'):=fun w' v' t ht h=>hfin w' v' (by rw[← ht];exact hbase.trans h)
 have HL4:=k_ hl4;clear hst0 hfin hs0 hs3 hs4 hD0 hD' hD hw hfr0 hbase hE1 hE2 hE4 hfn hlen hcode hE3 hl4 hwa;have K1:=k_ k1;have L1:=k_ l1;have L2:=k_ l2;have L3:=k_ l3;have L4:=k_ l4;have L5:=k_ l5;clear k1 l1 l2 l3 l4 l5
 go_enter Tryz.func72,Tryz.ntmps72
 go_wp2_with fail;rw[HWA.out];refine L1.out.mono ?_;rintro e w1 ⟨rfl,v1,hst1⟩;obtain⟨q1,q2,q3,q4⟩:=K1.out _ _ _ hst1;have l:=L2.out _ _ hst1;have L:=k_ l;clear l hst1 hq0;go_wp2_with fail;refine L.out.mono ?_;rintro e w2 ⟨rfl,v2,hst2⟩;clear q1 q2 q3 q4;obtain⟨_,_,q3,q4⟩:=K1.out _ _ _ hst2;have l:=L3.out _ _ hst2;have L':=k_ l;clear l hst2;go_wp2_with fail;refine L'.out.mono ?_;rintro e w3 ⟨rfl,v3,hst3⟩;clear q3 q4;obtain⟨_,_,_,q4⟩:=K1.out _ _ _ hst3;have l:=L4.out _ _ hst3;have L3':=k_ l;clear l hst3;go_wp2_with fail;refine L3'.out.mono ?_;rintro e w4 ⟨rfl,v4,hst4⟩;clear q4;obtain⟨_,_,_,q4⟩:=K1.out _ _ _ hst4;have l:=L5.out _ _ _ hst4;have L5':=k_ l;have HST:=k_ hst4;clear l hst4;go_wp2_with fail;refine L5'.out.mono ?_;rintro e w5 ⟨rfl,hb5⟩;have hst5:=HST.out.below hb5;obtain⟨q0,q1,q2,q3⟩:=aN (show w5.heap[p]?=some (.cells #[v4,.bool s4.2] 125) from hst5.1.1);have HW4:=k_ hst5;clear hst5 hb5 q4
 cases hb4:s4.2
 ·rw[hb4] at q1
  cases hE:(E != 0)
  ·skip
   skip
   go_wp2_with (at_builtin;refine lc rfl (.tmp 48) (.tmp 49) rfl B s4.1 v4 rfl (Own.fr HW4.out.1.2.1 (Fr.setCell (Fr.refl (fun k=>k=p) _) (p:=⟨p,1,none⟩) (fun _=>rfl) (.bool false)) (fun k hk e=>HW4.out.1.2.2.1 (by rw[hk,e]))) code rfl ?c1 ?c2 ?_)
   case c1=>have:=HL4.out;omega
   case c2=>have:=HW4.out.1.2.2.2;have:=aj HW4.out.1.1;simp;omega
   intro v6 w6 hown6 hg6 hfr6;have e1:w6.heap[p]?=some (.cells #[v4,.bool false] 125):=by
    have hpl:=aj HW4.out.1.1;rw[hg6.block p (by simp;omega) (fun e=>HW4.out.1.2.2.1 e.symm)];exact gm HW4.out.1.1
   obtain⟨r0,r1,r2,r3⟩:=aN e1;have hv6:v6.ownBlock≠some p:=fun e=>by
    rcases hfr6 p e with h' | h'
    ·exact HW4.out.1.2.2.1 h'
    ·have:=aj HW4.out.1.1;simp at h';omega
   have hst6:St w5 B p v4 (w6.setCell ⟨p,0,none⟩ v6) v6 (s4.1 ++ bL code,false):=by
    refine⟨⟨fH e1,hown6.fr (Fr.setCell (Fr.refl (fun k=>k=p) _) (p:=⟨p,0,none⟩) (fun _=>rfl) _) (fun k hk e=>hv6 (by rw[hk,e])),hv6,HW4.out.1.2.2.2⟩,?_,?_⟩
    ·refine(((Fr.refl (wrF p v4) w5).setCell (p:=⟨p,1,none⟩) (fun _=>.inl rfl) _).grown hg6 (fun k hk _=>.inr hk)).setCell (p:=⟨p,0,none⟩) (fun _=>.inl rfl) _
    ·intro k hk
     rcases hfr6 k hk with h' | h'
     ·exact .inl h'
     ·exact .inr (by simp at h';exact h')
   have HFF:=k_ (HFIN.out _ _ _ (by rw[hb4];simp[*]) (HW4.out.trans hst6));obtain⟨a6,n6,c6,rfl⟩:=hown6.slice;clear hg6 hfr6 hown6 hst6 e1 hv6;go_wp2_with fail
   go_end0
   exact⟨rfl,HFF.out⟩
  ·skip
   skip
   go_wp2_with (at_builtin;refine lc rfl (.tmp 48) (.tmp 49) rfl B s4.1 v4 rfl (Own.fr HW4.out.1.2.1 (Fr.setCell (Fr.refl (fun k=>k=p) _) (p:=⟨p,1,none⟩) (fun _=>rfl) (.bool true)) (fun k hk e=>HW4.out.1.2.2.1 (by rw[hk,e]))) code rfl ?c1 ?c2 ?_)
   case c1=>have:=HL4.out;omega
   case c2=>have:=HW4.out.1.2.2.2;have:=aj HW4.out.1.1;simp;omega
   intro v6 w6 hown6 hg6 hfr6;have e1:w6.heap[p]?=some (.cells #[v4,.bool true] 125):=by
    have hpl:=aj HW4.out.1.1;rw[hg6.block p (by simp;omega) (fun e=>HW4.out.1.2.2.1 e.symm)];exact gm HW4.out.1.1
   obtain⟨r0,r1,r2,r3⟩:=aN e1;have hv6:v6.ownBlock≠some p:=fun e=>by
    rcases hfr6 p e with h' | h'
    ·exact HW4.out.1.2.2.1 h'
    ·have:=aj HW4.out.1.1;simp at h';omega
   have hst6:St w5 B p v4 (w6.setCell ⟨p,0,none⟩ v6) v6 (s4.1 ++ bL code,true):=by
    refine⟨⟨fH e1,hown6.fr (Fr.setCell (Fr.refl (fun k=>k=p) _) (p:=⟨p,0,none⟩) (fun _=>rfl) _) (fun k hk e=>hv6 (by rw[hk,e])),hv6,HW4.out.1.2.2.2⟩,?_,?_⟩
    ·refine(((Fr.refl (wrF p v4) w5).setCell (p:=⟨p,1,none⟩) (fun _=>.inl rfl) _).grown hg6 (fun k hk _=>.inr hk)).setCell (p:=⟨p,0,none⟩) (fun _=>.inl rfl) _
    ·intro k hk
     rcases hfr6 k hk with h' | h'
     ·exact .inl h'
     ·exact .inr (by simp at h';exact h')
   have HFF:=k_ (HFIN.out _ _ _ (by rw[hb4];simp[*]) (HW4.out.trans hst6));obtain⟨a6,n6,c6,rfl⟩:=hown6.slice;clear hg6 hfr6 hown6 hst6 e1 hv6;go_wp2_with fail
   go_end0
   exact⟨rfl,HFF.out⟩
 ·rw[hb4] at q1
  skip
  go_wp2_with (at_builtin;refine lc rfl (.tmp 48) (.tmp 49) rfl B s4.1 v4 rfl (Own.fr HW4.out.1.2.1 (Fr.setCell (Fr.refl (fun k=>k=p) _) (p:=⟨p,1,none⟩) (fun _=>rfl) (.bool true)) (fun k hk e=>HW4.out.1.2.2.1 (by rw[hk,e]))) code rfl ?c1 ?c2 ?_)
  case c1=>have:=HL4.out;omega
  case c2=>have:=HW4.out.1.2.2.2;have:=aj HW4.out.1.1;simp;omega
  intro v6 w6 hown6 hg6 hfr6;have e1:w6.heap[p]?=some (.cells #[v4,.bool true] 125):=by
   have hpl:=aj HW4.out.1.1;rw[hg6.block p (by simp;omega) (fun e=>HW4.out.1.2.2.1 e.symm)];exact gm HW4.out.1.1
  obtain⟨r0,r1,r2,r3⟩:=aN e1;have hv6:v6.ownBlock≠some p:=fun e=>by
   rcases hfr6 p e with h' | h'
   ·exact HW4.out.1.2.2.1 h'
   ·have:=aj HW4.out.1.1;simp at h';omega
  have hst6:St w5 B p v4 (w6.setCell ⟨p,0,none⟩ v6) v6 (s4.1 ++ bL code,true):=by
   refine⟨⟨fH e1,hown6.fr (Fr.setCell (Fr.refl (fun k=>k=p) _) (p:=⟨p,0,none⟩) (fun _=>rfl) _) (fun k hk e=>hv6 (by rw[hk,e])),hv6,HW4.out.1.2.2.2⟩,?_,?_⟩
   ·refine(((Fr.refl (wrF p v4) w5).setCell (p:=⟨p,1,none⟩) (fun _=>.inl rfl) _).grown hg6 (fun k hk _=>.inr hk)).setCell (p:=⟨p,0,none⟩) (fun _=>.inl rfl) _
   ·intro k hk
    rcases hfr6 k hk with h' | h'
    ·exact .inl h'
    ·exact .inr (by simp at h';exact h')
  have HFF:=k_ (HFIN.out _ _ _ (by rw[hb4];simp[*]) (HW4.out.trans hst6));obtain⟨a6,n6,c6,rfl⟩:=hown6.slice;clear hg6 hfr6 hown6 hst6 e1 hv6;go_wp2_with fail
  go_end0
  exact⟨rfl,HFF.out⟩
end Go.Proofs.YtlofbhoicbemnaaGreatDoor
