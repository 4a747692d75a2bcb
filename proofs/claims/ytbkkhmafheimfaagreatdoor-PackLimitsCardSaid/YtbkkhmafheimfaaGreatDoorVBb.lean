/- Walks: a step of flow: the kind that is set; the kinds behind it. Walks: what two lists have in common, the program's and the .. -/
import Derived.Test.YtbkkhmafheimfaaGreatDoorVBa
set_option linter.unusedVariables false
set_option linter.unusedSimpArgs false
set_option maxRecDepth 100000
set_option maxHeartbeats 6400000
namespace Go.Proofs.YtbkkhmafheimfaaGreatDoor
open Go.ChangeShapes Go.WideShapes Go.ChangeAt Go.RowKit
theorem setsF_any (w:World) (D:Nat→Prop) (p:Prg) (f:Fun) (K:List Int) (c0 c1 c2 d0 d3 d4 kv:Value) (i:Ins) (hv:StepV w D p f K c0 c1 c2 d0 d3 d4 kv) (ho:StepOk p f i K.length) (hob:∀ x ∈ f.objects,0≤x∧x<16) :
  Calls Tryz.prog 175 #[.agg (stepC c0 c1 c2 d0 d3 d4 kv f.result f.slots i)] w fun e w'=>e=.returned (.int .i64 (setsK p f i K))∧Below w.heap.size w w':=by
 obtain⟨op,a,b,c⟩:=i;have kd:=fun W h k=>kind_any W D p f K c0 c1 c2 d0 d3 d4 kv ⟨op,a,b,c⟩ h k
 have th:=fun W h k j=>through_any W D p f K c0 c1 c2 d0 d3 d4 kv ⟨op,a,b,c⟩ h k j
 have ca:=fun W h (hop:op=21)=>calleeF_any W D p f K c0 c1 c2 d0 d3 d4 kv ⟨op,a,b,c⟩ h (ho.call (.inl hop)).1
 have hgl:op=16→_:=ho.gload;have had:op=18→_:=ho.addr;have hnw:op=11∨op=13→_:=ho.news
 dsimp only at kd th ca hgl had hnw ⊢
 have hbx:=fun wr h=>box2 w (stepC c0 c1 c2 d0 d3 d4 kv f.result f.slots ⟨op,a,b,c⟩) #[.int .i64 op,.int .i64 a,.int .i64 b,.int .i64 c] 197 32 wr h
 have hz0:((w.alloc (.cells (stepC c0 c1 c2 d0 d3 d4 kv f.result f.slots ⟨op,a,b,c⟩) 197)).alloc (.cells #[.int .i64 op,.int .i64 a,.int .i64 b,.int .i64 c] 32)).heap.size=w.heap.size+2:=by simp
 obtain⟨W,hW⟩:∃ W,W=(w.alloc (.cells (stepC c0 c1 c2 d0 d3 d4 kv f.result f.slots ⟨op,a,b,c⟩) 197)).alloc (.cells #[.int .i64 op,.int .i64 a,.int .i64 b,.int .i64 c] 32):=⟨_,rfl⟩;rw[← hW] at hbx hz0;have hC0:Below w.heap.size w W:=(hbx W (by rw[← hz0];exact Below.refl _ _)).2.2.1;have q:∀ W',Below W.heap.size W W'→∀ j u,(stepC c0 c1 c2 d0 d3 d4 kv f.result f.slots ⟨op,a,b,c⟩)[j]?=some u→W'.cell? ⟨w.heap.size,j,none⟩=some u:=fun W' h=>(hbx W' (by rw[← hz0];exact h)).1
 have q2:∀ W',Below W.heap.size W W'→∀ j u,(#[.int .i64 op,.int .i64 a,.int .i64 b,.int .i64 c]:Array Value)[j]?=some u→W'.cell? ⟨w.heap.size+1,j,none⟩=some u:=fun W' h=>(hbx W' (by rw[← hz0];exact h)).2.1
 have HW:=k_ hW;clear hW hbx;have hvW:∀ W',Below W.heap.size W W'→StepV W' D p f K c0 c1 c2 d0 d3 d4 kv:=fun W' h=>hv.below (hC0.trans (h.mono hC0.size))
 obtain⟨o0,o1,o2,o3,o4,o5,o6⟩:=hv.one;have HQQ:=k_ q;have HQR:=k_ q2;clear q q2;have HC0:=k_ hC0;clear hC0;have HVW:=k_ hvW;clear hvW;have HZ0:=k_ hz0;clear hz0;have KD:=k_ fun W' (h:Below W.heap.size W W') k=>kd W' (HVW.out W' h) k
 have TH:=k_ fun W' (h:Below W.heap.size W W') kj=>th W' (HVW.out W' h) (Prod.fst kj) (Prod.snd kj)
 have CA:=k_ (ca W (HVW.out W (Below.refl _ _)));clear kd th ca ho;generalize hR:setsK p f ⟨op,a,b,c⟩ K=R at *;generalize f.slots=fs at *;generalize f.result=fr at *;have HR:=k_ hR;clear hR;have HV:=k_ hv;have HGL:=k_ hgl;have HAD:=k_ had;have HNW:=k_ hnw;have HOB:=k_ hob;clear hv hgl had hnw hob;unfold stepC at *
 go_enter Tryz.func175,Tryz.ntmps175
 go_upto_region 2 with fail
 rw[← HW.out];have p0:W.cell? ⟨w.heap.size,0,none⟩=some _:=HQQ.out _ (Below.refl _ _) 0 _ rfl;have p1:W.cell? ⟨w.heap.size,1,none⟩=some _:=HQQ.out _ (Below.refl _ _) 1 _ rfl;have p2:W.cell? ⟨w.heap.size,2,none⟩=some _:=HQQ.out _ (Below.refl _ _) 2 _ rfl;have p3:W.cell? ⟨w.heap.size,3,none⟩=some _:=HQQ.out _ (Below.refl _ _) 3 _ rfl;have p4:W.cell? ⟨w.heap.size,4,none⟩=some _:=HQQ.out _ (Below.refl _ _) 4 _ rfl;have p5:W.cell? ⟨w.heap.size,5,none⟩=some _:=HQQ.out _ (Below.refl _ _) 5 _ rfl;have p6:W.cell? ⟨w.heap.size,6,none⟩=some _:=HQQ.out _ (Below.refl _ _) 6 _ rfl;have p7:W.cell? ⟨w.heap.size,7,none⟩=some _:=HQQ.out _ (Below.refl _ _) 7 _ rfl;have p8:W.cell? ⟨w.heap.size,8,none⟩=some (.int .i64 _):=HQQ.out _ (Below.refl _ _) 8 _ rfl;have p9:W.cell? ⟨w.heap.size,9,none⟩=some (.int .i64 _):=HQQ.out _ (Below.refl _ _) 9 _ rfl;have p10:W.cell? ⟨w.heap.size,10,none⟩=some (.int .i64 _):=HQQ.out _ (Below.refl _ _) 10 _ rfl;have p11:W.cell? ⟨w.heap.size,11,none⟩=some (.int .i64 _):=HQQ.out _ (Below.refl _ _) 11 _ rfl;have p12:W.cell? ⟨w.heap.size,12,none⟩=some _:=HQQ.out _ (Below.refl _ _) 12 _ rfl;have r0:W.cell? ⟨w.heap.size+1,0,none⟩=some (.int .i64 _):=HQR.out _ (Below.refl _ _) 0 _ rfl;have r1:W.cell? ⟨w.heap.size+1,1,none⟩=some (.int .i64 _):=HQR.out _ (Below.refl _ _) 1 _ rfl;have r2:W.cell? ⟨w.heap.size+1,2,none⟩=some (.int .i64 _):=HQR.out _ (Below.refl _ _) 2 _ rfl;have r3:W.cell? ⟨w.heap.size+1,3,none⟩=some (.int .i64 _):=HQR.out _ (Below.refl _ _) 3 _ rfl
 by_cases h2:op=2
 ·subst h2
  have hrr:R=kindA K b:=by rw[← HR.out];simp[setsK]
  have kb:=fun W' h=>KD.out W' h b
  generalize kindA K b=x at *;have KB:=k_ kb;clear kb KD TH CA;have HRR:=k_ hrr;clear hrr HR;go_wp2_with fail;refine(KB.out _ (Below.refl _ _)).mono ?_;rintro e w1 ⟨rfl,hb1⟩;have HB1:=k_ ((Below.refl W.heap.size W).trans (hb1.mono (Below.refl W.heap.size W).size));have HG1:=k_ (HC0.out.trans (HB1.out.mono HC0.out.size));clear hb1;clear p0 p1 p2 p3 p4 p5 p6 p7 p8 p9 p10 p11 p12;clear r0 r1 r2 r3;go_wp2_with fail
  go_ret
  exact⟨by rw[HRR.out];rfl,HG1.out⟩
 by_cases h11:op=11
 ·subst h11
  have hrr:R=16+b:=by rw[← HR.out];simp[setsK]
  have i1:IntKind.i64.wrap (16+b)=16+b:=IntWalk.i64_in _ (by have:=HNW.out (by simp);omega);clear KD TH CA;have HRR:=k_ hrr;clear hrr HR;go_wp2_with fail
  go_ret
  exact⟨by rw[HRR.out];rfl,HC0.out⟩
 by_cases h13:op=13
 ·subst h13
  have hrr:R=16+b:=by rw[← HR.out];simp[setsK]
  have i1:IntKind.i64.wrap (16+b)=16+b:=IntWalk.i64_in _ (by have:=HNW.out (by simp);omega);clear KD TH CA;have HRR:=k_ hrr;clear hrr HR;go_wp2_with fail
  go_ret
  exact⟨by rw[HRR.out];rfl,HC0.out⟩
 by_cases h14:op=14
 ·subst h14
  have hrr:R=throughA p 14 K b c:=by rw[← HR.out];simp[setsK]
  have kb:=fun W' h=>TH.out W' h (b,c)
  generalize throughA p 14 K b c=x at *;have KB:=k_ kb;clear kb KD TH CA;have HRR:=k_ hrr;clear hrr HR;go_wp2_with fail;refine(KB.out _ (Below.refl _ _)).mono ?_;rintro e w1 ⟨rfl,hb1⟩;have HB1:=k_ ((Below.refl W.heap.size W).trans (hb1.mono (Below.refl W.heap.size W).size));have HG1:=k_ (HC0.out.trans (HB1.out.mono HC0.out.size));clear hb1;clear p0 p1 p2 p3 p4 p5 p6 p7 p8 p9 p10 p11 p12;clear r0 r1 r2 r3;go_wp2_with fail
  go_ret
  exact⟨by rw[HRR.out];rfl,HG1.out⟩
 by_cases h19:op=19
 ·subst h19
  have hrr:R=throughA p 19 K b c:=by rw[← HR.out];simp[setsK]
  have kb:=fun W' h=>TH.out W' h (b,c)
  generalize throughA p 19 K b c=x at *;have KB:=k_ kb;clear kb KD TH CA;have HRR:=k_ hrr;clear hrr HR;go_wp2_with fail;refine(KB.out _ (Below.refl _ _)).mono ?_;rintro e w1 ⟨rfl,hb1⟩;have HB1:=k_ ((Below.refl W.heap.size W).trans (hb1.mono (Below.refl W.heap.size W).size));have HG1:=k_ (HC0.out.trans (HB1.out.mono HC0.out.size));clear hb1;clear p0 p1 p2 p3 p4 p5 p6 p7 p8 p9 p10 p11 p12;clear r0 r1 r2 r3;go_wp2_with fail
  go_ret
  exact⟨by rw[HRR.out];rfl,HG1.out⟩
 by_cases h16:op=16
 ·subst h16
  have hrr:R=globA p b:=by rw[← HR.out];simp[setsK]
  obtain⟨⟨ga,gc,hc0,hgl⟩,_⟩:=(HVW.out W (Below.refl _ _)).prg;obtain⟨j,hja⟩:∃ j:Nat,b=j:=⟨b.toNat,by have:=HGL.out rfl;omega⟩;have hj:j<p.globals.length:=by have:=HGL.out rfl;omega
  have hga:globA p b=p.globals[j]:=by unfold globA;rw[hja];simp[hj]
  obtain⟨gb,go,hgae,_,hx⟩:=hgl j hj;rw[hga] at hrr;subst hja hc0 hgae;have hlt:(j:Int)<(p.globals.length:Int):=by omega
  clear hga hgl HGL HVW;generalize p.globals[j]=y at *;generalize p.globals.length=n at *;clear KD TH CA;have HRR:=k_ hrr;clear hrr HR;go_wp2_with fail
  go_ret
  exact⟨by rw[HRR.out];rfl,HC0.out⟩
 by_cases h18:op=18
 ·subst h18
  have hrr:R=64+(f.objects[b.toNat]?).getD 0:=by rw[← HR.out];simp[setsK]
  obtain⟨_,_,_,⟨ga,gc,hc0,hgl⟩,_⟩:=(HVW.out W (Below.refl _ _)).fn;obtain⟨j,hja⟩:∃ j:Nat,b=j:=⟨b.toNat,by have:=HAD.out rfl;omega⟩;have hj:j<f.objects.length:=by have:=HAD.out rfl;omega
  have hga:(f.objects[b.toNat]?).getD 0=f.objects[j]:=by rw[hja];simp[hj]
  have hob:=HOB.out _ (List.getElem_mem hj);obtain⟨gb,go,hgae,_,hx⟩:=hgl j hj;rw[hga] at hrr;have i1:IntKind.i64.wrap (64+f.objects[j])=64+f.objects[j]:=IntWalk.i64_in _ (by omega);subst hja hc0 hgae;have hlt:(j:Int)<(f.objects.length:Int):=by omega
  clear hga hgl HAD HVW HOB hob;generalize f.objects[j]=y at *;generalize f.objects.length=n at *;clear KD TH CA;have HRR:=k_ hrr;clear hrr HR;go_wp2_with fail
  go_ret
  exact⟨by rw[HRR.out];rfl,HC0.out⟩
 by_cases h21:op=21
 ·subst h21
  have hrr:R=(calleeR p b).result:=by rw[← HR.out];simp[setsK]
  have CA2:=k_ (CA.out rfl);clear KD TH CA;generalize calleeR p b=g at *;unfold FunPost at CA2;have HRR:=k_ hrr;clear hrr HR;go_wp2_with fail;refine CA2.out.mono ?_;rintro e w1 ⟨x0,x3,x4,rfl,_,hb1⟩;have HG1:=k_ (HC0.out.trans (hb1.mono HC0.out.size));clear hb1 CA2;clear p0 p1 p2 p3 p4 p5 p6 p7 p8 p9 p10 p11 p12;clear r0 r1 r2 r3;have fa:=fun w=>fld_result x0 g.result g.slots x3 x4 w
  generalize g.result=gr at *;generalize g.slots=gs at *;go_wp2_with fail
  go_ret
  exact⟨by rw[HRR.out];rfl,HG1.out⟩
 have hrr:R=1:=by
  rw[← HR.out];unfold setsK
  dsimp only
  rw[if_neg (by omega),if_neg (by omega),if_neg (by omega),if_neg (by omega),if_neg (by omega),if_neg (by omega)]
 have n2:(op == 2)=false:=by simpa using h2
 have n11:(op == 11)=false:=by simpa using h11
 have n13:(op == 13)=false:=by simpa using h13
 have n14:(op == 14)=false:=by simpa using h14
 have n19:(op == 19)=false:=by simpa using h19
 have n16:(op == 16)=false:=by simpa using h16
 have n18:(op == 18)=false:=by simpa using h18
 have n21:(op == 21)=false:=by simpa using h21
 clear h2 h11 h13 h14 h19 h16 h18 h21 KD TH CA;have HRR:=k_ hrr;clear hrr HR;go_wp2_with fail
 go_ret
 exact⟨by rw[HRR.out];rfl,HC0.out⟩
theorem joinL_take (l m:List Int) (k:Nat) (h:k<l.length) (h2:k<m.length):(joinL l m).take (k+1)=(joinL l m).take k ++ [if l[k]=m[k] then l[k] else 0]:=by
 have hk:k<(joinL l m).length:=by rw[joinL_len];omega
 rw[take_snoc _ k hk]
 simp[joinL]
theorem joinL_all (l m:List Int) (k:Nat) (h:¬ (k<l.length∧k<m.length)) (hk:k≤l.length∧k≤m.length):(joinL l m).take k=joinL l m:=by
 rw[List.take_of_length_le (by rw[joinL_len];omega)]
theorem join_any (w:World) (D D':Nat→Prop) (a a':Option Addr) (l m:List Int) (c c':Nat) (hl:IntSl w D a l) (hm:IntSl w D' a' m) (hn:l.length≤100000) (hn2:m.length≤100000) :
  Calls Tryz.prog 170 #[.slice a l.length c,.slice a' m.length c'] w fun e w'=>∃ v,e=.returned v∧Own intE w' w.heap.size v (joinL l m)∧Below w.heap.size w w':=by
 by_cases hmin:(l.length:Int)≤(m.length:Int)
 ·go_enter Tryz.func170,Tryz.ntmps170
  go_upto_region 3 with fail
  go_loopw [5,12] (fun v i wr=>∃ k:Nat,k≤l.length∧k≤m.length∧i=.int .i64 k∧Own intE wr w.heap.size v ((joinL l m).take k)∧Below w.heap.size w wr) (fun _ i _=>l.length - (intOf i).toNat)
  case atStart=>exact⟨0,Nat.zero_le _,Nat.zero_le _,rfl,Own.nil _ _ _,Below.refl _ _⟩
  case round =>
   obtain⟨k,hk1,hk2,rfl,hown,hB⟩:=hrel
   by_cases hlt:k<l.length∧k<m.length
   ·obtain⟨h1,h2⟩:=hlt
    obtain⟨b1,o1,rfl,_,q1⟩:=hl k h1;obtain⟨b2,o2,rfl,_,q2⟩:=hm k h2;have q1:=below_cell hB q1;have q2:=below_cell hB q2;have hjs:=joinL_take l m k h1 h2;have hjl:((joinL l m).take k).length=k:=by rw[List.length_take,joinL_len];omega
    have n1:(k:Int)<(l.length:Int):=by omega
    have n2:(k:Int)<(m.length:Int):=by omega
    generalize (joinL l m).take k=J at *;generalize l[k]=x at *;generalize m[k]=y at *;have HJL:=k_ hjl;clear hjl hl hm;have HOWN:=k_ hown;have HB:=k_ hB;clear hown hB;have i1:IntKind.i64.wrap ((k:Int)+1)=(k:Int)+1:=IntWalk.i64_in _ (by omega)
    by_cases hxy:x=y
    ·subst hxy
     rw[if_pos rfl] at hjs;have HJS:=k_ hjs;clear hjs
     go_upto_region 5 with fail
     go_quiet (fail)
     have HOQ:=k_ (HOWN.out.below (below_drewN (Below.refl wr.heap.size wr) nq));have HBQ:=k_ (below_drewN HB.out nq);have q1:=below_cell (below_drewN (Below.refl wr.heap.size wr) nq) q1;clear HOWN HB q2
     go_wp2_with (at_builtin;refine append_own intE rfl (.tmp 24) (.tmp 29) rfl w.heap.size J [x] _ rfl (HOQ.out.alloc _) wr.heap.size 0 1 rfl (CellsAt.new _ _ _ _) ?c1 ?c2 ?_)
     case c1=>rw[HJL.out];simp;omega
     case c2=>have hz:(wr.drewN nq).heap.size=wr.heap.size:=rfl;have:=HBQ.out.size;simp;omega
     intro v2 w2 hown2 hg2;have hB2:=k_ (below_grown (HBQ.out.alloc HBQ.out.size _) (HOQ.out.alloc _) hg2 (by have hz:(wr.drewN nq).heap.size=wr.heap.size:=rfl;have:=HBQ.out.size;simp;omega) (Nat.le_refl _));have HO2:=k_ hown2;clear hown2 hg2;go_wp2_with fail
     go_roundw
     case rel=>exact⟨k+1,by omega,by omega,by go_num,by rw[HJS.out];exact HO2.out,hB2.out⟩
     case measure=>simp[intOf];omega
    ·have hne:(x == y)=false:=by simpa using hxy
     rw[if_neg hxy] at hjs;have HJS:=k_ hjs;clear hjs hxy
     go_upto_region 5 with fail
     go_quiet (fail)
     have HOQ:=k_ (HOWN.out.below (below_drewN (Below.refl wr.heap.size wr) nq));have HBQ:=k_ (below_drewN HB.out nq);clear HOWN HB q1 q2
     go_wp2_with (at_builtin;refine append_own intE rfl (.tmp 31) (.tmp 32) rfl w.heap.size J [0] _ rfl (HOQ.out.alloc _) wr.heap.size 0 1 rfl (CellsAt.new _ _ _ _) ?c1 ?c2 ?_)
     case c1=>rw[HJL.out];simp;omega
     case c2=>have hz:(wr.drewN nq).heap.size=wr.heap.size:=rfl;have:=HBQ.out.size;simp;omega
     intro v2 w2 hown2 hg2;have hB2:=k_ (below_grown (HBQ.out.alloc HBQ.out.size _) (HOQ.out.alloc _) hg2 (by have hz:(wr.drewN nq).heap.size=wr.heap.size:=rfl;have:=HBQ.out.size;simp;omega) (Nat.le_refl _));have HO2:=k_ hown2;clear hown2 hg2;go_wp2_with fail
     go_roundw
     case rel=>exact⟨k+1,by omega,by omega,by go_num,by rw[HJS.out];exact HO2.out,hB2.out⟩
     case measure=>simp[intOf];omega
   ·have hall:=joinL_all l m k hlt ⟨hk1,hk2⟩
    rw[hall] at hown;have HOWN:=k_ hown;clear hown;have HB:=k_ hB;clear hB;have HALL:=k_ hall;clear hall;have n3:¬ ((k:Int)<(l.length:Int)∧(k:Int)<(m.length:Int)):=by omega
    clear hl hm
    by_cases n4:(k:Int)<(l.length:Int)
    ·have n5:¬ (k:Int)<(m.length:Int):=fun h=>n3 ⟨n4,h⟩
     clear n3 hlt
     (exfalso;omega)
    ·skip
     clear n3 hlt
     (go_wp2_with fail;go_ret;exact⟨_,rfl,HOWN.out,HB.out⟩)
 ·have hmin:(m.length:Int)<(l.length:Int):=by omega
  go_enter Tryz.func170,Tryz.ntmps170
  go_upto_region 3 with fail
  go_loopw [5,12] (fun v i wr=>∃ k:Nat,k≤l.length∧k≤m.length∧i=.int .i64 k∧Own intE wr w.heap.size v ((joinL l m).take k)∧Below w.heap.size w wr) (fun _ i _=>l.length - (intOf i).toNat)
  case atStart=>exact⟨0,Nat.zero_le _,Nat.zero_le _,rfl,Own.nil _ _ _,Below.refl _ _⟩
  case round =>
   obtain⟨k,hk1,hk2,rfl,hown,hB⟩:=hrel
   by_cases hlt:k<l.length∧k<m.length
   ·obtain⟨h1,h2⟩:=hlt
    obtain⟨b1,o1,rfl,_,q1⟩:=hl k h1;obtain⟨b2,o2,rfl,_,q2⟩:=hm k h2;have q1:=below_cell hB q1;have q2:=below_cell hB q2;have hjs:=joinL_take l m k h1 h2;have hjl:((joinL l m).take k).length=k:=by rw[List.length_take,joinL_len];omega
    have n1:(k:Int)<(l.length:Int):=by omega
    have n2:(k:Int)<(m.length:Int):=by omega
    generalize (joinL l m).take k=J at *;generalize l[k]=x at *;generalize m[k]=y at *;have HJL:=k_ hjl;clear hjl hl hm;have HOWN:=k_ hown;have HB:=k_ hB;clear hown hB;have i1:IntKind.i64.wrap ((k:Int)+1)=(k:Int)+1:=IntWalk.i64_in _ (by omega)
    by_cases hxy:x=y
    ·subst hxy
     rw[if_pos rfl] at hjs;have HJS:=k_ hjs;clear hjs
     go_upto_region 5 with fail
     go_quiet (fail)
     have HOQ:=k_ (HOWN.out.below (below_drewN (Below.refl wr.heap.size wr) nq));have HBQ:=k_ (below_drewN HB.out nq);have q1:=below_cell (below_drewN (Below.refl wr.heap.size wr) nq) q1;clear HOWN HB q2
     go_wp2_with (at_builtin;refine append_own intE rfl (.tmp 24) (.tmp 29) rfl w.heap.size J [x] _ rfl (HOQ.out.alloc _) wr.heap.size 0 1 rfl (CellsAt.new _ _ _ _) ?c1 ?c2 ?_)
     case c1=>rw[HJL.out];simp;omega
     case c2=>have hz:(wr.drewN nq).heap.size=wr.heap.size:=rfl;have:=HBQ.out.size;simp;omega
     intro v2 w2 hown2 hg2;have hB2:=k_ (below_grown (HBQ.out.alloc HBQ.out.size _) (HOQ.out.alloc _) hg2 (by have hz:(wr.drewN nq).heap.size=wr.heap.size:=rfl;have:=HBQ.out.size;simp;omega) (Nat.le_refl _));have HO2:=k_ hown2;clear hown2 hg2;go_wp2_with fail
     go_roundw
     case rel=>exact⟨k+1,by omega,by omega,by go_num,by rw[HJS.out];exact HO2.out,hB2.out⟩
     case measure=>simp[intOf];omega
    ·have hne:(x == y)=false:=by simpa using hxy
     rw[if_neg hxy] at hjs;have HJS:=k_ hjs;clear hjs hxy
     go_upto_region 5 with fail
     go_quiet (fail)
     have HOQ:=k_ (HOWN.out.below (below_drewN (Below.refl wr.heap.size wr) nq));have HBQ:=k_ (below_drewN HB.out nq);clear HOWN HB q1 q2
     go_wp2_with (at_builtin;refine append_own intE rfl (.tmp 31) (.tmp 32) rfl w.heap.size J [0] _ rfl (HOQ.out.alloc _) wr.heap.size 0 1 rfl (CellsAt.new _ _ _ _) ?c1 ?c2 ?_)
     case c1=>rw[HJL.out];simp;omega
     case c2=>have hz:(wr.drewN nq).heap.size=wr.heap.size:=rfl;have:=HBQ.out.size;simp;omega
     intro v2 w2 hown2 hg2;have hB2:=k_ (below_grown (HBQ.out.alloc HBQ.out.size _) (HOQ.out.alloc _) hg2 (by have hz:(wr.drewN nq).heap.size=wr.heap.size:=rfl;have:=HBQ.out.size;simp;omega) (Nat.le_refl _));have HO2:=k_ hown2;clear hown2 hg2;go_wp2_with fail
     go_roundw
     case rel=>exact⟨k+1,by omega,by omega,by go_num,by rw[HJS.out];exact HO2.out,hB2.out⟩
     case measure=>simp[intOf];omega
   ·have hall:=joinL_all l m k hlt ⟨hk1,hk2⟩
    rw[hall] at hown;have HOWN:=k_ hown;clear hown;have HB:=k_ hB;clear hB;have HALL:=k_ hall;clear hall;have n3:¬ ((k:Int)<(l.length:Int)∧(k:Int)<(m.length:Int)):=by omega
    clear hl hm
    by_cases n4:(k:Int)<(l.length:Int)
    ·have n5:¬ (k:Int)<(m.length:Int):=fun h=>n3 ⟨n4,h⟩
     clear n3 hlt
     (go_wp2_with fail;go_ret;exact⟨_,rfl,HOWN.out,HB.out⟩)
    ·skip
     clear n3 hlt
     (exfalso;omega)
theorem own_put {w:World} {B:Nat} {v:Value} {l:List Int} (h:Own intE w B v l) (k:Nat) (hk:k<l.length) :
  ∃ g c,v=.slice (some ⟨g,0,none⟩) l.length c∧B≤g∧w.cell? ⟨g,k,none⟩=some (.int .i64 l[k])∧w.frozen? ⟨g,k,none⟩=false∧∀ x,Own intE (w.setCell ⟨g,k,none⟩ (.int .i64 x)) B v (l.set k x):=by
 obtain⟨a,c,hv,hsl⟩:=own_int h;obtain⟨b,o,ha,hb,hc⟩:=hsl k hk;have hb:v.ownBlock=some b:=hb;obtain⟨h1,h2⟩:=h
 rcases h2 with⟨rfl,hz⟩ | ⟨g,cap,cur,hv2,hbg,hg,hnc,hcm,hcs,htake⟩
 ·cases hb
 ·rw[hv] at hv2
  injection hv2 with e1 e2 e3
  subst e1 e3
  injection ha with ha
  injection ha with ha1 ha2
  subst ha1 ha2;rw[Nat.zero_add] at hc;refine⟨g,c,hv,hbg,hc,(row_cell hg k).2,fun x=>⟨?_,.inr ⟨g,c,cur.setIfInBounds k (.int .i64 x),by rw[List.length_set];exact hv,hbg,?_,by rw[List.length_set];exact hnc,hcm,by simpa using hcs,?_⟩⟩⟩
  ·rw[intE.len,List.length_set]
  ·simp only[World.setCell,Array.getElem?_modify,if_pos rfl,hg,Option.map]
   rfl
  ·have e1:(l.set k x).flatMap intE.enc=(l.flatMap intE.enc).set k (.int .i64 x):=by
    have hm:∀ m:List Int,m.flatMap intE.enc=m.map (Value.int .i64):=fun m=>by
     induction m with
     | nil=>rfl
     | cons y m ih=>rw[List.flatMap_cons,ih];rfl
    rw[hm,hm,List.map_set]
   rw[e1,← htake,List.length_set]
   simp[List.take_set]
theorem below_put {a w:World} (h:Below a.heap.size a w) {g j:Nat} (hg:a.heap.size≤g) (u:Value):Below a.heap.size a (w.setCell ⟨g,j,none⟩ u) :=
 h.trans (((Fr.refl (onB g) w).setCell (p:=⟨g,j,none⟩) (fun _=>rfl) u).below h.size (fun k hk=>by unfold onB at hk;omega))
theorem after_any (w:World) (D:Nat→Prop) (p:Prg) (f:Fun) (K:List Int) (c0 c1 c2 d0 d3 d4 kv:Value) (i:Ins) (hv:StepV w D p f K c0 c1 c2 d0 d3 d4 kv) (ho:StepOk p f i K.length) (hn:K.length≤3000) (hob:∀ x ∈ f.objects,0≤x∧x<16) :
  Calls Tryz.prog 106 #[.agg (stepC c0 c1 c2 d0 d3 d4 kv f.result f.slots i)] w fun e w'=>∃ v,e=.returned (.tuple #[v,.bool (readsK p f.result i K)])∧Own intE w' w.heap.size v (outK p f i K)∧Below w.heap.size w w':=by
 obtain⟨op,a,b,c⟩:=i;have rd:=fun W h=>readsF_any W D p f K c0 c1 c2 d0 d3 d4 kv ⟨op,a,b,c⟩ h ho hn
 have se:=fun W h=>setsF_any W D p f K c0 c1 c2 d0 d3 d4 kv ⟨op,a,b,c⟩ h ho hob
 have ca:=fun W h (hop:op=21)=>calleeF_any W D p f K c0 c1 c2 d0 d3 d4 kv ⟨op,a,b,c⟩ h (ho.call (.inl hop)).1
 have hsets:writesK p ⟨op,a,b,c⟩=true→_:=ho.sets;have hrec:op=26→_:=ho.recov;have hout:outK p f ⟨op,a,b,c⟩ K=if op=26 then (if writesK p ⟨op,a,b,c⟩ then K.set a.toNat (if readsK p f.result ⟨op,a,b,c⟩ K then setsK p f ⟨op,a,b,c⟩ K else 0) else K).set b.toNat 16 else (if writesK p ⟨op,a,b,c⟩ then K.set a.toNat (if readsK p f.result ⟨op,a,b,c⟩ K then setsK p f ⟨op,a,b,c⟩ K else 0) else K):=rfl;have hwk:writesK p ⟨op,a,b,c⟩=(writesS op && (op != 21 || (calleeR p b).result != 0)):=rfl;have wr:=fun W=>wr_any W op a b c
 dsimp only at rd se ca hsets hrec ⊢
 have hC0:=(Below.refl w.heap.size w).alloc (Nat.le_refl _) (.cells (stepC c0 c1 c2 d0 d3 d4 kv f.result f.slots ⟨op,a,b,c⟩) 197);have hbx:=box1 w (stepC c0 c1 c2 d0 d3 d4 kv f.result f.slots ⟨op,a,b,c⟩) 197 _ (Below.refl _ _);have hz0:(w.alloc (.cells (stepC c0 c1 c2 d0 d3 d4 kv f.result f.slots ⟨op,a,b,c⟩) 197)).heap.size=w.heap.size+1:=by simp
 obtain⟨W,hW⟩:∃ W,W=w.alloc (.cells (stepC c0 c1 c2 d0 d3 d4 kv f.result f.slots ⟨op,a,b,c⟩) 197):=⟨_,rfl⟩;rw[← hW] at hC0 hbx hz0;have q:∀ W',Below W.heap.size W W'→∀ j u,(stepC c0 c1 c2 d0 d3 d4 kv f.result f.slots ⟨op,a,b,c⟩)[j]?=some u→W'.cell? ⟨w.heap.size,j,none⟩=some u:=fun W' h j u hj=>below_cell h (hbx.1 j u hj)
 clear hbx;have HW:=k_ hW;clear hW;have hvW:∀ W',Below W.heap.size W W'→StepV W' D p f K c0 c1 c2 d0 d3 d4 kv:=fun W' h=>hv.below (hC0.trans (h.mono hC0.size))
 obtain⟨o0,o1,o2,o3,o4,o5,o6⟩:=hv.one;have HQQ:=k_ q;clear q;have HC0:=k_ hC0;clear hC0;have HVW:=k_ hvW;clear hvW;have HZ0:=k_ hz0;clear hz0;obtain⟨ka,kc,hkv,hks⟩:=(HVW.out W (Below.refl _ _)).ks;have cl:=fun W' (h:Below W.heap.size W W')=>cloneInts_any W' D ka K kc (hks.fr (Fr.of_below h (fun _=>False)) (fun _ _ h=>h)) (by omega)
 subst hkv;have RD:=k_ fun W' (h:Below W.heap.size W W')=>rd W' (HVW.out W' h)
 have SE:=k_ fun W' (h:Below W.heap.size W W')=>se W' (HVW.out W' h)
 have CA:=k_ fun W' (h:Below W.heap.size W W') hop=>ca W' (HVW.out W' h) hop
 clear rd se ca hv ho hks;generalize outK p f ⟨op,a,b,c⟩ K=KO at *;generalize readsK p f.result ⟨op,a,b,c⟩ K=R at *;generalize setsK p f ⟨op,a,b,c⟩ K=S at *;generalize writesK p ⟨op,a,b,c⟩=z at *;generalize calleeR p b=g at *;obtain⟨va,ws,hva⟩:∃ (va:Int) (ws:Bool),va=(if writesS op=true then a else 0)∧ws=writesS op:=⟨_,_,rfl,rfl⟩;rw[← hva.1,← hva.2] at wr;rw[← hva.2] at hwk;obtain⟨K1,hK1⟩:∃ K1,K1=if z=true then K.set a.toNat (if R=true then S else 0) else K:=⟨_,rfl⟩;rw[← hK1] at hout;have hl1:K1.length=K.length:=by rw[hK1];split <;> simp
 have HHB:=k_ hob;clear hob;generalize f.result=fr at *;generalize f.slots=fs at *;unfold FunPost at CA;have CL:=k_ cl;clear cl;have WR:=k_ wr;clear wr;have HSETS:=k_ hsets;clear hsets;have HREC:=k_ hrec;clear hrec;have HOUT:=k_ hout;clear hout;have HWK:=k_ hwk;clear hwk;have HVA:=k_ hva;clear hva;have HK1:=k_ hK1;clear hK1;have HL1:=k_ hl1;clear hl1;have HN:=k_ hn;clear hn;unfold stepC at *
 go_enter Tryz.func106,Tryz.ntmps106
 go_upto_region 1 with fail
 rw[← HW.out];have p0:W.cell? ⟨w.heap.size,0,none⟩=some _:=HQQ.out _ (Below.refl _ _) 0 _ rfl;have p1:W.cell? ⟨w.heap.size,1,none⟩=some _:=HQQ.out _ (Below.refl _ _) 1 _ rfl;have p2:W.cell? ⟨w.heap.size,2,none⟩=some _:=HQQ.out _ (Below.refl _ _) 2 _ rfl;have p3:W.cell? ⟨w.heap.size,3,none⟩=some _:=HQQ.out _ (Below.refl _ _) 3 _ rfl;have p4:W.cell? ⟨w.heap.size,4,none⟩=some _:=HQQ.out _ (Below.refl _ _) 4 _ rfl;have p5:W.cell? ⟨w.heap.size,5,none⟩=some _:=HQQ.out _ (Below.refl _ _) 5 _ rfl;have p6:W.cell? ⟨w.heap.size,6,none⟩=some _:=HQQ.out _ (Below.refl _ _) 6 _ rfl;have p7:W.cell? ⟨w.heap.size,7,none⟩=some _:=HQQ.out _ (Below.refl _ _) 7 _ rfl;have p8:W.cell? ⟨w.heap.size,8,none⟩=some (.int .i64 _):=HQQ.out _ (Below.refl _ _) 8 _ rfl;have p9:W.cell? ⟨w.heap.size,9,none⟩=some (.int .i64 _):=HQQ.out _ (Below.refl _ _) 9 _ rfl;have p10:W.cell? ⟨w.heap.size,10,none⟩=some (.int .i64 _):=HQQ.out _ (Below.refl _ _) 10 _ rfl;have p11:W.cell? ⟨w.heap.size,11,none⟩=some (.int .i64 _):=HQQ.out _ (Below.refl _ _) 11 _ rfl;have p12:W.cell? ⟨w.heap.size,12,none⟩=some _:=HQQ.out _ (Below.refl _ _) 12 _ rfl;have HR0:=k_ ((Below.refl W.heap.size W).drew)
 go_cut [4,5] (fun v m wx=>m=.bool R∧Own intE wx W.heap.size v K∧Below W.heap.size W wx)
 case first =>
  go_region_law (first
   | (go_simp
      go_at_call 172
      refine(RD.out _ HBC.out).mono ?_;rintro e w1 ⟨rfl,hb1⟩;have HOW:=k_ (HO2.out.below hb1);have HBR:=k_ (HBC.out.trans (hb1.mono HBC.out.size));clear hb1)
   | (go_simp
      go_at_call 47
      refine(CL.out _ HBR.out).mono ?_;rintro e w2 ⟨v,rfl,ho2,hb2⟩;have HBC:=k_ (HBR.out.trans (hb2.mono HBR.out.size));have HO2:=k_ (ho2.base (fun k hk=>Nat.le_trans HBR.out.size (ho2.lt hk).1));clear ho2 hb2)
   | (go_simp
      go_at_call 172
      refine(RD.out _ HR0.out).mono ?_;rintro e w1 ⟨rfl,hb1⟩;have HBR:=k_ (HR0.out.trans (hb1.mono HR0.out.size));have p12:=below_cell HBR.out p12;clear hb1)
   | (go_simp
      go_at_call 47
      refine(CL.out _ HR0.out).mono ?_;rintro e w2 ⟨v,rfl,ho2,hb2⟩;have HBC:=k_ (HR0.out.trans (hb2.mono HR0.out.size));have HO2:=k_ (ho2.base (fun k hk=>Nat.le_trans HR0.out.size (ho2.lt hk).1));clear ho2 hb2;clear p0 p1 p2 p3 p4 p5 p6 p7 p8 p9 p10 p11 p12;have p0:w2.cell? ⟨w.heap.size,0,none⟩=some _:=HQQ.out _ HBC.out 0 _ rfl;have p1:w2.cell? ⟨w.heap.size,1,none⟩=some _:=HQQ.out _ HBC.out 1 _ rfl;have p2:w2.cell? ⟨w.heap.size,2,none⟩=some _:=HQQ.out _ HBC.out 2 _ rfl;have p3:w2.cell? ⟨w.heap.size,3,none⟩=some _:=HQQ.out _ HBC.out 3 _ rfl;have p4:w2.cell? ⟨w.heap.size,4,none⟩=some _:=HQQ.out _ HBC.out 4 _ rfl;have p5:w2.cell? ⟨w.heap.size,5,none⟩=some _:=HQQ.out _ HBC.out 5 _ rfl;have p6:w2.cell? ⟨w.heap.size,6,none⟩=some _:=HQQ.out _ HBC.out 6 _ rfl;have p7:w2.cell? ⟨w.heap.size,7,none⟩=some _:=HQQ.out _ HBC.out 7 _ rfl;have p8:w2.cell? ⟨w.heap.size,8,none⟩=some (.int .i64 _):=HQQ.out _ HBC.out 8 _ rfl;have p9:w2.cell? ⟨w.heap.size,9,none⟩=some (.int .i64 _):=HQQ.out _ HBC.out 9 _ rfl;have p10:w2.cell? ⟨w.heap.size,10,none⟩=some (.int .i64 _):=HQQ.out _ HBC.out 10 _ rfl;have p11:w2.cell? ⟨w.heap.size,11,none⟩=some (.int .i64 _):=HQQ.out _ HBC.out 11 _ rfl;have p12:w2.cell? ⟨w.heap.size,12,none⟩=some _:=HQQ.out _ HBC.out 12 _ rfl
      skip))
  all_goals
   go_wp2_with fail
   go_meet
   first
   | exact⟨rfl,HO2.out,HBC.out⟩
   | exact⟨rfl,HOW.out,HBR.out⟩
 case rest =>
  obtain⟨rfl,ho,hb⟩:=hcut;have HO:=k_ ho;have HB:=k_ hb;clear ho hb RD CL HR0;clear p0 p1 p2 p3 p4 p5 p6 p7 p8 p9 p10 p11 p12;have p0:wc.cell? ⟨w.heap.size,0,none⟩=some _:=HQQ.out _ HB.out 0 _ rfl;have p1:wc.cell? ⟨w.heap.size,1,none⟩=some _:=HQQ.out _ HB.out 1 _ rfl;have p2:wc.cell? ⟨w.heap.size,2,none⟩=some _:=HQQ.out _ HB.out 2 _ rfl;have p3:wc.cell? ⟨w.heap.size,3,none⟩=some _:=HQQ.out _ HB.out 3 _ rfl;have p4:wc.cell? ⟨w.heap.size,4,none⟩=some _:=HQQ.out _ HB.out 4 _ rfl;have p5:wc.cell? ⟨w.heap.size,5,none⟩=some _:=HQQ.out _ HB.out 5 _ rfl;have p6:wc.cell? ⟨w.heap.size,6,none⟩=some _:=HQQ.out _ HB.out 6 _ rfl;have p7:wc.cell? ⟨w.heap.size,7,none⟩=some _:=HQQ.out _ HB.out 7 _ rfl;have p8:wc.cell? ⟨w.heap.size,8,none⟩=some (.int .i64 _):=HQQ.out _ HB.out 8 _ rfl;have p9:wc.cell? ⟨w.heap.size,9,none⟩=some (.int .i64 _):=HQQ.out _ HB.out 9 _ rfl;have p10:wc.cell? ⟨w.heap.size,10,none⟩=some (.int .i64 _):=HQQ.out _ HB.out 10 _ rfl;have p11:wc.cell? ⟨w.heap.size,11,none⟩=some (.int .i64 _):=HQQ.out _ HB.out 11 _ rfl;have p12:wc.cell? ⟨w.heap.size,12,none⟩=some _:=HQQ.out _ HB.out 12 _ rfl;go_wp2_with fail;refine(WR.out _).mono ?_;rintro e w3 ⟨rfl,hb3⟩;have HO3:=k_ (HO.out.below hb3);have HB3:=k_ (HB.out.trans (hb3.mono HB.out.size));clear hb3 HO HB;clear p0 p1 p2 p3 p4 p5 p6 p7 p8 p9 p10 p11 p12;have p0:w3.cell? ⟨w.heap.size,0,none⟩=some _:=HQQ.out _ HB3.out 0 _ rfl;have p1:w3.cell? ⟨w.heap.size,1,none⟩=some _:=HQQ.out _ HB3.out 1 _ rfl;have p2:w3.cell? ⟨w.heap.size,2,none⟩=some _:=HQQ.out _ HB3.out 2 _ rfl;have p3:w3.cell? ⟨w.heap.size,3,none⟩=some _:=HQQ.out _ HB3.out 3 _ rfl;have p4:w3.cell? ⟨w.heap.size,4,none⟩=some _:=HQQ.out _ HB3.out 4 _ rfl;have p5:w3.cell? ⟨w.heap.size,5,none⟩=some _:=HQQ.out _ HB3.out 5 _ rfl;have p6:w3.cell? ⟨w.heap.size,6,none⟩=some _:=HQQ.out _ HB3.out 6 _ rfl;have p7:w3.cell? ⟨w.heap.size,7,none⟩=some _:=HQQ.out _ HB3.out 7 _ rfl;have p8:w3.cell? ⟨w.heap.size,8,none⟩=some (.int .i64 _):=HQQ.out _ HB3.out 8 _ rfl;have p9:w3.cell? ⟨w.heap.size,9,none⟩=some (.int .i64 _):=HQQ.out _ HB3.out 9 _ rfl;have p10:w3.cell? ⟨w.heap.size,10,none⟩=some (.int .i64 _):=HQQ.out _ HB3.out 10 _ rfl;have p11:w3.cell? ⟨w.heap.size,11,none⟩=some (.int .i64 _):=HQQ.out _ HB3.out 11 _ rfl;have p12:w3.cell? ⟨w.heap.size,12,none⟩=some _:=HQQ.out _ HB3.out 12 _ rfl
  go_upto_region 3 with fail
  go_cut [31] (fun o wx=>o=.bool z∧Below w3.heap.size w3 wx)
  case first =>
   cases ws
   ·have hz:=HWK.out
    go_wp2_with fail
    go_meet
    exact⟨by rw[hz];rfl,Below.refl _ _⟩
   ·by_cases h21:op=21
    ·subst h21
     have hz:=HWK.out;have HZ:=k_ hz;clear hz;go_wp2_with fail;refine(CA.out _ HB3.out (by first | rfl | trivial)).mono ?_;rintro e w4 ⟨x0,x3,x4,rfl,_,hb4⟩;have fa:=fun w=>fld_result x0 g.result g.slots x3 x4 w
     have HB4:=k_ hb4;clear hb4;generalize g.result=gr at *;generalize g.slots=gs at *;go_wp2_with fail
     go_meet
     exact⟨by rw[HZ.out];rfl,HB4.out⟩
    ·have n21:(op != 21)=true:=by simpa using h21
     have hz:z=true:=by rw[HWK.out];simp[h21]
     clear h21;have HZ:=k_ hz;clear hz;go_wp2_with fail
     go_meet
     exact⟨by rw[HZ.out],Below.refl _ _⟩
  case rest =>
   obtain⟨rfl,hb⟩:=hcut;have HO4:=k_ (HO3.out.below hb);have HB4:=k_ (HB3.out.trans (hb.mono HB3.out.size));clear hb;clear p0 p1 p2 p3 p4 p5 p6 p7 p8 p9 p10 p11 p12;have p0:wc.cell? ⟨w.heap.size,0,none⟩=some _:=HQQ.out _ HB4.out 0 _ rfl;have p1:wc.cell? ⟨w.heap.size,1,none⟩=some _:=HQQ.out _ HB4.out 1 _ rfl;have p2:wc.cell? ⟨w.heap.size,2,none⟩=some _:=HQQ.out _ HB4.out 2 _ rfl;have p3:wc.cell? ⟨w.heap.size,3,none⟩=some _:=HQQ.out _ HB4.out 3 _ rfl;have p4:wc.cell? ⟨w.heap.size,4,none⟩=some _:=HQQ.out _ HB4.out 4 _ rfl;have p5:wc.cell? ⟨w.heap.size,5,none⟩=some _:=HQQ.out _ HB4.out 5 _ rfl;have p6:wc.cell? ⟨w.heap.size,6,none⟩=some _:=HQQ.out _ HB4.out 6 _ rfl;have p7:wc.cell? ⟨w.heap.size,7,none⟩=some _:=HQQ.out _ HB4.out 7 _ rfl;have p8:wc.cell? ⟨w.heap.size,8,none⟩=some (.int .i64 _):=HQQ.out _ HB4.out 8 _ rfl;have p9:wc.cell? ⟨w.heap.size,9,none⟩=some (.int .i64 _):=HQQ.out _ HB4.out 9 _ rfl;have p10:wc.cell? ⟨w.heap.size,10,none⟩=some (.int .i64 _):=HQQ.out _ HB4.out 10 _ rfl;have p11:wc.cell? ⟨w.heap.size,11,none⟩=some (.int .i64 _):=HQQ.out _ HB4.out 11 _ rfl;have p12:wc.cell? ⟨w.heap.size,12,none⟩=some _:=HQQ.out _ HB4.out 12 _ rfl
   go_upto_if 31 with fail
   go_cut [] (fun wx=>Own intE wx W.heap.size u4 K1∧Below W.heap.size W wx)
   case first =>
    cases z
    ·have e:=HK1.out
     rw[if_neg (by decide)] at e;have HOE:=k_ (show Own intE wc W.heap.size u4 K1 from e ▸ HO4.out);clear e;go_wp2_with fail
     go_meet
     exact⟨HOE.out,HB4.out⟩
    ·have e:=HK1.out
     rw[if_pos rfl] at e;have hs:=HSETS.out (by first | rfl | trivial);have hws:ws=true:=by
      have h:=HWK.out
      cases ws
      ·cases h
      ·rfl
     have hvaa:va=a:=by
      rw[HVA.out.1,← HVA.out.2,hws]
      rfl
     obtain⟨j,hja⟩:∃ j:Nat,a=j:=⟨a.toNat,by omega⟩;rw[hja] at hvaa;subst hvaa;have hj:j<K.length:=by omega
     rw[show a.toNat=j from by omega] at e;obtain⟨g1,c1',hv4,hg1,q1,q2,hset⟩:=own_put HO4.out j hj;have hso:=hset 0;subst hv4;have hsb:=below_put (j:=j) HB4.out hg1 (.int .i64 0);have hjl:(j:Int)<(K.length:Int):=by omega
     have hgl:W.heap.size≤g1:=hg1;generalize K[j]=x0 at *;clear hset hws;have HJ:=k_ hj;have HE:=k_ e;have HJA:=k_ hja;clear hja hj e hs;have HSO:=k_ hso;clear hso;have HSB:=k_ hsb;clear hsb;have HGL:=k_ hgl;clear hgl
     cases R
     ·skip
      go_wp2_with fail
      go_meet
      exact⟨by rw[HE.out,if_neg (by decide)];exact HSO.out,HSB.out⟩
     ·skip
      go_upto_region 6 with fail
      obtain⟨w5,hw5⟩:∃ w5,w5=wc.setCell ⟨g1,j,none⟩ (.int .i64 0):=⟨_,rfl⟩;rw[← hw5] at HSO HSB ⊢;clear hw5 q1 q2;clear p0 p1 p2 p3 p4 p5 p6 p7 p8 p9 p10 p11 p12;have p0:w5.cell? ⟨w.heap.size,0,none⟩=some _:=HQQ.out _ HSB.out 0 _ rfl;have p1:w5.cell? ⟨w.heap.size,1,none⟩=some _:=HQQ.out _ HSB.out 1 _ rfl;have p2:w5.cell? ⟨w.heap.size,2,none⟩=some _:=HQQ.out _ HSB.out 2 _ rfl;have p3:w5.cell? ⟨w.heap.size,3,none⟩=some _:=HQQ.out _ HSB.out 3 _ rfl;have p4:w5.cell? ⟨w.heap.size,4,none⟩=some _:=HQQ.out _ HSB.out 4 _ rfl;have p5:w5.cell? ⟨w.heap.size,5,none⟩=some _:=HQQ.out _ HSB.out 5 _ rfl;have p6:w5.cell? ⟨w.heap.size,6,none⟩=some _:=HQQ.out _ HSB.out 6 _ rfl;have p7:w5.cell? ⟨w.heap.size,7,none⟩=some _:=HQQ.out _ HSB.out 7 _ rfl;have p8:w5.cell? ⟨w.heap.size,8,none⟩=some (.int .i64 _):=HQQ.out _ HSB.out 8 _ rfl;have p9:w5.cell? ⟨w.heap.size,9,none⟩=some (.int .i64 _):=HQQ.out _ HSB.out 9 _ rfl;have p10:w5.cell? ⟨w.heap.size,10,none⟩=some (.int .i64 _):=HQQ.out _ HSB.out 10 _ rfl;have p11:w5.cell? ⟨w.heap.size,11,none⟩=some (.int .i64 _):=HQQ.out _ HSB.out 11 _ rfl;have p12:w5.cell? ⟨w.heap.size,12,none⟩=some _:=HQQ.out _ HSB.out 12 _ rfl;go_wp2_with fail;refine(SE.out _ HSB.out).mono ?_;rintro e w6 ⟨rfl,hb6⟩;have hb7:=HSB.out.trans (hb6.mono HSB.out.size);obtain⟨g2,c3,hv6,hg2,q1,q2,hset⟩:=own_put (HSO.out.below hb6) j (by rw[List.length_set];exact HJ.out)
      injection hv6 with hv6 hx1 hx2
      clear hx1
      injection hv6 with hv6
      injection hv6 with hv6 hx3 hx4
      clear hx3 hx4;have hso2:=hset S;subst hv6 hx2;have hsb2:=below_put (j:=j) hb7 hg2 (.int .i64 S);rw[List.set_set] at hso2;clear hset hb6 hb7;generalize (K.set j 0)[j]'(by rw[List.length_set];exact HJ.out)=x1 at *;clear p0 p1 p2 p3 p4 p5 p6 p7 p8 p9 p10 p11 p12;have HSO2:=k_ hso2;clear hso2;have HSB2:=k_ hsb2;clear hsb2;go_wp2_with fail
      go_meet
      exact⟨by rw[HE.out,if_pos (by first | rfl | trivial)];exact HSO2.out,HSB2.out⟩
   case rest =>
    obtain⟨ho,hb⟩:=hcut;have HO5:=k_ ho;have HB5:=k_ hb;clear ho hb;clear p0 p1 p2 p3 p4 p5 p6 p7 p8 p9 p10 p11 p12;have p0:wc.cell? ⟨w.heap.size,0,none⟩=some _:=HQQ.out _ HB5.out 0 _ rfl;have p1:wc.cell? ⟨w.heap.size,1,none⟩=some _:=HQQ.out _ HB5.out 1 _ rfl;have p2:wc.cell? ⟨w.heap.size,2,none⟩=some _:=HQQ.out _ HB5.out 2 _ rfl;have p3:wc.cell? ⟨w.heap.size,3,none⟩=some _:=HQQ.out _ HB5.out 3 _ rfl;have p4:wc.cell? ⟨w.heap.size,4,none⟩=some _:=HQQ.out _ HB5.out 4 _ rfl;have p5:wc.cell? ⟨w.heap.size,5,none⟩=some _:=HQQ.out _ HB5.out 5 _ rfl;have p6:wc.cell? ⟨w.heap.size,6,none⟩=some _:=HQQ.out _ HB5.out 6 _ rfl;have p7:wc.cell? ⟨w.heap.size,7,none⟩=some _:=HQQ.out _ HB5.out 7 _ rfl;have p8:wc.cell? ⟨w.heap.size,8,none⟩=some (.int .i64 _):=HQQ.out _ HB5.out 8 _ rfl;have p9:wc.cell? ⟨w.heap.size,9,none⟩=some (.int .i64 _):=HQQ.out _ HB5.out 9 _ rfl;have p10:wc.cell? ⟨w.heap.size,10,none⟩=some (.int .i64 _):=HQQ.out _ HB5.out 10 _ rfl;have p11:wc.cell? ⟨w.heap.size,11,none⟩=some (.int .i64 _):=HQQ.out _ HB5.out 11 _ rfl;have p12:wc.cell? ⟨w.heap.size,12,none⟩=some _:=HQQ.out _ HB5.out 12 _ rfl
    by_cases h26:op=26
    ·subst h26
     have e:=HOUT.out;rw[if_pos (by first | rfl | trivial)] at e;have hr:=HREC.out (by first | rfl | trivial);obtain⟨j,hjb⟩:∃ j:Nat,b=j:=⟨b.toNat,by omega⟩;have hj:j<K1.length:=by have:=HL1.out;omega
     rw[show b.toNat=j from by omega] at e;subst hjb;obtain⟨g1,c1',hv4,hg1,q1,q2,hset⟩:=own_put HO5.out j hj;have hso:=hset 16;subst hv4;have hsb:=below_put (j:=j) HB5.out hg1 (.int .i64 16);have hjl:(j:Int)<(K1.length:Int):=by omega
     generalize K1[j]=x0 at *;rw[← e] at hso;have hso:=hso.base (fun k hk=>Nat.le_trans HC0.out.size (hso.lt hk).1);have hsb:=HC0.out.trans (hsb.mono HC0.out.size);clear hset hr e;have HJ:=k_ hj;clear hj;have HSO:=k_ hso;clear hso;have HSB:=k_ hsb;clear hsb;go_wp2_with fail
     go_ret2
     exact⟨_,rfl,HSO.out,HSB.out⟩
    ·have n26:(op == 26)=false:=by simpa using h26
     have e:=HOUT.out;rw[if_neg h26] at e;have hso:=HO5.out.base (fun k hk=>Nat.le_trans HC0.out.size (HO5.out.lt hk).1);rw[← e] at hso;have hsb:=HC0.out.trans (HB5.out.mono HC0.out.size);clear e h26;have HSO:=k_ hso;clear hso;have HSB:=k_ hsb;clear hsb;go_wp2_with fail
     go_ret2
     exact⟨_,rfl,HSO.out,HSB.out⟩
end Go.Proofs.YtbkkhmafheimfaaGreatDoor
