/- A script's bytes, cut anywhere, are the first entries: for every list of entries and every place. No condition beyond the laid tables of the card: for every input. -/
import Derived.Test.YtbkkhmafheimfaaGreatDoorWBv
set_option linter.unusedVariables false
set_option linter.unusedSimpArgs false
set_option maxRecDepth 100000
set_option maxHeartbeats 3200000
namespace Go.Proofs.YtbkkhmafheimfaaGreatDoor.Tk
open Go.ChangeShapes Go.WideShapes Go.ChangeAt Go.RowKit Go.Maps
theorem bytesS_cut (ns:List Int) (n:Nat):((bytesS ns).extract 0 n).data.toList=(ns.map fun n=>UInt8.ofNat n.toNat).take n:=by
 unfold bytesS
 rw[ByteArray.data_extract,Array.toList_extract]
 simp
theorem entO_ofNat (x:Ent) (h:entOk x=true):entO (UInt8.ofNat (entI x).toNat)=x:=by
 obtain⟨who,n⟩:=x;unfold entOk at h;simp only[Bool.and_eq_true,decide_eq_true_eq] at h;obtain⟨⟨⟨h0,h1⟩,h2⟩,h3⟩:=h;have h0:0≤who:=h0;have h1:who≤5:=h1;have h2:0≤n:=h2;have h3:n≤31:=h3;unfold entO entI;have hn:(UInt8.ofNat (32 * who+n).toNat).toNat=(32 * who+n).toNat:=by
  rw[UInt8.toNat_ofNat'];omega
 simp only[hn]
 congr 1 <;> omega
theorem ents_cut (l:List Ent) (h:l.all entOk=true) (hl:l.length≤4000) (n:Nat) (hn:n≤l.length):entsS ((bytesS (scrL l)).extract 0 n)=(l.take n,0):=by
 have hd:=bytesS_cut (scrL l) n
 have hs:((bytesS (scrL l)).extract 0 n).size=n:=by rw[ByteArray.size_extract,bytesS_size,scrL_len];omega
 have he:entsL ((bytesS (scrL l)).extract 0 n)=l.take n:=by
  unfold entsL;rw[hd,scrL,List.map_take];rw[List.map_map,List.map_map]
  congr 1
  conv=>rhs;rw[← List.map_id l]
  refine List.map_congr_left fun x hx=>?_
  exact entO_ofNat x (List.all_eq_true.1 h x hx)
 have hok:entsOk ((bytesS (scrL l)).extract 0 n)=true:=by
  unfold entsOk;have:((bytesS (scrL l)).extract 0 n).data.toList.all (fun x=>decide ((entO x).who≤5))=(entsL ((bytesS (scrL l)).extract 0 n)).all (fun y=>decide (y.who≤5)):=by
   unfold entsL;rw[List.all_map];rfl
  rw[this,he,List.all_eq_true];intro x hx;have:=List.all_eq_true.1 h x (List.mem_of_mem_take hx);unfold entOk at this;simp only[Bool.and_eq_true,decide_eq_true_eq] at this
  simpa using this.1.1.2
 unfold entsS;rw[hok,hs,if_pos rfl,if_pos (by omega),he]
theorem cut_at (k S:Int) (h0:0≤S) (h1:S≤1000):-S≤k.tmod (S+1)∧k.tmod (S+1)≤S∧∃ n:Nat,(k.tmod (S+1)+S+1) % (S+1)=n∧(n:Int)≤S:=by
 have h2:k.tmod (S+1)<S+1:=Int.tmod_lt_of_pos _ (by omega);have h3:-(S+1)<k.tmod (S+1):=by
  have:=Int.lt_tmod_of_pos k (show 0<S+1 by omega)
  omega
 refine⟨by omega,by omega,((k.tmod (S+1)+S+1) % (S+1)).toNat,?_,?_⟩
 ·have:=Int.emod_nonneg (k.tmod (S+1)+S+1) (show S+1≠0 by omega)
  omega
 ·have:=Int.emod_lt_of_pos (k.tmod (S+1)+S+1) (show 0<S+1 by omega)
  have:=Int.emod_nonneg (k.tmod (S+1)+S+1) (show S+1≠0 by omega)
  omega
theorem _root_.Go.Proofs.YtbkkhmafheimfaaGreatDoor.EntSl.take {w:World} {D:Nat→Prop} {a:Option Addr} {l:List Ent} (h:EntSl w D a l) (n:Nat):EntSl w D a (l.take n):=fun j hj=>by
 have hj2:j<l.length:=by rw[List.length_take] at hj;omega
 obtain⟨b,o,h1,h2,h3⟩:=h j hj2;exact⟨b,o,h1,h2,by rw[List.getElem_take];exact h3⟩
theorem sameEnts_any (w:World) (D D':Nat→Prop) (a a':Option Addr) (l:List Ent) (c c':Nat) (hl:EntSl w D a l) (hm:EntSl w D' a' l) (hn:l.length≤1000000) :
  Calls Tryz.prog 8 #[.slice a l.length c,.slice a' l.length c'] w fun e w'=>e=.returned (.bool true)∧∃ n,w'=w.drewN n:=by
 have h1:((l.length:Int) != (l.length:Int))=false:=by rw[bne_eq_false_iff_eq]
 have HL:=k_ hl;clear hl;have HM:=k_ hm;clear hm
 go_enter Tryz.func8,Tryz.ntmps8
 go_wp2_with fail;clear h1
 go_loopw [5] (fun i wr=>∃ k:Nat,k≤l.length∧i=.int .i64 k∧∃ n,wr=w.drewN n) (fun i _=>l.length - (intOf i).toNat)
 case atStart=>exact⟨0,Nat.zero_le _,rfl,0,rfl⟩
 case round =>
  obtain⟨k,hk,rfl,n,hwr⟩:=hrel
  by_cases hlt:k<l.length
  ·obtain⟨b,o,rfl,_,hx⟩:=HL.out k hlt
   obtain⟨b',o',rfl,_,hy⟩:=HM.out k hlt;obtain⟨p0,p1⟩:EntAt wr b (o+k * 2) l[k]:=by rw[hwr];exact hx
   obtain⟨r0,r1⟩:EntAt wr b' (o'+k * 2) l[k]:=by rw[hwr];exact hy
   clear hx hy;generalize l[k]=x at *;have HWR:=k_ hwr;clear hwr;go_wp2_with fail
   go_quiet (fail)
   go_wp2_with fail
   go_roundw
   case rel=>exact⟨k+1,by omega,by go_num,by rw[HWR.out];exact⟨_,by first | rfl | (simp;rfl)⟩⟩
   case measure=>simp[intOf];omega
  ·have HWR:=k_ hwr;clear hwr
   go_wp2_with fail
   go_ret
   exact⟨rfl,by rw[HWR.out];exact⟨_,rfl⟩⟩
theorem scuts_any (w:World) (al:Calls Tryz.prog 5 #[] w fun e w'=>e=.returned (.bool true)∧Below w.heap.size w w') (a:Option Addr) (l:List Ent) (c:Nat) (hsl:EntSl w (fun k=>k<w.heap.size) a l) (hcap:l.length≤c) (k:Int) (wk:(Lit.int .i64 k).wf=true) :
  Calls Tryz.prog 3 #[.slice a l.length c,.int .i64 k] w fun e w'=>e=.returned (.bool true)∧Below w.heap.size w w':=by
 have bk:=bounds_i64 wk;have AL:=k_ al;clear al;have HSL:=k_ hsl;clear hsl
 by_cases h300:300<l.length
 ·go_enter Tryz.func3,Tryz.ntmps3
  go_wp2_with fail;refine AL.out.mono ?_;rintro e w1 ⟨rfl,hb1⟩;go_wp2_with fail
  go_ret
  exact⟨rfl,hb1⟩
 have sc:∀ w1,Below w.heap.size w w1→Calls Tryz.prog 6 #[.slice a l.length c] w1 fun e w'=>e=.returned (.tuple #[.string (scrS l).1,.int .i64 (scrS l).2])∧Below w1.heap.size w1 w':=fun w1 hb=>script_any l _ a c w1 (by omega) (HSL.out.below' hb)
 cases hok:l.all entOk
 ·have hres:scrS l=(⟨#[]⟩,1):=by unfold scrS;rw[hok];rfl
  rw[hres] at sc;have he:(⟨#[]⟩:ByteArray).toList.isEmpty=true:=by rw[ByteArray.toList_eq];rfl
  clear hres hok;have SC:=k_ sc;clear sc
  go_enter Tryz.func3,Tryz.ntmps3
  go_wp2_with fail;refine AL.out.mono ?_;rintro e w1 ⟨rfl,hb1⟩;have HB1:=k_ hb1;clear hb1;go_wp2_with fail;refine(SC.out _ HB1.out).mono ?_;rintro e w2 ⟨rfl,hb2⟩;have HB2:=k_ (HB1.out.trans (hb2.mono HB1.out.size));clear hb2;go_wp2_with fail
  go_ret
  exact⟨rfl,HB2.out⟩
 have hres:scrS l=(bytesS (scrL l),0):=by unfold scrS;rw[hok,if_pos rfl,if_pos (by omega)]
 rw[hres] at sc;have hsz:(bytesS (scrL l)).size=l.length:=by rw[bytesS_size,scrL_len]
 obtain⟨hk1,hk2,n,hn,hnle⟩:=cut_at k ((bytesS (scrL l)).size:Int) (by omega) (by omega);have hnl:n≤l.length:=by omega
 have hcut:=ents_cut l hok (by omega) n hnl;have hxs:((bytesS (scrL l)).extract 0 n).size=n:=by rw[ByteArray.size_extract,hsz];omega
 generalize bytesS (scrL l)=s at *
 clear hres hok;have hs1:(s.size:Int)≤300:=by omega
 have hsn:n≤s.size:=by omega
 have en:=fun w=>entries_any (s.extract 0 n) w (by omega)
 rw[hcut] at en;have hlen:(l.take n).length=n:=by rw[List.length_take];omega
 have hq:((s.size:Int) != (l.length:Int))=false:=by rw[bne_eq_false_iff_eq];omega
 have HSZ:=k_ hsz;clear hsz hxs hcut;have SC:=k_ sc;clear sc;have EN:=k_ en;clear en;have HLEN:=k_ hlen;clear hlen
 go_enter Tryz.func3,Tryz.ntmps3
 go_wp2_with fail;refine AL.out.mono ?_;rintro e w1 ⟨rfl,hb1⟩;have HB1:=k_ hb1;clear hb1;go_wp2_with fail;refine(SC.out _ HB1.out).mono ?_;rintro e w2 ⟨rfl,hb2⟩;have HB2:=k_ (HB1.out.trans (hb2.mono HB1.out.size));clear hb2;go_wp2_with fail;refine(EN.out _).mono ?_;rintro e w3 ⟨v,rfl,hown,hb3⟩;have HB3:=k_ (HB2.out.trans (hb3.mono HB2.out.size));clear hb3;obtain⟨a2,c2,rfl,hsl2⟩:=own_ent hown;have HS2:=k_ hsl2;clear hown hsl2;rw[HLEN.out];go_wp2_with fail;have se:=sameEnts_any w3 _ _ a2 a (l.take n) c2 c HS2.out ((HSL.out.below' HB3.out).take n) (by have:=HLEN.out;omega);rw[HLEN.out] at se;refine se.mono ?_;rintro e w4 ⟨rfl,m,rfl⟩;go_wp2_with fail
 go_ret
 exact⟨rfl,below_drewN HB3.out m⟩
end Go.Proofs.YtbkkhmafheimfaaGreatDoor.Tk
namespace Go.Proofs.YtbkkhmafheimfaaGreatDoor.scriptCuts
open Go.ChangeShapes Go.WideShapes Go.ChangeAt Go.RowKit
theorem walk (w:World) (ht:Tk.Tab w) (v:Value) (hv:∃ (a:Option Addr) (l:List Ent) (c:Nat),v=.slice a l.length c∧EntSl w (fun k=>k<w.heap.size) a l∧(∀ x ∈ l,x.wf)∧l.length≤c) (k:Int) (wk:(Lit.int .i64 k).wf=true) :
  Calls Tryz.prog 3 #[v,.int .i64 k] w fun e w'=>e=.returned (.bool true)∧Below w.heap.size w w':=by
 obtain⟨a,l,c,rfl,hsl,_,hc⟩:=hv;exact Tk.scuts_any w (Tk.alive_any w ht) a l c hsl hc k wk
theorem lifted (os:Os) (started:os.Started) (H:Type) (enc:TypeId × Value→H) :
  ReturnsInHanded {} Tryz.checked os 3 .any (fun w args=>(Rows.scriptCutsSpec.pre enc Tryz.prog Tryz.f3 [] false w args∧laidMetH Tryz.prog laid3 w)∧sizedMet enc Tryz.prog Tryz.f3 (OpenSpec.ofChange Rows.scriptCutsSpec) false w args)
   (Rows.scriptCutsSpec.post enc Tryz.prog Tryz.f3 false true false false):=by
 refine returnsInHanded_of_change_and (C:=Tryz.checked) (X:=fun w _=>laidMetH Tryz.prog laid3 w) (fun _ _ _ hh h=>h.of_heap hh) own started (by kernel_rfl) Tryz.func3
  (ChangeSpec.witness_shaped (enc:=enc) (C:=Tryz.checked) (os:=os) (X:=fun w _=>laidMetH Tryz.prog laid3 w) false (World.doorLaid Tryz.prog 24 os) #[.slice none 0 0,.int .i64 0] 8 rfl (World.shaped_of_RefB (by kernel_rfl) (by kernel_rfl)) (by kernel_rfl) (by kernel_rfl) (by kernel_rfl) (door_met os _)) ?_
 intro W base args ds gs before hval0 hW _ _ hL _;have hval:∀ (j:Nat) t v,Tryz.f3.params[j]?=some t→args[j]?=some v→Value.okWide Tryz.prog W .any base t v:=hval0;have hW':=hW;obtain⟨p,q,hA0,hV,rfl,hfz,hnd⟩:=hW;have hA:DataW.TrodAll enc Tryz.prog W 0 (fun _=>true) true Tryz.f3.params.toList args.toList ds p:=hA0;rw[Tryz.params3] at hA hval;obtain⟨v0,vs0,d0,ds0,p0,q0,hargs,rfl,rfl,h0,r0⟩:=trodAll_cons hA;obtain⟨v1,vs1,d1,ds1,p1,q1,rfl,rfl,rfl,h1,r1⟩:=trodAll_cons r0;obtain⟨rfl,rfl,rfl⟩:=trodAll_nil r1;obtain rfl:args=#[v0,v1]:=by cases args;simp_all
 have w0:=open_entries (hval 0 22 v0 rfl rfl) h0;obtain⟨a1,rfl,rfl,rfl,w1⟩:=open_int Tryz.underlying3 (hval 1 3 v1 rfl rfl) h1;clear hA0 hval0;simp only[List.append_nil] at hW';refine(walk W (tab_of hL) v0 w0 a1 w1).mono fun e W' ⟨he,hb⟩=>?_
 subst he;exact⟨_,rfl,law_post laidOut (by kernel_rfl) rfl Tryz.underlying4 hW' rfl (fun ds h=>by match ds,h with | [_,_],_=>rfl) hb⟩
theorem k10:(Rows.scriptCutsRow.inPlace == Tryz.prog.inPlace 3)=true:=by kernel_rfl
theorem k11:(Rows.scriptCutsRow.unfollowed == Tryz.prog.unfollowed 3)=true:=by kernel_rfl
theorem k12:(Rows.scriptCutsRow.recurses == Tryz.prog.recurses 3)=true:=by kernel_rfl
theorem k13:(Rows.scriptCutsRow.named == Tryz.prog.varsNamed 3)=true:=by kernel_rfl
theorem closed:joinedFacts Tryz.prog 3 Tryz.f3 Rows.scriptCutsSpec Rows.scriptCutsRow=true :=
 joined_of (by kernel_rfl) laidOut p_maps (by kernel_rfl) (by kernel_rfl) (by kernel_rfl) p_stops (by kernel_rfl) p_knobs k10 k11 k12 k13 (by kernel_rfl) (by kernel_rfl) (by kernel_rfl) (by kernel_rfl) (by kernel_rfl) (by kernel_rfl) (by kernel_rfl) (by kernel_rfl) (by kernel_rfl) p_plain (by kernel_rfl) p_heard p_enter p_lifted p_make (by kernel_rfl) (by kernel_rfl) (by kernel_rfl) (by kernel_rfl) (by kernel_rfl)
theorem over:Rows.ScriptCutsSaid :=
 OpenClaim.holds_of_wide 3 Tryz.f3 rfl rfl rfl rfl rfl rfl rfl ⟨rfl,rfl,rfl,rfl,rfl⟩ rfl rfl rfl rfl rfl (by kernel_rfl) Tryz.func3 closed
  (of_decide_eq_true (by kernel_rfl)) (by unfold Func.isWrapper;first | (rw[if_pos (by decide +kernel)];kernel_rfl) | (rw[if_neg (by decide +kernel)];exact⟨rfl,rfl⟩))
  (fun os started H enc _=>lifted os started H enc)
theorem c_wf:Rows.scriptCutsRow.wfByText (OpenSpec.ofChange Rows.scriptCutsSpec)=true:=by kernel_rfl
theorem c_goes:false=Rows.scriptCutsRow.goesBy Tryz.prog:=by kernel_rfl
theorem c_hands:([22,3].all fun u=>!Tryz.prog.wantsStandIn u)=true:=by kernel_rfl
theorem c_name:Tryz.prog.funcNamed Rows.scriptCutsRow.func=some 3:=by kernel_rfl
theorem proved:Rows.ScriptCutsCardSaid :=
 Claim7.holds_tied_plain_at .later [] [.data,.data,.data] true Rows.scriptCutsCard.stood.harness false
  over (fun _ h=>by cases h) c_wf (fun _ h=>by cases h) scriptCuts_row_tie rfl ⟨rfl,rfl⟩ (by kernel_rfl) (by kernel_rfl)
  (fun f fn hf hfn=>by
   obtain rfl:f=3:=Option.some.inj (c_name.symm.trans hf) |>.symm
   obtain rfl:fn=Tryz.f3:=(Option.some.inj (Tryz.func3.symm.trans hfn)).symm;exact⟨p_looks,fun j t ht=>by
    rw[Tryz.params3] at ht;have hm:t ∈ [22,3]:=by simpa using Array.mem_of_getElem? ht
    exact(show Tryz.prog.wantsStandIn t=false by simpa using List.all_eq_true.1 c_hands t hm)⟩)
  c_goes
#print axioms proved
end Go.Proofs.YtbkkhmafheimfaaGreatDoor.scriptCuts
