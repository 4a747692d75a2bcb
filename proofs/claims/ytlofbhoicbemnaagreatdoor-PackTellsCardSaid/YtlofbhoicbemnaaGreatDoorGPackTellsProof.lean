/- Every program, configuration and script as bytes, or the error; what is packed is unpacked as it was. No condition beyond the laid tables of the card: for every input. -/
import Derived.Test.YtlofbhoicbemnaaGreatDoorGBs
import Derived.Test.YtlofbhoicbemnaaGreatDoorGBw
set_option linter.unusedVariables false
set_option linter.unusedSimpArgs false
set_option maxRecDepth 100000
namespace Go.Proofs.YtlofbhoicbemnaaGreatDoor.packTells
open Go.ChangeShapes Go.WideShapes Go.ChangeAt Go.RowKit
theorem walk (w:World) (ht:Tk.Tab w) (v:Value) (hv:∃ (pr:Prg) (c0 c1 c2:Value),v=.agg #[c0,c1,c2]∧aD w (fun k=>k<w.heap.size) pr c0 c1 c2) (v':Value) (hv':∃ c:Tk.Cfg,v'=c.val) (v2:Value) (hv2:∃ (a:Option Addr) (l:List Ent) (c:Nat),v2=.slice a l.length c∧dz w (fun k=>k<w.heap.size) a l∧(∀ x ∈ l,x.wf)∧l.length≤c) (b:ByteArray) (_:b.size≤maxLen) :
  Calls Tryz.prog 4 #[v,v',v2,.string b] w fun e w'=>e=.returned (.bool true)∧Below w.heap.size w w':=by
 obtain⟨p,c0,c1,c2,rfl,hp⟩:=hv;obtain⟨c,rfl⟩:=hv';obtain⟨a,l,n,rfl,hsl,_,_⟩:=hv2;exact Tk.AO w (fun wr hb=>Tk.DI wr (ht.below hb)) p c0 c1 c2 hp c a l n hsl b
theorem lifted (os:Os) (started:os.Started) (H:Type) (enc:TypeId × Value→H) :
  ReturnsInHanded {} Tryz.checked os 4 .any (fun w args=>(Rows.packTellsSpec.pre enc Tryz.prog Tryz.f4 [] false w args∧laidMetH Tryz.prog yQ w)∧sizedMet enc Tryz.prog Tryz.f4 (OpenSpec.ofChange Rows.packTellsSpec) false w args)
   (Rows.packTellsSpec.post enc Tryz.prog Tryz.f4 false true false false):=by
 refine returnsInHanded_of_change_and (C:=Tryz.checked) (X:=fun w _=>laidMetH Tryz.prog yQ w) (fun _ _ _ hh h=>h.of_heap hh) own started (by kernel_rfl) Tryz.func4
  (ChangeSpec.witness_shaped (enc:=enc) (C:=Tryz.checked) (os:=os) (X:=fun w _=>laidMetH Tryz.prog yQ w) false (World.doorLaid Tryz.prog 24 os) #[.agg #[.slice none 0 0,.slice none 0 0,.slice none 0 0],.agg #[.int .i64 0,.int .i64 0,.int .i64 0,.int .i64 0,.int .i64 0],.slice none 0 0,.string ByteArray.empty] 8 rfl (World.shaped_of_RefB (by kernel_rfl) (by kernel_rfl)) (by kernel_rfl) (by kernel_rfl) (by kernel_rfl) (EO os _)) ?_
 intro W base args ds gs before hval0 hW _ _ hL _;have hval:∀ (j:Nat) t v,Tryz.f4.params[j]?=some t→args[j]?=some v→Value.okWide Tryz.prog W .any base t v:=hval0;have hW':=hW;obtain⟨p,q,hA0,hV,rfl,hfz,hnd⟩:=hW;have hA:DataW.TrodAll enc Tryz.prog W 0 (fun _=>true) true Tryz.f4.params.toList args.toList ds p:=hA0;rw[Tryz.params4] at hA hval;obtain⟨v0,vs0,d0,ds0,p0,q0,hargs,rfl,rfl,h0,r0⟩:=trodAll_cons hA;obtain⟨v1,vs1,d1,ds1,p1,q1,rfl,rfl,rfl,h1,r1⟩:=trodAll_cons r0;obtain⟨v2,vs2,d2,ds2,p2,q2,rfl,rfl,rfl,h2,r2⟩:=trodAll_cons r1;obtain⟨v3,vs3,d3,ds3,p3,q3,rfl,rfl,rfl,h3,r3⟩:=trodAll_cons r2;obtain⟨rfl,rfl,rfl⟩:=trodAll_nil r3;obtain rfl:args=#[v0,v1,v2,v3]:=by cases args;simp_all
 have w0:=vQ (hval 0 48 v0 rfl rfl) h0;have w1:=xY (hval 1 50 v1 rfl rfl) h1;have w2:=wM (hval 2 22 v2 rfl rfl) h2;obtain⟨a3,rfl,rfl,rfl,w3⟩:=Go.ChangeMaps.open_string Tryz.underlying9 (hval 3 9 v3 rfl rfl) h3;clear hA0 hval0;simp only[List.append_nil] at hW';refine(walk W (Jf hL) v0 w0 v1 w1 v2 w2 a3 w3).mono fun e W' ⟨he,hb⟩=>?_
 subst he;exact⟨_,rfl,EY laidOut (by kernel_rfl) rfl Tryz.underlying4 hW' rfl (fun ds h=>by match ds,h with | [_,_,_,_],_=>rfl) hb⟩
theorem k10:(Rows.packTellsRow.inPlace == Tryz.prog.inPlace 4)=true:=by kernel_rfl
theorem k11:(Rows.packTellsRow.unfollowed == Tryz.prog.unfollowed 4)=true:=by kernel_rfl
theorem k12:(Rows.packTellsRow.recurses == Tryz.prog.recurses 4)=true:=by kernel_rfl
theorem k13:(Rows.packTellsRow.named == Tryz.prog.varsNamed 4)=true:=by kernel_rfl
theorem closed:joinedFacts Tryz.prog 4 Tryz.f4 Rows.packTellsSpec Rows.packTellsRow=true :=
 CY (by kernel_rfl) laidOut JJ (by kernel_rfl) (by kernel_rfl) (by kernel_rfl) GQ (by kernel_rfl) Ie k10 k11 k12 k13 (by kernel_rfl) (by kernel_rfl) (by kernel_rfl) (by kernel_rfl) (by kernel_rfl) (by kernel_rfl) (by kernel_rfl) (by kernel_rfl) (by kernel_rfl) H8 (by kernel_rfl) Hq IW EX Jo (by kernel_rfl) (by kernel_rfl) (by kernel_rfl) (by kernel_rfl) (by kernel_rfl)
theorem over:Rows.PackTellsSaid :=
 OpenClaim.holds_of_wide 4 Tryz.f4 rfl rfl rfl rfl rfl rfl rfl ⟨rfl,rfl,rfl,rfl,rfl⟩ rfl rfl rfl rfl rfl (by kernel_rfl) Tryz.func4 closed
  (of_decide_eq_true (by kernel_rfl)) (by unfold Func.isWrapper;first | (rw[if_pos (by decide +kernel)];kernel_rfl) | (rw[if_neg (by decide +kernel)];exact⟨rfl,rfl⟩))
  (fun os started H enc _=>lifted os started H enc)
theorem KA:Rows.packTellsRow.wfByText (OpenSpec.ofChange Rows.packTellsSpec)=true:=by kernel_rfl
theorem JQ:false=Rows.packTellsRow.goesBy Tryz.prog:=yx Jd _
theorem IP:([48,50,22,9].all fun u=>!Tryz.prog.wantsStandIn u)=true:=by kernel_rfl
theorem JC:Tryz.prog.funcNamed Rows.packTellsRow.func=some 4:=by kernel_rfl
theorem proved:Rows.PackTellsCardSaid :=
 Claim7.holds_tied_plain_at .later [] [.data,.data,.data] true Rows.packTellsCard.stood.harness false
  over (fun _ h=>by cases h) KA (fun _ h=>by cases h) packTells_row_tie rfl ⟨rfl,rfl⟩ (by kernel_rfl) (by kernel_rfl)
  (fun f fn hf hfn=>by
   obtain rfl:f=4:=Option.some.inj (JC.symm.trans hf) |>.symm
   obtain rfl:fn=Tryz.f4:=(Option.some.inj (Tryz.func4.symm.trans hfn)).symm;exact⟨GZ,fun j t ht=>by
    rw[Tryz.params4] at ht;have hm:t ∈ [48,50,22,9]:=by simpa using Array.mem_of_getElem? ht
    exact(show Tryz.prog.wantsStandIn t=false by simpa using List.all_eq_true.1 IP t hm)⟩)
  JQ
#print axioms proved
end Go.Proofs.YtlofbhoicbemnaaGreatDoor.packTells
