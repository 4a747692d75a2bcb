/- Every script's bytes, or that it may not be; every bytes' script, or none; lists kept, marked, grown; what is handed in stays: for every list of entries and every string. No condition beyond the laid tables of the card: for every input. -/
import Derived.Test.YtlofbhoicbemnaaGreatDoorDAj
import Derived.Test.YtlofbhoicbemnaaGreatDoorDBv
set_option linter.unusedVariables false
set_option linter.unusedSimpArgs false
set_option maxRecDepth 100000
namespace Go.Proofs.YtlofbhoicbemnaaGreatDoor.scriptTells
open Go.ChangeShapes Go.WideShapes Go.ChangeAt Go.RowKit
theorem walk (w:World) (ht:Tk.Tab w) (v:Value) (hv:∃ (a:Option Addr) (l:List Ent) (c:Nat),v=.slice a l.length c∧EntSl w (fun k=>k<w.heap.size) a l∧(∀ x ∈ l,x.wf)∧l.length≤c) (b:ByteArray) (_:b.size≤maxLen) :
  Calls Tryz.prog 3 #[v,.string b] w fun e w'=>e=.returned (.bool true)∧Below w.heap.size w w':=by
 obtain⟨a,l,c,rfl,hsl,_,_⟩:=hv;exact Tk.stells_any w (Tk.alive_any w ht) a l c hsl b
theorem lifted (os:Os) (started:os.Started) (H:Type) (enc:TypeId × Value→H) :
  ReturnsInHanded {} Tryz.checked os 3 .any (fun w args=>(Rows.scriptTellsSpec.pre enc Tryz.prog Tryz.f3 [] false w args∧laidMetH Tryz.prog laid3 w)∧sizedMet enc Tryz.prog Tryz.f3 (OpenSpec.ofChange Rows.scriptTellsSpec) false w args)
   (Rows.scriptTellsSpec.post enc Tryz.prog Tryz.f3 false true false false):=by
 refine returnsInHanded_of_change_and (C:=Tryz.checked) (X:=fun w _=>laidMetH Tryz.prog laid3 w) (fun _ _ _ hh h=>h.of_heap hh) own started (by kernel_rfl) Tryz.func3
  (ChangeSpec.witness_shaped (enc:=enc) (C:=Tryz.checked) (os:=os) (X:=fun w _=>laidMetH Tryz.prog laid3 w) false (World.doorLaid Tryz.prog 24 os) #[.slice none 0 0,.string ByteArray.empty] 8 rfl (World.shaped_of_RefB (by kernel_rfl) (by kernel_rfl)) (by kernel_rfl) (by kernel_rfl) (by kernel_rfl) (door_met os _)) ?_
 intro W base args ds gs before hval0 hW _ _ hL _;have hval:∀ (j:Nat) t v,Tryz.f3.params[j]?=some t→args[j]?=some v→Value.okWide Tryz.prog W .any base t v:=hval0;have hW':=hW;obtain⟨p,q,hA0,hV,rfl,hfz,hnd⟩:=hW;have hA:DataW.TrodAll enc Tryz.prog W 0 (fun _=>true) true Tryz.f3.params.toList args.toList ds p:=hA0;rw[Tryz.params3] at hA hval;obtain⟨v0,vs0,d0,ds0,p0,q0,hargs,rfl,rfl,h0,r0⟩:=trodAll_cons hA;obtain⟨v1,vs1,d1,ds1,p1,q1,rfl,rfl,rfl,h1,r1⟩:=trodAll_cons r0;obtain⟨rfl,rfl,rfl⟩:=trodAll_nil r1;obtain rfl:args=#[v0,v1]:=by cases args;simp_all
 have w0:=open_entries (hval 0 22 v0 rfl rfl) h0;obtain⟨a1,rfl,rfl,rfl,w1⟩:=Go.ChangeMaps.open_string Tryz.underlying9 (hval 1 9 v1 rfl rfl) h1;clear hA0 hval0;simp only[List.append_nil] at hW';refine(walk W (tab_of hL) v0 w0 a1 w1).mono fun e W' ⟨he,hb⟩=>?_
 subst he;exact⟨_,rfl,law_post laidOut (by kernel_rfl) rfl Tryz.underlying4 hW' rfl (fun ds h=>by match ds,h with | [_,_],_=>rfl) hb⟩
theorem k10:(Rows.scriptTellsRow.inPlace == Tryz.prog.inPlace 3)=true:=by kernel_rfl
theorem k11:(Rows.scriptTellsRow.unfollowed == Tryz.prog.unfollowed 3)=true:=by kernel_rfl
theorem k12:(Rows.scriptTellsRow.recurses == Tryz.prog.recurses 3)=true:=by kernel_rfl
theorem k13:(Rows.scriptTellsRow.named == Tryz.prog.varsNamed 3)=true:=by kernel_rfl
theorem closed:joinedFacts Tryz.prog 3 Tryz.f3 Rows.scriptTellsSpec Rows.scriptTellsRow=true :=
 joined_of (by kernel_rfl) laidOut p_maps (by kernel_rfl) (by kernel_rfl) (by kernel_rfl) p_stops (by kernel_rfl) p_knobs k10 k11 k12 k13 (by kernel_rfl) (by kernel_rfl) (by kernel_rfl) (by kernel_rfl) (by kernel_rfl) (by kernel_rfl) (by kernel_rfl) (by kernel_rfl) (by kernel_rfl) p_plain (by kernel_rfl) p_heard p_enter p_lifted p_make (by kernel_rfl) (by kernel_rfl) (by kernel_rfl) (by kernel_rfl) (by kernel_rfl)
theorem over:Rows.ScriptTellsSaid :=
 OpenClaim.holds_of_wide 3 Tryz.f3 rfl rfl rfl rfl rfl rfl rfl ⟨rfl,rfl,rfl,rfl,rfl⟩ rfl rfl rfl rfl rfl (by kernel_rfl) Tryz.func3 closed
  (of_decide_eq_true (by kernel_rfl)) (by unfold Func.isWrapper;first | (rw[if_pos (by decide +kernel)];kernel_rfl) | (rw[if_neg (by decide +kernel)];exact⟨rfl,rfl⟩))
  (fun os started H enc _=>lifted os started H enc)
theorem c_wf:Rows.scriptTellsRow.wfByText (OpenSpec.ofChange Rows.scriptTellsSpec)=true:=by kernel_rfl
theorem c_goes:false=Rows.scriptTellsRow.goesBy Tryz.prog:=goesBy_none c_none _
theorem c_hands:([22,9].all fun u=>!Tryz.prog.wantsStandIn u)=true:=by kernel_rfl
theorem c_name:Tryz.prog.funcNamed Rows.scriptTellsRow.func=some 3:=by kernel_rfl
theorem proved:Rows.ScriptTellsCardSaid :=
 Claim7.holds_tied_plain_at .later [] [.data,.data,.data] true Rows.scriptTellsCard.stood.harness false
  over (fun _ h=>by cases h) c_wf (fun _ h=>by cases h) scriptTells_row_tie rfl ⟨rfl,rfl⟩ (by kernel_rfl) (by kernel_rfl)
  (fun f fn hf hfn=>by
   obtain rfl:f=3:=Option.some.inj (c_name.symm.trans hf) |>.symm
   obtain rfl:fn=Tryz.f3:=(Option.some.inj (Tryz.func3.symm.trans hfn)).symm;exact⟨p_looks,fun j t ht=>by
    rw[Tryz.params3] at ht;have hm:t ∈ [22,9]:=by simpa using Array.mem_of_getElem? ht
    exact(show Tryz.prog.wantsStandIn t=false by simpa using List.all_eq_true.1 c_hands t hm)⟩)
  c_goes
#print axioms proved
end Go.Proofs.YtlofbhoicbemnaaGreatDoor.scriptTells
