/- The library's contracts on numbers as text and on a builder, at this program. Nothing of the program's text stands here. A law's end: it .. -/
import Derived.Shelf.Strconv.Itoa3
import Derived.Shelf.Strings.Builder1
import Derived.Test.YtlofbhoicbemnaaGreatDoorProg
import Derived.Test.YtlofbhoicbemnaaGreatDoorTie
import Derived.Test.YtlofbhoicbemnaaGreatDoorCards
import Derived.Lib.LaidTab
import Derived.Lib.ItoaMem
import Derived.Stop.LaidErr
import Derived.LaidMore
import Derived.Stop.Joined
import Derived.JoinedOf
import Derived.Test.YtlofbhoicbemnaaGreatDoorDBu
import Derived.Lib.AppendIntMem
set_option linter.unusedVariables false
set_option linter.unusedSimpArgs false
namespace Go.Proofs.YtlofbhoicbemnaaGreatDoor
open Go.RowKit Go.Shelf
def itoaA_ren:Go.Shelf.Ren:=⟨fun | 171=>58 | 243=>88 | 246=>109 | 283=>151 | 284=>152 | 285=>153 | 286=>154 | 129=>217 | 317=>216 | 318=>218 | 319=>219 | 320=>220 | 337=>289 | 338=>283 | n=>n,fun | 3=>3 | 9=>9 | 2=>2 | 4=>4 | 171=>238 | 0=>0 | 53=>153 | 37=>30 | 5=>5 | 173=>241 | 212=>316 | 51=>129 | 20=>20 | 213=>317 | 46=>69 | 232=>394 | 233=>384 | n=>n,fun | 17=>0 | 18=>2 | 19=>1 | n=>n⟩
theorem itoaA:Go.Proofs.LaysM.n171 Tryz.prog itoaA_ren:={
 mixed:=by kernel_rfl
 f129:=Tryz.func217.trans (congrArg some (by kernel_rfl))
 f171:=Tryz.func58.trans (congrArg some (by kernel_rfl))
 f243:=Tryz.func88.trans (congrArg some (by kernel_rfl))
 f246:=Tryz.func109.trans (congrArg some (by kernel_rfl))
 f283:=Tryz.func151.trans (congrArg some (by kernel_rfl))
 f284:=Tryz.func152.trans (congrArg some (by kernel_rfl))
 f285:=Tryz.func153.trans (congrArg some (by kernel_rfl))
 f286:=Tryz.func154.trans (congrArg some (by kernel_rfl))
 f317:=Tryz.func216.trans (congrArg some (by kernel_rfl))
 f318:=Tryz.func218.trans (congrArg some (by kernel_rfl))
 f319:=Tryz.func219.trans (congrArg some (by kernel_rfl))
 f320:=Tryz.func220.trans (congrArg some (by kernel_rfl))
 f337:=Tryz.func289.trans (congrArg some (by kernel_rfl))
 f338:=Tryz.func283.trans (congrArg some (by kernel_rfl))
 t0:=Tryz.underlying0
 a0:=Tryz.isAgg0
 z0:=Tryz.sizeOf0
 v0:=Tryz.zeroValue0
 t2:=Tryz.underlying2
 a2:=Tryz.isAgg2
 z2:=Tryz.sizeOf2
 v2:=Tryz.zeroValue2
 t3:=Tryz.underlying3
 a3:=Tryz.isAgg3
 z3:=Tryz.sizeOf3
 v3:=Tryz.zeroValue3
 t4:=Tryz.underlying4
 a4:=Tryz.isAgg4
 z4:=Tryz.sizeOf4
 v4:=Tryz.zeroValue4
 t5:=Tryz.underlying5
 a5:=Tryz.isAgg5
 z5:=Tryz.sizeOf5
 v5:=Tryz.zeroValue5
 t9:=Tryz.underlying9
 a9:=Tryz.isAgg9
 z9:=Tryz.sizeOf9
 v9:=Tryz.zeroValue9
 t20:=Tryz.underlying20
 a20:=Tryz.isAgg20
 z20:=Tryz.sizeOf20
 v20:=Tryz.zeroValue20
 t37:=Tryz.underlying30
 a37:=Tryz.isAgg30
 z37:=Tryz.sizeOf30
 v37:=Tryz.zeroValue30
 t46:=Tryz.underlying69
 a46:=Tryz.isAgg69
 z46:=Tryz.sizeOf69
 v46:=Tryz.zeroValue69
 t51:=Tryz.underlying129
 a51:=Tryz.isAgg129
 z51:=Tryz.sizeOf129
 v51:=Tryz.zeroValue129
 t53:=Tryz.underlying153
 a53:=Tryz.isAgg153
 z53:=Tryz.sizeOf153
 v53:=Tryz.zeroValue153
 t171:=Tryz.underlying238
 a171:=Tryz.isAgg238
 z171:=Tryz.sizeOf238
 v171:=Tryz.zeroValue238
 t173:=Tryz.underlying241
 a173:=Tryz.isAgg241
 z173:=Tryz.sizeOf241
 v173:=Tryz.zeroValue241
 t212:=Tryz.underlying316
 a212:=Tryz.isAgg316
 z212:=Tryz.sizeOf316
 v212:=Tryz.zeroValue316
 t213:=Tryz.underlying317
 a213:=Tryz.isAgg317
 z213:=Tryz.sizeOf317
 t232:=Tryz.underlying394
 a232:=Tryz.isAgg394
 z232:=Tryz.sizeOf394
 v232:=Tryz.zeroValue394
 t233:=Tryz.underlying384
 a233:=Tryz.isAgg384
 z233:=Tryz.sizeOf384
 v233:=Tryz.zeroValue384
 g17:=by kernel_rfl
 g18:=by kernel_rfl
 g19:=by kernel_rfl
 i0:=by kernel_rfl
 i2:=by kernel_rfl
 i3:=by kernel_rfl
 i4:=by kernel_rfl
 i5:=by kernel_rfl
 i9:=by kernel_rfl
 i20:=by kernel_rfl
 i37:=by kernel_rfl
 i46:=by kernel_rfl
 i51:=by kernel_rfl
 i53:=by kernel_rfl
 i171:=by kernel_rfl
 i173:=by kernel_rfl
 i212:=by kernel_rfl
 i232:=by kernel_rfl
 i233:=by kernel_rfl
 m17:=by kernel_rfl
 m18:=by kernel_rfl
 m19:=by kernel_rfl }
def bstrA_ren:Go.Shelf.Ren:=⟨fun | 169=>60 | n=>n,fun | 70=>100 | 9=>9 | 0=>0 | 72=>102 | 37=>30 | 127=>151 | 3=>3 | 5=>5 | n=>n,fun | n=>n⟩
theorem bstrA:Go.Proofs.Lays.n169 Tryz.prog bstrA_ren:={
 mixed:=by kernel_rfl
 f169:=Tryz.func60.trans (congrArg some (by kernel_rfl))
 t0:=Tryz.underlying0
 a0:=Tryz.isAgg0
 z0:=Tryz.sizeOf0
 v0:=Tryz.zeroValue0
 t3:=Tryz.underlying3
 a3:=Tryz.isAgg3
 z3:=Tryz.sizeOf3
 v3:=Tryz.zeroValue3
 t9:=Tryz.underlying9
 a9:=Tryz.isAgg9
 z9:=Tryz.sizeOf9
 v9:=Tryz.zeroValue9
 t37:=Tryz.underlying30
 a37:=Tryz.isAgg30
 z37:=Tryz.sizeOf30
 v37:=Tryz.zeroValue30
 t70:=Tryz.underlying100
 a70:=Tryz.isAgg100
 z70:=Tryz.sizeOf100
 v70:=Tryz.zeroValue100
 t72:=Tryz.underlying102
 a72:=Tryz.isAgg102
 z72:=Tryz.sizeOf102
 v72:=Tryz.zeroValue102
 t127:=Tryz.underlying151
 a127:=Tryz.isAgg151
 z127:=Tryz.sizeOf151
 v127:=Tryz.zeroValue151 }
def bwrA_ren:Go.Shelf.Ren:=⟨fun | 166=>59 | 240=>89 | 276=>110 | n=>n,fun | 70=>100 | 9=>9 | 3=>3 | 75=>104 | 0=>0 | 72=>102 | 37=>30 | 4=>4 | 164=>183 | 80=>107 | 5=>5 | n=>n,fun | n=>n⟩
theorem bwrA:Go.Proofs.Lays.n166 Tryz.prog bwrA_ren:={
 mixed:=by kernel_rfl
 f166:=Tryz.func59.trans (congrArg some (by kernel_rfl))
 f240:=Tryz.func89.trans (congrArg some (by kernel_rfl))
 f276:=Tryz.func110.trans (congrArg some (by kernel_rfl))
 t0:=Tryz.underlying0
 a0:=Tryz.isAgg0
 z0:=Tryz.sizeOf0
 v0:=Tryz.zeroValue0
 t3:=Tryz.underlying3
 a3:=Tryz.isAgg3
 z3:=Tryz.sizeOf3
 v3:=Tryz.zeroValue3
 t4:=Tryz.underlying4
 a4:=Tryz.isAgg4
 z4:=Tryz.sizeOf4
 v4:=Tryz.zeroValue4
 t9:=Tryz.underlying9
 a9:=Tryz.isAgg9
 z9:=Tryz.sizeOf9
 v9:=Tryz.zeroValue9
 t20:=Tryz.underlying20
 a20:=Tryz.isAgg20
 z20:=Tryz.sizeOf20
 v20:=Tryz.zeroValue20
 t37:=Tryz.underlying30
 a37:=Tryz.isAgg30
 z37:=Tryz.sizeOf30
 v37:=Tryz.zeroValue30
 t70:=Tryz.underlying100
 a70:=Tryz.isAgg100
 z70:=Tryz.sizeOf100
 v70:=Tryz.zeroValue100
 t72:=Tryz.underlying102
 a72:=Tryz.isAgg102
 z72:=Tryz.sizeOf102
 v72:=Tryz.zeroValue102
 t75:=Tryz.underlying104
 a75:=Tryz.isAgg104
 z75:=Tryz.sizeOf104
 v75:=Tryz.zeroValue104
 t164:=Tryz.underlying183
 a164:=Tryz.isAgg183
 z164:=Tryz.sizeOf183
 v164:=Tryz.zeroValue183 }
end Go.Proofs.YtlofbhoicbemnaaGreatDoor
namespace Go.Proofs.YtlofbhoicbemnaaGreatDoor
open Go.RowKit
theorem trodAll_stays {H:Type} {enc:TypeId × Value→H} {P:Program} (hl:laidOutB P=true) {W W':World} (hb:Below W.heap.size W W') :
  ∀ (ts:List TypeId) (vs:List Value) (ds:List (DataW H)) (ps:List MemPlace),(∀ t ∈ ts,P.readableRec t=true∧t<P.types.size) →
   DataW.TrodAll enc P W 0 (fun _=>true) true ts vs ds ps→(∀ x ∈ ps,x.block<W.heap.size)→DataW.TrodAll enc P W' 0 (fun b=>decide (b<W.heap.size)) true ts vs ds ps
 | [],[],[],_,_,h,_=>h
 | t :: ts,v :: vs,d :: ds,_,ht,⟨p,q,h1,h2,he⟩,hlt=>by
   subst he;exact⟨p,q,Below.trod hl (ht t (List.mem_cons_self ..)).1 (ht t (List.mem_cons_self ..)).2 h1 hb (fun x hx=>hlt x (List.mem_append_left _ hx)),
    trodAll_stays hl hb ts vs ds q (fun t' h'=>ht t' (List.mem_cons_of_mem _ h')) h2 (fun x hx=>hlt x (List.mem_append_right _ hx)),rfl⟩
theorem trodAll_length {H:Type} {enc:TypeId × Value→H} {P:Program} {W:World} {b:Nat} {sp:Nat→Bool} {hd:Bool} :
  ∀ (ts:List TypeId) (vs:List Value) (ds:List (DataW H)) (ps:List MemPlace),DataW.TrodAll enc P W b sp hd ts vs ds ps→ds.length=ts.length
 | [],[],[],_,_=>rfl
 | _ :: ts,_ :: vs,_ :: ds,_,⟨_,q,_,h,_⟩=>congrArg (·+1) (trodAll_length ts vs ds q h)
theorem law_post {H:Type} {enc:TypeId × Value→H} {P:Program} {f:Func} {s:ChangeSpec} {W W':World} {args:Array Value} {ds gs:List (DataW H)} {before:List MemPlace} {T:TypeId}
  (hl:laidOutB P=true) (hps:f.params.toList.all (fun t=>P.readableRec t && decide (t<P.types.size))=true) (hrt:f.resultTypes=#[T]) (hT:P.underlying T=some .bool)
  (hW:DataW.Whole enc P f.params.toList s.vars false W args.toList ds gs before) (hv:s.vars=[])
  (hs:∀ ds:List (DataW H),ds.length=f.params.toList.length→s.fn H ds={ results:=[.lit (.bool true)],args:=ds }) (hb:Below W.heap.size W W') :
  s.post enc P f false true false false W args (.bool true) W':=by
 have hW0:=hW;obtain⟨p,q,hA,hV,hpq,hz,hn⟩:=hW;rw[hv] at hV
 match gs,hV with
 | [],hV =>
   have hq:q=[]:=hV;subst hq;rw[List.append_nil] at hpq;subst hpq;have hfn:=hs ds (trodAll_length _ _ _ _ hA);have hps':∀ t ∈ f.params.toList,P.readableRec t=true∧t<P.types.size:=fun t ht=>by
    have:=List.all_eq_true.1 hps t ht
    simpa using this
   refine⟨ds,[],before,[],before,[],hW0,?_,?_,?_,?_,fun h=>by cases h⟩
   ·rw[List.append_nil,hfn,hrt]
    exact⟨[],[],⟨1,by simp[DataW.trod,hT,Value.cells]⟩,rfl,rfl⟩
   ·rw[List.append_nil,hfn]
    exact trodAll_stays hl hb _ _ _ _ hps' hA hW0.lt
   ·rw[List.append_nil,hfn,hv]
    exact rfl
   ·exact hb.frame _
 | _ :: _,hV=>exact hV.elim
open Go.ChangeShapes Go.WideShapes Go.ChangeAt
theorem own:ownKnob Tryz.prog.godebug=none:=by kernel_rfl
theorem laidOut:laidOutB Tryz.prog=true:=by kernel_rfl
def laid3 : List (String × DataW Unit) := [("math/bits.deBruijn32tab", Rows.laid_math_bits_deBruijn32tab), ("math/bits.deBruijn64tab", Rows.laid_math_bits_deBruijn64tab), ("internal/strconv.uint64pow10", Rows.laid_internal_strconv_uint64pow10)]
theorem door_met (os:Os) (args:Array Value):laidMetH Tryz.prog laid3 ((World.doorLaid Tryz.prog 24 os).forCall (fun _ _=>0) ⟨#[],args,[]⟩).memory :=
 laidMetH_of_parts3 (fuel:=8) (laidMet_of_run' 8 (by kernel_rfl) (by kernel_rfl)) (by kernel_rfl) (by kernel_rfl)
namespace Tk
def Tab (w : World) : Prop := Lib.TabIs Tryz.prog w "internal/strconv.uint64pow10" .u64 Lib.pow10Tab
end Tk
theorem tab_data:(Rows.laid_internal_strconv_uint64pow10:DataW Unit)=Lib.tabData .u64 Lib.pow10Tab:=rfl
theorem tab_of {W:World} (h:laidMetH Tryz.prog laid3 W):Tk.Tab W:=by
 rw[MakeChecks.laidMetH_plain _ _ _ (by kernel_rfl)] at h;have h2:=h.tail.tail;rw[tab_data] at h2;exact Lib.tabIs_of_head (g:=0) (by kernel_rfl) (by kernel_rfl) Tryz.underlying316 Tryz.underlying153 (by kernel_rfl) (by kernel_rfl) h2
theorem joined_of {P:Program} {f:FuncId} {fn:Func} {s:ChangeSpec} {c:OpenClaim}
  (h1:(c.wf (OpenSpec.ofChange s))=true)
  (h2:(laidOutB P)=true)
  (h3:(mapsRowed P)=true)
  (h4:(fn.params.all (P.readableRec ·))=true)
  (h5:(namedTie P c.named s.vars)=true)
  (h6:((c.stops == []))=true)
  (h7:((P.stops == []))=true)
  (h8:((c.knobs == []))=true)
  (h9:((P.stopKnobs == []))=true)
  (h10:((c.inPlace == P.inPlace f))=true)
  (h11:((c.unfollowed == P.unfollowed f))=true)
  (h12:((c.recurses == P.recurses f))=true)
  (h13:((c.named == P.varsNamed f))=true)
  (h14:((c.maps == (fn.params.toList ++ s.plain.varTypes P).any (P.mapsRec ·)))=true)
  (h15:((c.ifaces == (fn.params.toList ++ s.plain.varTypes P).any (P.ifacesRec ·)))=true)
  (h16:((c.mapsOut == P.mapsAmong fn.resultTypes.toList))=true)
  (h17:((c.loops == (fn.params.toList ++ s.plain.varTypes P).any (P.loopsFrom ·)))=true)
  (h18:((c.wideKeys == (fn.params.toList ++ s.plain.varTypes P ++ fn.resultTypes.toList).any (P.wideKeysFrom ·)))=true)
  (h19:(s.vars.all (P.varReadable ·))=true)
  (h20:(fn.resultTypes.all (fun t=>P.readableRec t && decide (t<P.types.size)))=true)
  (h21:((c.ifacesOut == fn.resultTypes.toList.any (P.ifacesRec ·)))=true)
  (h22:((c.loopsOut == fn.resultTypes.toList.any (P.loopsFrom ·)))=true)
  (h23:((c.plainKeys == P.plainKeys))=true)
  (h24:(c.shortTexts.isNone)=true)
  (h25:(P.stopsHeard)=true)
  (h26:(P.mayEnter)=true)
  (h27:((c.lifted == P.liftsFinal))=true)
  (h28:((P.make == some c.make))=true)
  (h29:c.domain.isEmpty=true) (h29b:(c.kinds == [])=true)
  (h30:((c.pinned == c.pinnedBy))=true)
  (h31:((c.veiled == (fn.params.toList ++ s.plain.varTypes P ++ fn.resultTypes.toList).any (P.veiledRec ·)))=true)
  (h32:(c.veiledFits P fn.params.toList (fn.params.toList ++ s.plain.varTypes P ++ fn.resultTypes.toList))=true):joinedFacts P f fn s c=true:=by
 simp only[joinedFacts,h1,h2,h3,h4,h5,h6,h7,h8,h9,h10,h11,h12,h13,h14,h15,h16,h17,h18,h19,h20,h21,h22,h23,h24,h25,h26,h27,h28,h29,if_true,h29b,h30,h31,h32,Bool.and_self]
theorem p_maps:mapsRowed Tryz.prog=true:=by kernel_rfl
theorem p_stops:(Tryz.prog.stops == [])=true:=by kernel_rfl
theorem p_knobs:(Tryz.prog.stopKnobs == [])=true:=by kernel_rfl
theorem p_plain:(Rows.scriptTellsRow.plainKeys == Tryz.prog.plainKeys)=true:=by kernel_rfl
theorem p_heard:Tryz.prog.stopsHeard=true:=by kernel_rfl
theorem p_enter:Tryz.prog.mayEnter=true:=by kernel_rfl
theorem p_lifted:(Rows.scriptTellsRow.lifted == Tryz.prog.liftsFinal)=true:=by kernel_rfl
theorem p_make:(Tryz.prog.make == some Rows.scriptTellsRow.make)=true:=by kernel_rfl
theorem p_looks:false=Tryz.prog.looks []:=by kernel_rfl
theorem goes_none {P:Program} (h:(P.funcs.toList.any Func.goes)=false) (f:FuncId):P.goes f=false:=by
 have hg:∀ g:Nat,(P.funcs[g]?).any Func.goes=false:=fun g=>by
  cases hx:P.funcs[g]? with
  | none=>rfl
  | some fn =>
    have hm:fn ∈ P.funcs.toList:=by rw[Array.mem_toList_iff];exact Array.mem_of_getElem? hx
    show fn.goes=false
    exact Bool.eq_false_iff.2 fun hc=>by
     have:=List.any_eq_false.1 h fn hm;exact this hc
 unfold Program.goes;rw[Bool.or_eq_false_iff];refine⟨?_,?_⟩
 ·rw[List.any_eq_false];intro x _;rw[hg];decide
 ·rw[show P.funcs.any Func.goes=false from by rw[← Array.any_toList];exact h,Bool.and_false]
theorem goesBy_none {P:Program} (h:(P.funcs.toList.any Func.goes)=false) (c:OpenClaim):false=c.goesBy P:=by
 unfold OpenClaim.goesBy Program.goesAt Program.goesFrom
 symm
 rw[Bool.or_eq_false_iff];refine⟨?_,?_⟩
 ·cases P.funcNamed c.func with
  | none=>rfl
  | some f=>exact goes_none h f
 ·cases c.start with
  | entering=>rfl
  | _=>rw[List.any_eq_false];intro x _;rw[goes_none h];decide
theorem c_none:(Tryz.prog.funcs.toList.any Func.goes)=false:=by kernel_rfl
end Go.Proofs.YtlofbhoicbemnaaGreatDoor
namespace Go.Proofs.YtlofbhoicbemnaaGreatDoor.Tk
open Go.ChangeShapes Go.WideShapes Go.ChangeAt Go.RowKit Go.Maps Go.Sort
theorem extraA:Builder.Extra Tryz.prog bstrA_ren :=
 { sizeBuilder:=by kernel_rfl,liesBuilder:=by kernel_rfl,t5:=Tryz.underlying5,a5:=Tryz.isAgg5,z5:=Tryz.sizeOf5,v5:=Tryz.zeroValue5,infoByte:=by kernel_rfl,cellsByte:=by kernel_rfl,sizeByte:=by kernel_rfl,neB5:=by decide }
theorem extraW:Builder.Extra Tryz.prog bwrA_ren :=
 { sizeBuilder:=by kernel_rfl,liesBuilder:=by kernel_rfl,t5:=Tryz.underlying5,a5:=Tryz.isAgg5,z5:=Tryz.sizeOf5,v5:=Tryz.zeroValue5,infoByte:=by kernel_rfl,cellsByte:=by kernel_rfl,sizeByte:=by kernel_rfl,neB5:=by decide }
theorem isb_below {B b:Nat} {p:Value} {bs:List Value} {w w':World} (h:Lib.BuilderAt 102 5 B b p bs w) (hb:Below w.heap.size w w'):Lib.BuilderAt 102 5 B b p bs w':=by
 obtain⟨h1,v,h2,h3,h4⟩:=h;refine⟨h1,v,?_,owns_below h3 hb,h4⟩;rw[hb.block b (heap_lt h2)];exact h2
theorem buiC_any:BuiC (fun B b l w=>Lib.IsBuilder 102 5 B b (Lib.byteCells l) w) where
 fresh w:=Lib.fresh_isBuilder _ _ w
 keep B b l w w' h hb:=h.elim (fun h=>Or.inl (isb_below h hb)) (fun h=>Or.inr (isb_below h hb))
 write B b l s w h hlen hB:=by
  refine(show Calls Tryz.prog 59 #[.pointer (some ⟨b,0,none⟩),.string s] w _ from Any.Builder_WriteString bwrA extraW B b (Lib.byteCells l) s w h (by rw[Lib.byteCells_length];omega) hB).mono ?_;rintro e w' ⟨rfl,h1,h2⟩;refine⟨rfl,Or.inr ?_,h2⟩;have e:Lib.byteCells (l ++ s.data.toList)=Lib.byteCells l ++ Lib.strCells s:=by unfold Lib.byteCells;rw[List.map_append];rfl
  rw[e];exact h1
 str B b l w h hB:=Any.Builder_String_any bstrA extraA B b l w h hB
theorem Tab.below {w w':World} (h:Tab w) (hb:Below w.heap.size w w'):Tab w':=Lib.tabBelow_of_tabIs h w' hb
theorem below_gr (w:World) (k:Nat) (os:Array Obj):Below w.heap.size w (grow (w.drewN k) os):=Lib.below_grow _ w (Nat.le_refl _) k os
theorem itoa_any (n:Int) (h0:-9223372036854775808≤n) (h1:n≤9223372036854775807) (w:World) (ht:Tab w):Calls Tryz.prog 58 #[.int .i64 n] w fun e w'=>e=.returned (.string ⟨(Lib.itoa n).toArray⟩)∧Below w.heap.size w w':=by
 refine(show Calls Tryz.prog 58 #[.int .i64 n] w _ from Any.strconv_Itoa itoaA n h0 h1 w ht).mono ?_;rintro e w' ⟨rfl,k,os,rfl⟩;exact⟨rfl,below_gr w k os⟩
theorem itoa1:(⟨(Lib.itoa 1).toArray⟩:ByteArray)=sOne:=by simp[Lib.itoa,Lib.decDigits];rfl
theorem itoa7:(⟨(Lib.itoa (-7)).toArray⟩:ByteArray)=sSev:=by simp[Lib.itoa,Lib.decDigits];rfl
theorem alive_any (w:World) (ht:Tab w):Calls Tryz.prog 5 #[] w fun e w'=>e=.returned (.bool true)∧Below w.heap.size w w':=by
 refine alive26 w fun w1 hb1=>play26 _ buiC_any w1 (fun w' hb=>?_) (fun w' hb=>?_)
 ·have h:=itoa_any 1 (by decide) (by decide) w' ((ht.below hb1).below hb)
  rw[itoa1] at h;exact h
 ·have h:=itoa_any (-7) (by decide) (by decide) w' ((ht.below hb1).below hb)
  rw[itoa7] at h;exact h
end Go.Proofs.YtlofbhoicbemnaaGreatDoor.Tk
