/- The library's contracts at this program; a law's end. -/
import Derived.Shelf.Strconv.Itoa3
import Derived.Shelf.Strings.Builder1
import Derived.Test.YtlofbhoicbemnaaGreatDoorTie
import Derived.Test.YtlofbhoicbemnaaGreatDoorCards
import Derived.Lib.LaidTab
import Derived.Lib.ItoaMem
import Derived.Stop.LaidErr
import Derived.LaidMore
import Derived.Stop.Joined
import Derived.JoinedOf
import Derived.Test.YtlofbhoicbemnaaGreatDoorGBv
import Derived.Lib.AppendIntMem
set_option linter.unusedVariables false
set_option linter.unusedSimpArgs false
namespace Go.Proofs.YtlofbhoicbemnaaGreatDoor
open Go.RowKit Go.Shelf Go.Proofs.Tryz
def Cn:Ren:=⟨fun | 171=>58 | 243=>88 | 246=>109 | 283=>151 | 284=>152 | 285=>153 | 286=>154 | 129=>217 | 317=>216 | 318=>218 | 319=>219 | 320=>220 | 337=>289 | 338=>283 | n=>n,fun | 3=>3 | 9=>9 | 2=>2 | 4=>4 | 171=>238 | 0=>0 | 53=>153 | 37=>30 | 5=>5 | 173=>241 | 212=>316 | 51=>129 | 20=>20 | 213=>317 | 46=>69 | 232=>394 | 233=>384 | n=>n,fun | 17=>0 | 18=>2 | 19=>1 | n=>n⟩
theorem Kc:LaysM.n171 prog Cn:={mixed:=by kernel_rfl,f129:=func217.trans (congrArg some (by kernel_rfl)),f171:=func58.trans (congrArg some (by kernel_rfl)),f243:=func88.trans (congrArg some (by kernel_rfl)),f246:=func109.trans (congrArg some (by kernel_rfl)),f283:=func151.trans (congrArg some (by kernel_rfl)),f284:=func152.trans (congrArg some (by kernel_rfl)),f285:=func153.trans (congrArg some (by kernel_rfl)),f286:=func154.trans (congrArg some (by kernel_rfl)),f317:=func216.trans (congrArg some (by kernel_rfl)),f318:=func218.trans (congrArg some (by kernel_rfl)),f319:=func219.trans (congrArg some (by kernel_rfl)),f320:=func220.trans (congrArg some (by kernel_rfl)),f337:=func289.trans (congrArg some (by kernel_rfl)),f338:=func283.trans (congrArg some (by kernel_rfl)),t0:=underlying0,a0:=isAgg0,z0:=sizeOf0,v0:=zeroValue0,t2:=underlying2,a2:=isAgg2,z2:=sizeOf2,v2:=zeroValue2,t3:=underlying3,a3:=isAgg3,z3:=sizeOf3,v3:=zeroValue3,t4:=underlying4,a4:=isAgg4,z4:=sizeOf4,v4:=zeroValue4,t5:=underlying5,a5:=isAgg5,z5:=sizeOf5,v5:=zeroValue5,t9:=underlying9,a9:=isAgg9,z9:=sizeOf9,v9:=zeroValue9,t20:=underlying20,a20:=isAgg20,z20:=sizeOf20,v20:=zeroValue20,t37:=underlying30,a37:=isAgg30,z37:=sizeOf30,v37:=zeroValue30,t46:=underlying69,a46:=isAgg69,z46:=sizeOf69,v46:=zeroValue69,t51:=underlying129,a51:=isAgg129,z51:=sizeOf129,v51:=zeroValue129,t53:=underlying153,a53:=isAgg153,z53:=sizeOf153,v53:=zeroValue153,t171:=underlying238,a171:=isAgg238,z171:=sizeOf238,v171:=zeroValue238,t173:=underlying241,a173:=isAgg241,z173:=sizeOf241,v173:=zeroValue241,t212:=underlying316,a212:=isAgg316,z212:=sizeOf316,v212:=zeroValue316,t213:=underlying317,a213:=isAgg317,z213:=sizeOf317,t232:=underlying394,a232:=isAgg394,z232:=sizeOf394,v232:=zeroValue394,t233:=underlying384,a233:=isAgg384,z233:=sizeOf384,v233:=zeroValue384,g17:=by kernel_rfl,g18:=by kernel_rfl,g19:=by kernel_rfl,i0:=by kernel_rfl,i2:=by kernel_rfl,i3:=by kernel_rfl,i4:=by kernel_rfl,i5:=by kernel_rfl,i9:=by kernel_rfl,i20:=by kernel_rfl,i37:=by kernel_rfl,i46:=by kernel_rfl,i51:=by kernel_rfl,i53:=by kernel_rfl,i171:=by kernel_rfl,i173:=by kernel_rfl,i212:=by kernel_rfl,i232:=by kernel_rfl,i233:=by kernel_rfl,m17:=by kernel_rfl,m18:=by kernel_rfl,m19:=by kernel_rfl }
def uV:Ren:=⟨fun | 169=>60 | n=>n,fun | 70=>100 | 9=>9 | 0=>0 | 72=>102 | 37=>30 | 127=>151 | 3=>3 | 5=>5 | n=>n,fun | n=>n⟩
theorem Kr:Lays.n169 prog uV:={mixed:=by kernel_rfl,f169:=func60.trans (congrArg some (by kernel_rfl)),t0:=underlying0,a0:=isAgg0,z0:=sizeOf0,v0:=zeroValue0,t3:=underlying3,a3:=isAgg3,z3:=sizeOf3,v3:=zeroValue3,t9:=underlying9,a9:=isAgg9,z9:=sizeOf9,v9:=zeroValue9,t37:=underlying30,a37:=isAgg30,z37:=sizeOf30,v37:=zeroValue30,t70:=underlying100,a70:=isAgg100,z70:=sizeOf100,v70:=zeroValue100,t72:=underlying102,a72:=isAgg102,z72:=sizeOf102,v72:=zeroValue102,t127:=underlying151,a127:=isAgg151,z127:=sizeOf151,v127:=zeroValue151 }
def yZ:Ren:=⟨fun | 166=>59 | 240=>89 | 276=>110 | n=>n,fun | 70=>100 | 9=>9 | 3=>3 | 75=>104 | 0=>0 | 72=>102 | 37=>30 | 4=>4 | 164=>183 | 80=>107 | 5=>5 | n=>n,fun | n=>n⟩
theorem KH:Lays.n166 prog yZ:={mixed:=by kernel_rfl,f166:=func59.trans (congrArg some (by kernel_rfl)),f240:=func89.trans (congrArg some (by kernel_rfl)),f276:=func110.trans (congrArg some (by kernel_rfl)),t0:=underlying0,a0:=isAgg0,z0:=sizeOf0,v0:=zeroValue0,t3:=underlying3,a3:=isAgg3,z3:=sizeOf3,v3:=zeroValue3,t4:=underlying4,a4:=isAgg4,z4:=sizeOf4,v4:=zeroValue4,t9:=underlying9,a9:=isAgg9,z9:=sizeOf9,v9:=zeroValue9,t20:=underlying20,a20:=isAgg20,z20:=sizeOf20,v20:=zeroValue20,t37:=underlying30,a37:=isAgg30,z37:=sizeOf30,v37:=zeroValue30,t70:=underlying100,a70:=isAgg100,z70:=sizeOf100,v70:=zeroValue100,t72:=underlying102,a72:=isAgg102,z72:=sizeOf102,v72:=zeroValue102,t75:=underlying104,a75:=isAgg104,z75:=sizeOf104,v75:=zeroValue104,t164:=underlying183,a164:=isAgg183,z164:=sizeOf183,v164:=zeroValue183 }
theorem nE {H:Type} {enc:TypeId × Value→H} {P:Program} (hl:laidOutB P=true) {W W':World} (hb:Below W.heap.size W W') :
  ∀ (ts:List TypeId) (vs:List Value) (ds:List (DataW H)) (ps:List MemPlace),(∀ t ∈ ts,P.readableRec t=true∧t<P.types.size) →
   DataW.TrodAll enc P W 0 (fun _=>true) true ts vs ds ps→(∀ x ∈ ps,x.block<W.heap.size)→DataW.TrodAll enc P W' 0 (fun b=>decide (b<W.heap.size)) true ts vs ds ps
 | [],[],[],_,_,h,_=>h
 | t :: ts,v :: vs,d :: ds,_,ht,⟨p,q,h1,h2,he⟩,hlt=>by
   subst he;exact⟨p,q,Below.trod hl (ht t (List.mem_cons_self ..)).1 (ht t (List.mem_cons_self ..)).2 h1 hb (fun x hx=>hlt x (List.mem_append_left _ hx)),
    nE hl hb ts vs ds q (fun t' h'=>ht t' (List.mem_cons_of_mem _ h')) h2 (fun x hx=>hlt x (List.mem_append_right _ hx)),rfl⟩
theorem trodAll_length {H:Type} {enc:TypeId × Value→H} {P:Program} {W:World} {b:Nat} {sp:Nat→Bool} {hd:Bool} :
  ∀ (ts:List TypeId) (vs:List Value) (ds:List (DataW H)) (ps:List MemPlace),DataW.TrodAll enc P W b sp hd ts vs ds ps→ds.length=ts.length
 | [],[],[],_,_=>rfl
 | _ :: ts,_ :: vs,_ :: ds,_,⟨_,q,_,h,_⟩=>congrArg (·+1) (trodAll_length ts vs ds q h)
theorem EY {H:Type} {enc:TypeId × Value→H} {P:Program} {f:Func} {s:ChangeSpec} {W W':World} {args:Array Value} {ds gs:List (DataW H)} {before:List MemPlace} {T:TypeId}
  (hl:laidOutB P=true) (hps:f.params.toList.all (fun t=>P.readableRec t && decide (t<P.types.size))=true) (hrt:f.resultTypes=#[T]) (hT:P.underlying T=some .bool)
  (hW:DataW.Whole enc P f.params.toList s.vars false W args.toList ds gs before) (hv:s.vars=[])
  (hs:∀ ds:List (DataW H),ds.length=f.params.toList.length→s.fn H ds={ results:=[.lit (.bool true)],args:=ds }) (hb:Below W.heap.size W W') :
  s.post enc P f false true false false W args (.bool true) W':=by
 have hW0:=hW;obtain⟨p,q,hA,hV,hpq,hz,hn⟩:=hW;rw[hv] at hV
 match gs,hV with
 | [],hV =>
   have hq:q=[]:=hV;subst hq;rw[List.append_nil] at hpq;subst hpq;have hfn:=hs ds (trodAll_length _ _ _ _ hA);have hps':∀ t ∈ f.params.toList,P.readableRec t=true∧t<P.types.size:=fun t ht=>by
    have:=List.all_eq_true.1 hps t ht
    simpa using this
   refine⟨ds,[],before,[],before,[],hW0,?_,?_,?_,?_,fun h=>by cases h⟩
   ·rw[List.append_nil,hfn,hrt]
    exact⟨[],[],⟨1,by simp[DataW.trod,hT,Value.cells]⟩,rfl,rfl⟩
   ·rw[List.append_nil,hfn]
    exact nE hl hb _ _ _ _ hps' hA hW0.lt
   ·rw[List.append_nil,hfn,hv]
    exact rfl
   ·exact hb.frame _
 | _ :: _,hV=>exact hV.elim
open Go.ChangeShapes Go.WideShapes Go.ChangeAt
theorem own:ownKnob prog.godebug=none:=by kernel_rfl
theorem laidOut:laidOutB prog=true:=by kernel_rfl
def yQ : List (String × DataW Unit) := [("math/bits.deBruijn32tab", Rows.laid_math_bits_deBruijn32tab), ("math/bits.deBruijn64tab", Rows.laid_math_bits_deBruijn64tab), ("internal/strconv.uint64pow10", Rows.laid_internal_strconv_uint64pow10)]
theorem EO (os:Os) (args:Array Value):laidMetH prog yQ ((World.doorLaid prog 24 os).forCall (fun _ _=>0) ⟨#[],args,[]⟩).memory :=
 laidMetH_of_parts3 (fuel:=8) (laidMet_of_run' 8 (by kernel_rfl) (by kernel_rfl)) (by kernel_rfl) (by kernel_rfl)
namespace Tk
def Tab (w : World) : Prop := Lib.TabIs prog w "internal/strconv.uint64pow10" .u64 Lib.pow10Tab
end Tk
theorem Gs:(Rows.laid_internal_strconv_uint64pow10:DataW Unit)=Lib.tabData .u64 Lib.pow10Tab:=rfl
theorem Jf {W:World} (h:laidMetH prog yQ W):Tk.Tab W:=by
 rw[MakeChecks.laidMetH_plain _ _ _ (by kernel_rfl)] at h;have h2:=h.tail.tail;rw[Gs] at h2;exact Lib.tabIs_of_head (g:=0) (by kernel_rfl) (by kernel_rfl) underlying316 underlying153 (by kernel_rfl) (by kernel_rfl) h2
theorem CY {P:Program} {f:FuncId} {fn:Func} {s:ChangeSpec} {c:OpenClaim}
  (h1:(c.wf (OpenSpec.ofChange s))=true)
  (h2:(laidOutB P)=true)
  (h3:(mapsRowed P)=true)
  (h4:(fn.params.all (P.readableRec ·))=true)
  (h5:(namedTie P c.named s.vars)=true)
  (h6:(c.stops==[])=true)
  (h7:(P.stops==[])=true)
  (h8:(c.knobs==[])=true)
  (h9:(P.stopKnobs==[])=true)
  (h10:(c.inPlace==P.inPlace f)=true)
  (h11:(c.unfollowed==P.unfollowed f)=true)
  (h12:(c.recurses==P.recurses f)=true)
  (h13:(c.named==P.varsNamed f)=true)
  (h14:((c.maps==(fn.params.toList ++ s.plain.varTypes P).any (P.mapsRec ·)))=true)
  (h15:((c.ifaces==(fn.params.toList ++ s.plain.varTypes P).any (P.ifacesRec ·)))=true)
  (h16:(c.mapsOut==P.mapsAmong fn.resultTypes.toList)=true)
  (h17:((c.loops==(fn.params.toList ++ s.plain.varTypes P).any (P.loopsFrom ·)))=true)
  (h18:((c.wideKeys==(fn.params.toList ++ s.plain.varTypes P ++ fn.resultTypes.toList).any (P.wideKeysFrom ·)))=true)
  (h19:(s.vars.all (P.varReadable ·))=true)
  (h20:(fn.resultTypes.all (fun t=>P.readableRec t && decide (t<P.types.size)))=true)
  (h21:((c.ifacesOut==fn.resultTypes.toList.any (P.ifacesRec ·)))=true)
  (h22:((c.loopsOut==fn.resultTypes.toList.any (P.loopsFrom ·)))=true)
  (h23:(c.plainKeys==P.plainKeys)=true)
  (h24:(c.shortTexts.isNone)=true)
  (h25:(P.stopsHeard)=true)
  (h26:(P.mayEnter)=true)
  (h27:(c.lifted==P.liftsFinal)=true)
  (h28:(P.make==some c.make)=true)
  (h29:c.domain.isEmpty=true) (h29b:(c.kinds==[])=true)
  (h30:(c.pinned==c.pinnedBy)=true)
  (h31:((c.veiled==(fn.params.toList ++ s.plain.varTypes P ++ fn.resultTypes.toList).any (P.veiledRec ·)))=true)
  (h32:(c.veiledFits P fn.params.toList (fn.params.toList ++ s.plain.varTypes P ++ fn.resultTypes.toList))=true):joinedFacts P f fn s c=true:=by
 simp only[joinedFacts,h1,h2,h3,h4,h5,h6,h7,h8,h9,h10,h11,h12,h13,h14,h15,h16,h17,h18,h19,h20,h21,h22,h23,h24,h25,h26,h27,h28,h29,if_true,h29b,h30,h31,h32,Bool.and_self]
theorem JJ:mapsRowed prog=true:=by kernel_rfl
theorem GQ:(prog.stops==[])=true:=by kernel_rfl
theorem Ie:(prog.stopKnobs==[])=true:=by kernel_rfl
theorem H8:(Rows.packTellsRow.plainKeys==prog.plainKeys)=true:=by kernel_rfl
theorem Hq:prog.stopsHeard=true:=by kernel_rfl
theorem IW:prog.mayEnter=true:=by kernel_rfl
theorem EX:(Rows.packTellsRow.lifted==prog.liftsFinal)=true:=by kernel_rfl
theorem Jo:(prog.make==some Rows.packTellsRow.make)=true:=by kernel_rfl
theorem GZ:false=prog.looks []:=by kernel_rfl
theorem vD {P:Program} (h:(P.funcs.toList.any Func.goes)=false) (f:FuncId):P.goes f=false:=by
 have hg:∀ g:Nat,(P.funcs[g]?).any Func.goes=false:=fun g=>by
  cases hx:P.funcs[g]? with
  | none=>rfl
  | some fn =>
    have hm:fn ∈ P.funcs.toList:=by rw[Array.mem_toList_iff];exact Array.mem_of_getElem? hx
    show fn.goes=false
    exact Bool.eq_false_iff.2 fun hc=>by
     have:=List.any_eq_false.1 h fn hm;exact this hc
 unfold Program.goes;rw[Bool.or_eq_false_iff];refine⟨?_,?_⟩
 ·rw[List.any_eq_false];intro x _;rw[hg];decide
 ·rw[show P.funcs.any Func.goes=false from by rw[← Array.any_toList];exact h,Bool.and_false]
theorem yx {P:Program} (h:(P.funcs.toList.any Func.goes)=false) (c:OpenClaim):false=c.goesBy P:=by
 unfold OpenClaim.goesBy Program.goesAt Program.goesFrom
 symm
 rw[Bool.or_eq_false_iff];refine⟨?_,?_⟩
 ·cases P.funcNamed c.func with
  | none=>rfl
  | some f=>exact vD h f
 ·cases c.start with
  | entering=>rfl
  | _=>rw[List.any_eq_false];intro x _;rw[vD h];decide
theorem Jd:(prog.funcs.toList.any Func.goes)=false:=by kernel_rfl
namespace Tk
open Go.Maps Go.Sort
theorem Jy:Builder.Extra prog uV :=
 { sizeBuilder:=by kernel_rfl,liesBuilder:=by kernel_rfl,t5:=underlying5,a5:=isAgg5,z5:=sizeOf5,v5:=zeroValue5,infoByte:=by kernel_rfl,cellsByte:=by kernel_rfl,sizeByte:=by kernel_rfl,neB5:=by decide }
theorem Jm:Builder.Extra prog yZ :=
 { sizeBuilder:=by kernel_rfl,liesBuilder:=by kernel_rfl,t5:=underlying5,a5:=isAgg5,z5:=sizeOf5,v5:=zeroValue5,infoByte:=by kernel_rfl,cellsByte:=by kernel_rfl,sizeByte:=by kernel_rfl,neB5:=by decide }
theorem uC {B b:Nat} {p:Value} {bs:List Value} {w w':World} (h:Lib.BuilderAt 102 5 B b p bs w) (hb:Below w.heap.size w w'):Lib.BuilderAt 102 5 B b p bs w':=by
 obtain⟨h1,v,h2,h3,h4⟩:=h;refine⟨h1,v,?_,rP h3 hb,h4⟩;rw[hb.block b (aj h2)];exact h2
theorem Gy:BuiC (fun B b l w=>Lib.IsBuilder 102 5 B b (Lib.byteCells l) w) where
 fresh w:=Lib.fresh_isBuilder _ _ w
 keep B b l w w' h hb:=h.elim (fun h=>Or.inl (uC h hb)) (fun h=>Or.inr (uC h hb))
 write B b l s w h hlen hB:=by
  refine(show Calls prog 59 #[.pointer (some ⟨b,0,none⟩),.string s] w _ from Any.Builder_WriteString KH Jm B b (Lib.byteCells l) s w h (by rw[Lib.byteCells_length];omega) hB).mono ?_;rintro e w' ⟨rfl,h1,h2⟩;refine⟨rfl,Or.inr ?_,h2⟩;have e:Lib.byteCells (l ++ s.data.toList)=Lib.byteCells l ++ Lib.strCells s:=by unfold Lib.byteCells;rw[List.map_append];rfl
  rw[e];exact h1
 str B b l w h hB:=Any.Builder_String_any Kr Jy B b l w h hB
theorem Tab.below {w w':World} (h:Tab w) (hb:Below w.heap.size w w'):Tab w':=Lib.tabBelow_of_tabIs h w' hb
theorem Gr (w:World) (k:Nat) (os:Array Obj):Below w.heap.size w (grow (w.drewN k) os):=Lib.below_grow _ w (Nat.le_refl _) k os
theorem xg (n:Int) (h0:-9223372036854775808≤n) (h1:n≤9223372036854775807) (w:World) (ht:Tab w):Calls prog 58 #[.int .i64 n] w fun e w'=>e=.returned (.string ⟨(Lib.itoa n).toArray⟩)∧Below w.heap.size w w':=by
 refine(show Calls prog 58 #[.int .i64 n] w _ from Any.strconv_Itoa Kc n h0 h1 w ht).mono ?_;rintro e w' ⟨rfl,k,os,rfl⟩;exact⟨rfl,Gr w k os⟩
theorem Ku:(⟨(Lib.itoa 1).toArray⟩:ByteArray)=IC:=by simp[Lib.itoa,Lib.decDigits];rfl
theorem Kv:(⟨(Lib.itoa (-7)).toArray⟩:ByteArray)=Kq:=by simp[Lib.itoa,Lib.decDigits];rfl
theorem DI (w:World) (ht:Tab w):Calls prog 5 #[] w fun e w'=>e=.returned (.bool true)∧Below w.heap.size w w':=by
 refine G8 w fun w1 hb1=>Jp _ Gy w1 (fun w' hb=>?_) (fun w' hb=>?_)
 ·have h:=xg 1 (by decide) (by decide) w' ((ht.below hb1).below hb)
  rw[Ku] at h;exact h
 ·have h:=xg (-7) (by decide) (by decide) w' ((ht.below hb1).below hb)
  rw[Kv] at h;exact h
