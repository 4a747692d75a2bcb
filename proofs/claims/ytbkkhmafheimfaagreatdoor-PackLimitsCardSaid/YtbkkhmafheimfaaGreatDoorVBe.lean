/- A map from places to kinds, and a queue, as they lie. Walk: kinds are brought to a place. -/
import Derived.Test.YtbkkhmafheimfaaGreatDoorVBd
import Derived.ArgAppend
set_option linter.unusedVariables false
set_option linter.unusedSimpArgs false
set_option maxRecDepth 100000
set_option maxHeartbeats 6400000
namespace Go.Proofs.YtbkkhmafheimfaaGreatDoor
open Go.ChangeShapes Go.WideShapes Go.ChangeAt Go.RowKit Go.Maps
theorem zero_ints (w:World):(zeroValue 34).run Tryz.prog w=.ok (.slice none 0 0) w:=by first | rfl | kernel_rfl
def plA (x:Pl):Value:=.agg #[.int .i64 x.1.1,.int .i64 x.1.2]
theorem map_ty:Tryz.prog.underlying 132=some (.map plK.k 34):=Tryz.underlying132
def FlMap (w:World) (b n:Nat) (V:Nat→Prop) (C:Pl→Option (List Int)):Prop :=
 ∃ g:Pl→Option Hd,MapIs plK Hd.val w b n g∧∀ x,(C x=none→g x=none)∧∀ K,C x=some K→∃ a c,g x=some ⟨a,K.length,c⟩∧IntSl w V a K
theorem FlMap.lt {w:World} {b n:Nat} {V:Nat→Prop} {C:Pl→Option (List Int)} (h:FlMap w b n V C):b<w.heap.size:=let ⟨_,h,_⟩:=h;h.lt
theorem FlMap.fr {F:Nat→Prop} {w w':World} {b n:Nat} {V:Nat→Prop} {C:Pl→Option (List Int)} (h:FlMap w b n V C) (hf:Fr F w w') (hb:¬ F b) (hV:∀ k,V k→¬ F k):FlMap w' b n V C:=by
 obtain⟨g,h1,h2⟩:=h;refine⟨g,h1.fr hf hb,fun x=>⟨(h2 x).1,fun K hK=>?_⟩⟩;obtain⟨a,c,h3,h4⟩:=(h2 x).2 K hK;exact⟨a,c,h3,h4.fr hf hV⟩
theorem FlMap.wide {w:World} {b n:Nat} {V V':Nat→Prop} {C:Pl→Option (List Int)} (h:FlMap w b n V C) (hV:∀ k,V k→V' k):FlMap w b n V' C:=by
 obtain⟨g,h1,h2⟩:=h;refine⟨g,h1,fun x=>⟨(h2 x).1,fun K hK=>?_⟩⟩;obtain⟨a,c,h3,h4⟩:=(h2 x).2 K hK;exact⟨a,c,h3,h4.wide hV⟩
theorem FlMap.made (w:World) (V:Nat→Prop):FlMap (w.alloc (.map #[] 0)) w.heap.size 0 V (fun _=>none) :=
 ⟨fun _=>none,MapIs.made plK Hd.val w,fun x=>⟨fun _=>rfl,fun K h=>by cases h⟩⟩
theorem FlMap.none_run {w:World} {b n:Nat} {V:Nat→Prop} {C:Pl→Option (List Int)} (h:FlMap w b n V C) (x:Pl) (hx:C x=none) :
  (Instr.lookup 132 (.map (some b)) (plA x) true).run Tryz.prog w=.ok (.tuple #[.slice none 0 0,.bool false]) w∧(Instr.lookup 132 (.map (some b)) (plA x) false).run Tryz.prog w=.ok (.slice none 0 0) w:=by
 obtain⟨g,h1,h2⟩:=h;have hl:=(h1.look map_ty (zero_ints w) x trivial).2 ((h2 x).1 hx);exact⟨hl.2,hl.1⟩
theorem FlMap.some_run {w:World} {b n:Nat} {V:Nat→Prop} {C:Pl→Option (List Int)} (h:FlMap w b n V C) (x:Pl) (K:List Int) (hx:C x=some K):∃ a c,IntSl w V a K ∧
  (Instr.lookup 132 (.map (some b)) (plA x) true).run Tryz.prog w=.ok (.tuple #[.slice a K.length c,.bool true]) w∧(Instr.lookup 132 (.map (some b)) (plA x) false).run Tryz.prog w=.ok (.slice a K.length c) w:=by
 obtain⟨g,h1,h2⟩:=h;obtain⟨a,c,h3,h4⟩:=(h2 x).2 K hx;have hl:=(h1.look map_ty (zero_ints w) x trivial).1 _ h3;exact⟨a,c,h4,hl.2,hl.1⟩
theorem FlMap.put {w:World} {b n:Nat} {V:Nat→Prop} {C:Pl→Option (List Int)} (h:FlMap w b n V C) (hn:n<maxLen) (x:Pl) (a:Option Addr) (K:List Int) (c:Nat) (hs:IntSl w V a K) (hV:∀ k,V k→k≠b) :
  ∃ w',(Instr.mapUpdate 132 (.map (some b)) (plA x) (.slice a K.length c)).run Tryz.prog w=.ok () w'∧FlMap w' b (if (C x).isSome then n else n+1) V (upd C x (some K))∧w.mapTurned w' b:=by
 obtain⟨g,h1,h2⟩:=h;obtain⟨w',hr,h3,h4⟩:=h1.put map_ty hn x trivial (⟨a,K.length,c⟩:Hd);have hgC:(g x).isSome=(C x).isSome:=by
  cases hc:C x with
  | none=>rw[(h2 x).1 hc];rfl
  | some K' =>
    obtain⟨a',c',h5,_⟩:=(h2 x).2 K' hc;rw[h5]
    rfl
 rw[hgC] at h3;have hf:=turned_fr h4;refine⟨w',hr,⟨_,h3,fun y=>?_⟩,h4⟩;unfold upd
 by_cases hy:y=x
 ·rw[if_pos hy,if_pos hy]
  refine⟨fun h=>(by cases h),fun K' hK'=>?_⟩
  injection hK' with e
  subst e;exact⟨a,c,rfl,hs.fr hf hV⟩
 ·rw[if_neg hy,if_neg hy]
  refine⟨(h2 y).1,fun K' hK'=>?_⟩;obtain⟨a',c',h5,h6⟩:=(h2 y).2 K' hK';exact⟨a',c',h5,h6.fr hf hV⟩
def Que (w:World) (B:Nat) (v:Value) (l:List Int):Prop :=
 (∃ a,v=.slice a 0 0∧l=[]∧∀ k,v.ownBlock=some k→B≤k∧k<w.heap.size) ∨
 ∃ g pre c,v=.slice (some ⟨g,pre.length,none⟩) l.length c∧l.length≤c∧Own intE w B (.slice (some ⟨g,0,none⟩) (pre ++ l).length (pre.length+c)) (pre ++ l)
theorem Que.nil (w:World) (B:Nat):Que w B (.slice none 0 0) []:=.inl ⟨none,rfl,rfl,fun k h=>by cases h⟩
theorem Que.own {w:World} {B g c:Nat} {l:List Int} (hc:l.length≤c) (h:Own intE w B (.slice (some ⟨g,0,none⟩) l.length c) l):Que w B (.slice (some ⟨g,0,none⟩) l.length c) l :=
 .inr ⟨g,[],c,rfl,hc,by simpa using h⟩
theorem Que.lt {w:World} {B:Nat} {v:Value} {l:List Int} (h:Que w B v l) {k:Nat} (hk:v.ownBlock=some k):B≤k∧k<w.heap.size:=by
 rcases h with⟨a,rfl,rfl,h⟩ | ⟨g,pre,c,rfl,_,h⟩
 ·exact h k hk
 ·exact h.lt (k:=k) (by simpa[Value.ownBlock] using hk)
theorem Que.fr {F:Nat→Prop} {w w':World} {B:Nat} {v:Value} {l:List Int} (h:Que w B v l) (hf:Fr F w w') (hn:∀ k,v.ownBlock=some k→¬ F k):Que w' B v l:=by
 rcases h with⟨a,rfl,rfl,h⟩ | ⟨g,pre,c,rfl,hc,h⟩
 ·exact .inl ⟨a,rfl,rfl,fun k hk=>⟨(h k hk).1,Nat.lt_of_lt_of_le (h k hk).2 hf.size⟩⟩
 ·exact .inr ⟨g,pre,c,rfl,hc,h.fr hf (fun k hk=>hn k (by simpa[Value.ownBlock] using hk))⟩
theorem Que.slice {w:World} {B:Nat} {v:Value} {l:List Int} (h:Que w B v l):∃ a c,v=.slice a l.length c:=by
 rcases h with⟨a,rfl,rfl,_⟩ | ⟨g,pre,c,rfl,_⟩
 ·exact⟨a,0,rfl⟩
 ·exact⟨_,c,rfl⟩
theorem Que.first {w:World} {B:Nat} {v:Value} {x:Int} {l:List Int} (h:Que w B v (x :: l)) :
  ∃ g o c,v=.slice (some ⟨g,o,none⟩) (x :: l).length c∧w.cell? ⟨g,o,none⟩=some (.int .i64 x)∧v.ownBlock=some g ∧
   ∃ v',Que w B v' l∧(∀ k,v'.ownBlock=some k→v.ownBlock=some k)∧∀ wx:World,(Instr.slice 34 v (some (.int .i64 1)) none none).run Tryz.prog wx=.ok v' wx:=by
 rcases h with⟨a,rfl,h0,_⟩ | ⟨g,pre,c,rfl,hc,h⟩
 ·cases h0
 ·obtain⟨a,c',hv,hsl⟩:=own_int h
  injection hv with e1 e2 e3
  subst e1;obtain⟨b,o,hb,_,hx⟩:=hsl pre.length (by simp)
  injection hb with hb
  injection hb with hb1 hb2
  subst hb1 hb2;rw[Nat.zero_add] at hx;have hl1:(x :: l).length=l.length+1:=rfl;refine⟨g,pre.length,c,rfl,by simpa using hx,rfl,?_⟩;have hrun:∀ wx:World,(Instr.slice 34 (.slice (some ⟨g,pre.length,none⟩) (x :: l).length c) (some (.int .i64 1)) none none).run Tryz.prog wx=.ok (.slice (if c=1 then some ⟨g,pre.length,none⟩ else some ⟨g,pre.length+1,none⟩) l.length (c - 1)) wx:=fun wx=>by
   have hsz:(Tryz.prog.info? 3).map (·.size)=some 1:=by kernel_rfl
   obtain⟨i0,hi,hz0,hz1,hz2⟩:=info_parts intE.info;have hz1:i0.size=1:=hz1;have hi:Tryz.prog.info? 3=some i0:=hi;have hz:(sizeOf 3).run Tryz.prog wx=.ok 1 wx:=by simp[sizeOf,typeInfo,hi,hz1]
   have ha:(⟨g,pre.length,none⟩:Addr).add 1=⟨g,pre.length+1,none⟩:=addr_add _ rfl 1;have h01:(0:Int)≤1∧(1:Int)≤(l.length:Int)+1:=by omega
   simp[Instr.slice,run_underlying Tryz.underlying34,Instr.sliceBounds,Instr.sliceBound,hz,asIntOf,ha,h01]
  by_cases h1:c=1
  ·have hl0:l=[]:=List.length_eq_zero_iff.1 (by omega)
   subst hl0;refine⟨.slice (some ⟨g,pre.length,none⟩) 0 0,.inl ⟨_,rfl,rfl,fun k hk=>h.lt (k:=k) (by simpa[Value.ownBlock] using hk)⟩,fun k hk=>hk,fun wx=>?_⟩;rw[hrun wx,if_pos h1,h1]
   rfl
  ·refine⟨.slice (some ⟨g,pre.length+1,none⟩) l.length (c - 1),.inr ⟨g,pre ++ [x],c - 1,by simp,by omega,?_⟩,fun k hk=>hk,fun wx=>?_⟩
   ·have e:pre ++ [x] ++ l=pre ++ x :: l:=by simp
    rw[e,show (pre ++ [x]).length+(c - 1)=pre.length+c from by simp;omega];exact h
   ·rw[hrun wx,if_neg h1]
theorem Que.append {w:World} {B:Nat} {v:Value} {l:List Int} (h:Que w B v l) (hB:B≤w.heap.size) (ty:TypeId) (x:Int) (b c:Nat) (hx:w.cell? ⟨b,0,none⟩=some (.int .i64 x)) (hl:l.length≤1000000) :
  ∃ v' w',(Builtin.append_ #[34,34] ty #[v,.slice (some ⟨b,0,none⟩) 1 c]).run Tryz.prog w=.ok v' w'∧Que w' B v' (l ++ [x])∧w.grownBy w' v.ownBlock∧Fresh w v v':=by
 obtain⟨i0,hi,hz0,hz1,hz2⟩:=info_parts intE.info;have hz1:i0.size=1:=hz1;have hne:∀ j u,[Value.int .i64 x][j]?=some u→w.cell? ((⟨b,0,none⟩:Addr).add j)=some u:=fun j u hj=>by
  match j,hj with
  | 0,hj =>
    simp at hj
    subst hj;exact hx
 have h1c:∀ u ∈ [Value.int .i64 x],u.oneCell'=true:=fun u hu=>by simp at hu;subst hu;rfl
 have hfl:∀ m:List Int,m.flatMap intE.enc=m.map (Value.int .i64):=fun m=>by
  induction m with
  | nil=>rfl
  | cons y m ih=>rw[List.flatMap_cons,ih];rfl
 have grown:∀ (v':Value) (w':World),w'.ownsRow w.heap.size 3 1 v' (l.length+1) (l.map (Value.int .i64) ++ [.int .i64 x])→Que w' B v' (l ++ [x])∧∀ k,v'.ownBlock=some k→w.heap.size≤k:=fun v' w' ho=>by
  have ho2:Own intE w' w.heap.size v' (l ++ [x]):=by
   unfold Own;rw[hfl,List.map_append,List.length_append];exact ho
  refine⟨?_,fun k hk=>(ho2.lt hk).1⟩
  rcases id ho2.2 with⟨_,h0⟩ | ⟨g,cap,cur,rfl,_,_,hc,_⟩
  ·simp at h0
  ·exact Que.own (by simpa using hc) (ho2.base (fun k hk=>Nat.le_trans hB (ho2.lt hk).1))
 have hby:(l.length+1) * i0.bytes≤140737488355328:=by
  have h1:=intE.hby;have h2:(l.length+1) * intE.bytes≤1000001 * 1000:=Nat.mul_le_mul (by omega) h1;rw[hz2]
  omega
 rcases h with⟨a,rfl,rfl,hk⟩ | ⟨g,pre,cap,rfl,hc,ho⟩
 ·cases a with
  | none =>
    obtain⟨v',w',hr,h2,h3,h4⟩:=run_append_fresh intE w ty w.heap.size [] [x] (.slice none 0 0) (Own.nil _ _ _) b 0 c (fun j u hj=>by
     match j,hj with
     | 0,hj=>simp[intE] at hj;subst hj;exact hx) (by simp) (Nat.le_refl _)
    refine⟨v',w',hr,(grown v' w' (by have:=h2;unfold Own at this;rw[hfl] at this;exact this)).1,h3,h4⟩
  | some a =>
    obtain⟨v',w',hr,h2,h3⟩:=run_append_arg_grows (P:=Tryz.prog) w 34 ty 3 i0 intE.zero 1 i0.bytes Tryz.underlying34 hi hz0 hz1 rfl rfl (by decide) a 0 0 [] rfl (fun j u hj=>by cases hj) ⟨b,0,none⟩ 1 c [.int .i64 x] rfl hne (by decide) (by unfold maxLen;omega) (by simpa using hby);have hg:=grown v' w' h2;refine⟨v',w',hr,hg.1,?_,fun k hk=>.inr (hg.2 k hk)⟩;exact⟨h3.os,h3.tape,h3.output,h3.size,fun k hk hn=>h3.block k hk (fun e=>by cases e)⟩
 ·have hcells:∀ j u,((pre ++ l).map (Value.int .i64))[j]?=some u→w.cell? ⟨g,j,none⟩=some u:=fun j u hj=>by
   have:=World.ownsRow.cells (g:=g) (show w.ownsRow B intE.e intE.size _ _ _ from ho) rfl j u (by rw[hfl];exact hj);rw[addr_add _ rfl] at this
   simpa using this
  by_cases hroom:l.length+1≤cap
  ·have hlen:(pre ++ l).length=pre.length+l.length:=List.length_append
   obtain⟨ho1,ho2⟩:=ho
   rcases ho2 with⟨hv,_⟩ | ⟨g',cap',cur,hv,hbg,hg,hnc,hcm,hcs,htake⟩
   ·cases hv
   injection hv with e1 e2 e3
   injection e1 with e1
   injection e1 with e1
   subst e1 e3;have hcs:cur.size=(pre.length+cap) * 1:=hcs;have hin:∀ j,j<1→(w.cell? ⟨g,(pre ++ l).length * i0.size+j,none⟩).isSome=true∧w.frozen? ⟨g,(pre ++ l).length * i0.size+j,none⟩=false:=fun j hj=>by
    refine⟨?_,(row_cell hg _).2⟩;rw[(row_cell hg _).1,Array.getElem?_eq_getElem (by rw[hz1];omega)]
    rfl
   have hr4:=run_append_room_cells (P:=Tryz.prog) w 34 ty 3 i0 Tryz.underlying34 hi g pre.length l.length cap ⟨b,0,none⟩ 1 c [.int .i64 x] (by rw[hz1];rfl) hne h1c (by omega) (fun j hj=>by rw[show pre.length+l.length * i0.size=(pre ++ l).length * i0.size from by rw[hz1];omega];exact(hin j hj).1) (fun j hj=>by rw[show pre.length+l.length * i0.size=(pre ++ l).length * i0.size from by rw[hz1];omega];exact(hin j hj).2);rw[show pre.length+l.length * i0.size=(pre ++ l).length from by rw[hz1];omega] at hr4;have hsc:w.setCells g (pre ++ l).length [.int .i64 x]=w.setCell ⟨g,(pre ++ l).length,none⟩ (.int .i64 x):=rfl;rw[hsc] at hr4;have hgrow:w.grownBy (w.setCell ⟨g,(pre ++ l).length,none⟩ (.int .i64 x)) (Value.slice (some ⟨g,pre.length,none⟩) l.length cap).ownBlock:=⟨rfl,rfl,rfl,by simp[World.setCell],fun k hk hn=>Below.heap_setCell _ _ _ _ (fun e=>hn (by rw[e];rfl))⟩;refine⟨_,_,hr4,.inr ⟨g,pre,cap,by simp,by simpa using hroom,?_⟩,hgrow,fun k hk=>.inl (by simpa[Value.ownBlock] using hk)⟩;have hl3:(pre ++ l ++ [x]).length=(pre ++ l).length+1:=by rw[List.length_append];rfl
   rw[show pre ++ (l ++ [x])=pre ++ l ++ [x] from by simp];refine⟨by rw[intE.len],.inr ⟨g,pre.length+cap,cur.setIfInBounds (pre ++ l).length (.int .i64 x),rfl,hbg,?_,by omega,hcm,by rw[Array.size_setIfInBounds];exact hcs,?_⟩⟩
   ·simp only[World.setCell,Array.getElem?_modify,if_pos rfl,hg,Option.map]
    rfl
   ·rw[hfl,List.map_append,← hfl,hl3]
    have hsz:intE.size=1:=rfl;rw[hsz,Nat.mul_one] at htake ⊢;rw[Array.toList_setIfInBounds];have hlt:(pre ++ l).length<cur.toList.length:=by simp only[Array.length_toList];omega
    rw[List.take_add_one,List.take_set_of_le (Nat.le_refl _),htake,List.getElem?_set_self hlt]
    rfl
  ·obtain⟨v',w',hr,h2,h3⟩:=run_append_arg_grows (P:=Tryz.prog) w 34 ty 3 i0 intE.zero 1 i0.bytes Tryz.underlying34 hi hz0 hz1 rfl rfl (by decide) ⟨g,pre.length,none⟩ l.length cap (l.map (Value.int .i64)) (by simp) (fun j u hj=>by
    rw[addr_add _ rfl];exact hcells (pre.length+j) u (by
     rw[List.map_append,List.getElem?_append_right (by simp),List.length_map,Nat.add_sub_cancel_left];exact hj)) ⟨b,0,none⟩ 1 c [.int .i64 x] rfl hne (by omega) (by unfold maxLen;omega) hby
   have hg:=grown v' w' h2;exact⟨v',w',hr,hg.1,⟨h3.os,h3.tape,h3.output,h3.size,fun k hk hn=>h3.block k hk (fun e=>by cases e)⟩,fun k hk=>.inr (hg.2 k hk)⟩
theorem wp_que {w:World} {ops:Array Oper} {rest:List Oper} {o:Oper} {a:Act} {Q:Exit→Act→World→Prop} (hgd:o.guard=none) (s x:Operand)
  (ho:o.op=.call { callee:=.builtin .append,args:=#[s,x],argTypes:=#[34,34] })
  (B:Nat) (l:List Int) (v:Value) (hs:a.eval s=v) (hq:Que w B v l) (z:Int) (b c:Nat) (hx:a.eval x=.slice (some ⟨b,0,none⟩) 1 c)
  (hc:w.cell? ⟨b,0,none⟩=some (.int .i64 z)) (hl:l.length≤1000000) (hB:B≤w.heap.size)
  (h:∀ v' w',Que w' B v' (l ++ [z])→w.grownBy w' v.ownBlock→Fresh w v v'→wpList Tryz.prog ops Q rest (a.put o.dst v') w'):wpList Tryz.prog ops Q (o :: rest) a w:=by
 refine wpList_plain hgd fun K' hK'=>?_
 obtain⟨v',w',hr,h2,h3,h4⟩:=hq.append hB o.type z b c hc hl;unfold Oper.wp
 simp[execOp,ho,resolve,invoke,builtin,hs,hx,hr,Result.andThen]
 exact hK' _ _ (h v' w' h2 h3 h4)
structure WalkV (w:World) (B wb b n:Nat) (V:Nat→Prop) (c0 c1 c2:Value) (fn:Int) (C:Pl→Option (List Int)) (tv:Value) (l:List Int):Prop where
 row:w.heap[wb]?=some (.cells #[c0,c1,c2,.int .i64 fn,.map (some b),tv] 135)
 map:FlMap w b n V C
 que:Que w B tv l
 vlo:∀ k,V k→B≤k∧k<w.heap.size∧k≠wb∧k≠b∧tv.ownBlock≠some k
 bs:B≤wb∧B≤b∧wb≠b∧tv.ownBlock≠some wb∧tv.ownBlock≠some b
def WF (wb b:Nat) (tv:Value):Nat→Prop:=fun k=>k=wb∨k=b∨tv.ownBlock=some k
def nowK (o:Option (List Int)) (K:List Int):List Int:=match o with | none=>K | some was=>joinL was K
def chgB (o:Option (List Int)) (K:List Int):Bool:=match o with | none=>true | some was=>!decide (was=joinL was K)
theorem WalkV.cells {w:World} {B wb b n:Nat} {V:Nat→Prop} {c0 c1 c2:Value} {fn:Int} {C:Pl→Option (List Int)} {tv:Value} {l:List Int} (h:WalkV w B wb b n V c0 c1 c2 fn C tv l) {w':World} (hf:w'.heap[wb]?=w.heap[wb]?) :
  w'.cell? ⟨wb,0,none⟩=some c0∧w'.cell? ⟨wb,1,none⟩=some c1∧w'.cell? ⟨wb,2,none⟩=some c2∧w'.cell? ⟨wb,3,none⟩=some (.int .i64 fn)∧w'.cell? ⟨wb,4,none⟩=some (.map (some b))∧w'.cell? ⟨wb,5,none⟩=some tv∧w'.frozen? ⟨wb,5,none⟩=false:=by
 have hr:=h.row;rw[← hf] at hr;exact⟨(row_cell hr 0).1,(row_cell hr 1).1,(row_cell hr 2).1,(row_cell hr 3).1,(row_cell hr 4).1,(row_cell hr 5).1,(row_cell hr 5).2⟩
theorem WalkV.fr {F:Nat→Prop} {w w':World} {B wb b n:Nat} {V:Nat→Prop} {c0 c1 c2:Value} {fn:Int} {C:Pl→Option (List Int)} {tv:Value} {l:List Int} (h:WalkV w B wb b n V c0 c1 c2 fn C tv l) (hf:Fr F w w') (h1:¬ F wb) (h2:¬ F b) (h3:∀ k,V k→¬ F k) (h4:∀ k,tv.ownBlock=some k→¬ F k):WalkV w' B wb b n V c0 c1 c2 fn C tv l :=
 ⟨hf.heap h.row h1,h.map.fr hf h2 h3,h.que.fr hf h4,fun k hk=>by obtain⟨a1,a2,a3⟩:=h.vlo k hk;have:=hf.size;exact⟨a1,by omega,a3⟩,h.bs⟩
theorem WalkV.below {w w':World} {B wb b n:Nat} {V:Nat→Prop} {c0 c1 c2:Value} {fn:Int} {C:Pl→Option (List Int)} {tv:Value} {l:List Int} (h:WalkV w B wb b n V c0 c1 c2 fn C tv l) (hb:Below w.heap.size w w'):WalkV w' B wb b n V c0 c1 c2 fn C tv l :=
 h.fr (Fr.of_below hb (fun _=>False)) (fun h=>h) (fun h=>h) (fun _ _ h=>h) (fun _ _ h=>h)
theorem come_fin {w w2 w3 w4:World} {B wb b n n':Nat} {V:Nat→Prop} {c0 c1 c2:Value} {fn:Int} {C C':Pl→Option (List Int)} {tv tv' v:Value} {l N:List Int} {x:Int} {ob:Obj} (h:WalkV w B wb b n V c0 c1 c2 fn C tv l) (hB:B≤w.heap.size)
  (hb2:Below w.heap.size w w2) (ho:Own intE w2 w.heap.size v N) (hm:FlMap w3 b n' (fun k=>V k∨v.ownBlock=some k) C') (ht:w2.mapTurned w3 b) (hg:(w3.alloc ob).grownBy w4 tv.ownBlock) (hq:Que w4 B tv' (l ++ [x])) (hfr:Fresh (w3.alloc ob) tv tv') :
  WalkV (w4.setCell ⟨wb,5,none⟩ tv') B wb b n' (fun k=>V k∨v.ownBlock=some k) c0 c1 c2 fn C' tv' (l ++ [x])∧Fr (WF wb b tv) w (w4.setCell ⟨wb,5,none⟩ tv')∧(∀ k,tv'.ownBlock=some k→tv.ownBlock=some k∨w.heap.size≤k):=by
 obtain⟨b1,b2,b3,b4,b5⟩:=h.bs;have hwb:=heap_lt h.row;have hbl:=h.map.lt;have f23:=turned_fr ht;have f3a:=(Fr.refl (fun _=>False) w3).alloc ob;have s2:=hb2.size;have s3:=f23.size;have sa:(w3.alloc ob).heap.size=w3.heap.size+1:=by simp
 have s4:=hg.size;have f34:Fr (fun k=>tv.ownBlock=some k) w3 w4:=((Fr.refl (fun k=>tv.ownBlock=some k) w3).alloc ob).grown hg (fun k hk _=>hk);have f45:Fr (fun k=>k=wb) w4 (w4.setCell ⟨wb,5,none⟩ tv'):=(Fr.refl (fun k=>k=wb) w4).setCell (p:=⟨wb,5,none⟩) (fun _=>rfl) tv';have f24:Fr (WF wb b tv) w2 w4:=(f23.mono (G:=WF wb b tv) (fun k hk=>.inr (.inl hk))).trans f34 (fun k _ hk=>.inr (.inr hk));have f25:Fr (WF wb b tv) w2 (w4.setCell ⟨wb,5,none⟩ tv'):=f24.trans f45 (fun k _ hk=>.inl hk);have r2:=(Fr.of_below hb2 (fun _=>False)).heap h.row (fun h=>h);have r3:=f23.heap r2 (fun e=>b3 e);have r4:=f34.heap r3 b4;have r5:=row_set r4 5 tv';have hvb:∀ k,v.ownBlock=some k→w.heap.size≤k∧k<w2.heap.size:=fun k hk=>ho.lt hk
 have htl:∀ k,tv.ownBlock=some k→B≤k∧k<w.heap.size:=fun k hk=>h.que.lt hk
 have htn:∀ k,tv'.ownBlock=some k→tv.ownBlock=some k∨w3.heap.size+1≤k:=fun k hk=>(hfr k hk).elim .inl (fun e=>.inr (by omega))
 have hVk:∀ k,(V k∨v.ownBlock=some k)→B≤k∧k<w2.heap.size∧k≠wb∧k≠b∧tv.ownBlock≠some k:=fun k hk=>by
  rcases hk with hk | hk
  ·obtain⟨a1,a2,a3,a4,a5⟩:=h.vlo k hk
   exact⟨a1,by omega,a3,a4,a5⟩
  ·have:=hvb k hk
   exact⟨by omega,this.2,by omega,by omega,fun e=>by have:=htl k e;omega⟩
 refine⟨⟨r5,?_,hq.fr f45 (fun k hk e=>by subst e;exact(htn k hk).elim b4 (fun e=>by omega)),fun k hk=>?_,b1,b2,b3,fun e=>(htn _ e).elim b4 (fun e=>by omega),fun e=>(htn _ e).elim b5 (fun e=>by omega)⟩,?_,fun k hk=>(htn k hk).elim .inl (fun e=>.inr (by omega))⟩
 ·exact(hm.fr f34 b5 (fun k hk=>(hVk k hk).2.2.2.2)).fr f45 (fun e=>b3 e.symm) (fun k hk e=>(hVk k hk).2.2.1 e)
 ·obtain⟨a1,a2,a3,a4,a5⟩:=hVk k hk
  have:=f45.size;have:=f34.size;exact⟨a1,by omega,a3,a4,fun e=>(htn k e).elim a5 (fun e=>by omega)⟩
 ·exact(Fr.of_below hb2 (WF wb b tv)).trans f25 (fun _ _ h=>h)
def ComePost (w:World) (B wb b n:Nat) (V:Nat→Prop) (c0 c1 c2:Value) (fn:Int) (C:Pl→Option (List Int)) (tv:Value) (l:List Int) (at':Pl) (K:List Int) (e:Ending) (w':World):Prop :=
 e=.returned (.tuple #[])∧∃ V' tv',WalkV w' B wb b (if (C at').isSome then n else n+1) V' c0 c1 c2 fn (upd C at' (some (nowK (C at') K))) tv' (if chgB (C at') K then l ++ [at'.1.2] else l)∧Fr (WF wb b tv) w w'∧(∀ k,tv'.ownBlock=some k→tv.ownBlock=some k∨w.heap.size≤k)
theorem come_any (w:World) (B wb b n:Nat) (V:Nat→Prop) (c0 c1 c2:Value) (fn:Int) (C:Pl→Option (List Int)) (tv:Value) (l:List Int) (h:WalkV w B wb b n V c0 c1 c2 fn C tv l) (hB:B≤w.heap.size) (pc:Int) (hpl:i64B fn∧i64B pc) (D:Nat→Prop) (ka:Option Addr) (K:List Int) (kc:Nat) (hk:IntSl w D ka K) (hKl:K.length≤100000) (hCl:∀ x K',C x=some K'→K'.length≤100000) (hn:n<maxLen) (hl:l.length≤1000000) :
  Calls Tryz.prog 105 #[.pointer (some ⟨wb,0,none⟩),.int .i64 pc,.slice ka K.length kc] w (ComePost w B wb b n V c0 c1 c2 fn C tv l ⟨(fn,pc),hpl⟩ K):=by
 obtain⟨at',hat⟩:∃ at':Pl,at'=⟨(fn,pc),hpl⟩:=⟨_,rfl⟩;have hplA:plA at'=.agg #[.int .i64 fn,.int .i64 pc]:=by rw[hat];rfl
 have hpc:at'.1.2=pc:=by rw[hat]
 rw[← hat];clear hat;have hb1:=(Below.refl w.heap.size w).alloc (Nat.le_refl _) (.cells #[.int .i64 fn,.int .i64 pc] 81);have hly:=heap_new w (.cells #[.int .i64 fn,.int .i64 pc] 81);obtain⟨j0,j1,j2,j3,j4,j5,j6⟩:=h.cells rfl;obtain⟨y,hy⟩:∃ y,y=w.heap.size:=⟨_,rfl⟩;obtain⟨w1,hw1⟩:∃ w1,w1=w.alloc (.cells #[.int .i64 fn,.int .i64 pc] 81):=⟨_,rfl⟩;rw[← hw1] at hb1 hly;rw[← hy] at hly;have hsz1:w.heap.size≤w1.heap.size:=hb1.size;obtain⟨⟨y0,y1⟩,_⟩:(w1.cell? ⟨y,0,none⟩=some (.int .i64 fn)∧w1.cell? ⟨y,1,none⟩=some (.int .i64 pc))∧True:=⟨⟨(row_cell hly 0).1,(row_cell hly 1).1⟩,trivial⟩;have h1:=h.below hb1;have hk1:=hk.fr (Fr.of_below hb1 (fun _=>False)) (fun _ _ h=>h);have HH:=k_ h;have HHB:=k_ hB;have HN:=k_ hn;have HL:=k_ hl;have HPC:=k_ hpc;have HPLA:=k_ hplA;have HW1:=k_ hw1;have HYY:=k_ hy;obtain⟨k0,k1,k2,k3,k4,k5,k6⟩:=h1.cells rfl
 cases ho:C at' with
 | none =>
   have hlkd:(Instr.lookup 132 (.map (some b)) (.agg #[.int .i64 fn,.int .i64 pc]) true).run Tryz.prog w1.drew=.ok (.tuple #[.slice none 0 0,.bool false]) w1.drew:=by
    have:=((h1.below ((Below.refl w1.heap.size w1).drew)).map.none_run at' ho).1;rw[hplA] at this;exact this
   obtain⟨o,hoo⟩:∃ o:Option (List Int),o=none:=⟨_,rfl⟩;obtain⟨NW,hNN⟩:∃ NW:List Int,NW=K:=⟨_,rfl⟩;have hOC:C at'=o:=by rw[ho,hoo]
   have hNW:nowK o K=NW:=by rw[hoo,hNN];rfl
   have hCG:chgB o K=true:=by rw[hoo];rfl
   clear hoo ho h1 hly hplA hw1 hy hpc;have hcl:Calls Tryz.prog 47 #[.slice ka K.length kc] w1.drew.drew fun e w'=>∃ v,e=.returned v∧Own intE w' w1.drew.drew.heap.size v NW∧Below w1.drew.drew.heap.size w1.drew.drew w':=by
    rw[hNN];exact cloneInts_any w1.drew.drew _ ka K kc (show IntSl w1.drew.drew D ka K from hk1) (by omega)
   have HBX:=k_ (show Below w.heap.size w w1.drew from hb1.drew);have HY0:=k_ (show w1.drew.drew.cell? ⟨y,0,none⟩=some (.int .i64 fn) from y0);have HY1:=k_ (show w1.drew.drew.cell? ⟨y,1,none⟩=some (.int .i64 pc) from y1);have HNN:=k_ hNN;clear h hB hn hl hk hk1 hCl hNN hb1 hsz1;have HCL:=k_ hcl;clear hcl;have HOC:=k_ hOC;clear hOC;have HNW:=k_ hNW;clear hNW;have HCG:=k_ hCG;clear hCG
   go_enter Tryz.func105,Tryz.ntmps105
   go_upto_region 1 with fail
   rw[← HYY.out,← HW1.out];clear j0 j1 j2 j3 j4 j5 j6
   go_cut [7,8] (fun s7 s8 wx=>s7=.slice none 0 0∧s8=.bool false∧wx=w1.drew)
   case first =>
    go_region_law (fail)
    all_goals
     go_wp2_with fail
     go_meet
     exact⟨rfl,rfl,rfl⟩
   case rest =>
    obtain⟨rfl,rfl,rfl⟩:=hcut;clear hlkd;replace k0:w1.drew.cell? _=_:=k0;replace k1:w1.drew.cell? _=_:=k1;replace k2:w1.drew.cell? _=_:=k2;replace k3:w1.drew.cell? _=_:=k3;replace k4:w1.drew.cell? _=_:=k4;replace k5:w1.drew.cell? _=_:=k5;replace y0:w1.drew.cell? _=_:=y0;replace y1:w1.drew.cell? _=_:=y1;obtain⟨wD,hwD⟩:∃ wD,wD=w1.drew:=⟨_,rfl⟩;rw[← hwD] at k0 k1 k2 k3 k4 k5 y0 y1 HCL HBX HY0 HY1 ⊢;clear hwD HW1
    go_upto_region 6 with fail
    go_cut [] (fun wx=>∃ v w2,Below w.heap.size w w2∧Own intE w2 w.heap.size v NW∧FlMap wx b (if o.isSome=true then n else n+1) (fun k=>V k∨v.ownBlock=some k) (upd C at' (some NW))∧w2.mapTurned wx b)
    case first =>
     go_region_law (first
      | (go_simp
         go_at_call 47
         refine HCL.out.mono ?_;rintro e w2 ⟨v,rfl,ho2,hb2⟩;obtain⟨va,vc,rfl,hvs⟩:=own_int ho2;have hbx2:=hb2;have hb2:=HBX.out.drew.trans (hb2.mono HBX.out.size);have hk2:w2.cell? ⟨wb,4,none⟩=some (.map (some b)):=below_cell hb2 (HH.out.cells rfl).2.2.2.2.1;have hk3:w2.cell? ⟨y,0,none⟩=some (.int .i64 fn):=below_cell hbx2 HY0.out;have hk4:w2.cell? ⟨y,1,none⟩=some (.int .i64 pc):=below_cell hbx2 HY1.out;have ho2:=ho2.base (B':=w.heap.size) (fun k hk=>Nat.le_trans HBX.out.size (ho2.lt hk).1);have HO2:=k_ ho2;have HB2:=k_ hb2;have HM2:=k_ ((HH.out.below hb2).map.wide (V':=fun k=>V k∨(Value.slice va NW.length vc).ownBlock=some k) (fun k hk=>.inl hk));have HVS:=k_ (hvs.wide (D':=fun k=>V k∨(Value.slice va NW.length vc).ownBlock=some k) (fun k hk=>.inr hk));have HVB:=k_ (show ∀ k,(V k∨(Value.slice va NW.length vc).ownBlock=some k)→k≠b from fun k hk=>hk.elim (fun h=>(HH.out.vlo k h).2.2.2.1) (fun h=>by have:=(HO2.out.lt h).1;have:=HH.out.map.lt;omega));obtain⟨w3,hrun,hm3,ht3⟩:=HM2.out.put HN.out at' va NW vc HVS.out HVB.out;rw[HPLA.out] at hrun;clear ho2 hb2 hvs hbx2))
     all_goals
      clear hrun;have hoo:(if (C at').isSome then n else n+1)=if o.isSome=true then n else n+1:=by rw[HOC.out]
      rw[hoo] at hm3;have HM3:=k_ hm3;have HT3:=k_ ht3;clear hm3 ht3 hoo;go_wp2_with fail
      go_meet
      exact⟨_,_,HB2.out,HO2.out,HM3.out,HT3.out⟩
    case rest =>
     obtain⟨v,w2,hb2,ho2,hm3,ht3⟩:=hcut;have r3:=(turned_fr ht3).heap ((Fr.of_below hb2 (fun _=>False)).heap HH.out.row (fun h=>h)) (fun e=>HH.out.bs.2.2.1 e);obtain⟨k0,k1,k2,k3,k4,k5,k6⟩:=HH.out.cells (r3.trans HH.out.row.symm);have q3:Que wc B tv l:=(HH.out.que.fr (Fr.of_below hb2 (fun _=>False)) (fun _ _ h=>h)).fr (turned_fr ht3) (fun k hk e=>HH.out.bs.2.2.2.2 (by rw[← e];exact hk));have hsz:B≤wc.heap.size:=by have:=hb2.size;have:=(turned_fr ht3).size;have:=HHB.out;omega
     have q4:=q3.fr ((Fr.refl (fun _=>False) wc).alloc (.cells #[.int .i64 pc] 3)) (fun _ _ h=>h);have hwl:=heap_lt r3;have HB2:=k_ hb2;clear hb2;have HO2:=k_ ho2;clear ho2;have HM3:=k_ hm3;clear hm3;have HT3:=k_ ht3;clear ht3;have Q3:=k_ q3;clear q3;have Q4:=k_ q4;clear q4;have HSZ:=k_ hsz;clear hsz
     go_wp2_with (at_builtin;refine wp_que rfl (.tmp 49) (.tmp 51) rfl B l tv rfl Q4.out pc wc.heap.size 1 rfl (cell_new _ _ _ _ 0) HL.out ?c1 ?_)
     case c1=>have:=HSZ.out;simp;omega
     intro v5 w5 hq5 hg5 hf5;obtain⟨f1,f2,f3⟩:=come_fin HH.out HHB.out HB2.out HO2.out HM3.out HT3.out hg5 hq5 hf5;have r5:=((Fr.refl (fun k=>tv.ownBlock=some k) wc).alloc (.cells #[.int .i64 pc] 3)).grown hg5 (fun k hk _=>hk) |>.heap r3 HH.out.bs.2.2.2.1
     have k7:w5.cell? ⟨wb,5,none⟩=some tv:=(row_cell r5 5).1;have k8:w5.frozen? ⟨wb,5,none⟩=false:=(row_cell r5 5).2;obtain⟨va5,vc5,hv5⟩:=hq5.slice;obtain⟨ln,hln⟩:∃ ln,ln=(l ++ [pc]).length:=⟨_,rfl⟩;rw[← hln] at hv5;clear hln;subst hv5;clear k0 k1 k2 k3 k4 k5 k6 hq5 hg5 hf5 r3 r5 hwl;have F1:=k_ f1;clear f1;have F2:=k_ f2;clear f2;have F3:=k_ f3;clear f3;go_wp2_with fail
     go_end0
     exact⟨rfl,_,_,by rw[HOC.out,HNW.out,HCG.out,if_pos rfl,HPC.out];exact F1.out,F2.out,F3.out⟩
 | some was =>
   obtain⟨wa,wc',hws,hlk,_⟩:=(h1.below ((Below.refl w1.heap.size w1).drew)).map.some_run at' was ho;rw[hplA] at hlk;obtain⟨J,hJ⟩:∃ J,J=joinL was K:=⟨_,rfl⟩;have hwl:=hCl _ _ ho;have hJl:J.length≤100000:=by rw[hJ,joinL_len];omega
   have hjo:=join_any w1.drew _ _ wa ka was K wc' kc hws (show IntSl w1.drew D ka K from hk1) hwl hKl;rw[← hJ] at hjo;obtain⟨o,hoo⟩:∃ o:Option (List Int),o=some was:=⟨_,rfl⟩;have hOC:C at'=o:=by rw[ho,hoo]
   have hNW:nowK o K=J:=by rw[hoo,hJ];rfl
   have hCG:chgB o K=!decide (was=J):=by rw[hoo,hJ];rfl
   have hos:o.isSome=true:=by rw[hoo];rfl
   have HSAME:=k_ (show was=J→upd C at' (some J)=C from fun e=>by
    funext x
    unfold upd
    by_cases hx:x=at'
    ·rw[if_pos hx,hx,ho,e]
    ·rw[if_neg hx])
   clear hoo ho h1 hly hplA hw1 hy hpc hJ;have HBX:=k_ (show Below w.heap.size w w1.drew from hb1.drew);have HY0:=k_ (show w1.drew.cell? ⟨y,0,none⟩=some (.int .i64 fn) from y0);have HY1:=k_ (show w1.drew.cell? ⟨y,1,none⟩=some (.int .i64 pc) from y1);have HWS:=k_ hws;have HKL:=k_ hKl;have HJL:=k_ hJl;have HWL:=k_ hwl;have hlk':(Instr.lookup 132 (.map (some b)) (.agg #[.int .i64 fn,.int .i64 pc]) true).run Tryz.prog w1.drew=.ok (.tuple #[.slice wa was.length wc',.bool true]) w1.drew:=hlk;clear h hB hn hl hk hk1 hCl hb1 hsz1 hws hlk hJl hwl;have HJO:=k_ hjo;clear hjo;have HOC:=k_ hOC;clear hOC;have HNW:=k_ hNW;clear hNW;have HCG:=k_ hCG;clear hCG;have HOS:=k_ hos;clear hos
   go_enter Tryz.func105,Tryz.ntmps105
   go_upto_region 1 with fail
   rw[← HYY.out,← HW1.out];clear j0 j1 j2 j3 j4 j5 j6
   go_cut [7,8] (fun s7 s8 wx=>s7=.slice wa was.length wc'∧s8=.bool true∧wx=w1.drew)
   case first =>
    go_region_law (fail)
    all_goals
     go_wp2_with fail
     go_meet
     exact⟨rfl,rfl,rfl⟩
   case rest =>
    obtain⟨rfl,rfl,rfl⟩:=hcut;clear hlk' k0 k1 k2 k3 k4 k5 k6 y0 y1 hKl;obtain⟨wD,hwD⟩:∃ wD,wD=w1.drew:=⟨_,rfl⟩;rw[← hwD] at HBX HY0 HY1 HJO HWS ⊢;clear hwD HW1;go_wp2_with fail;refine HJO.out.mono ?_;rintro e w2 ⟨v,rfl,ho2,hb2⟩;obtain⟨ja,jc,rfl,hjs⟩:=own_int ho2;have eq:=eq_ints w2 _ _ wa ja was J wc' jc (HWS.out.fr (Fr.of_below hb2 (fun _=>False)) (fun _ _ h=>h)) hjs (by have:=HWL.out;omega) (by have:=HJL.out;omega);have hb3:=HBX.out.trans (hb2.mono HBX.out.size);have y0:=below_cell hb2 HY0.out;have y1:=below_cell hb2 HY1.out;have HO2:=k_ ho2;have HJS:=k_ hjs;clear ho2 hjs hb2 HJO HWS
    by_cases hE:was=J
    ·rw[show decide (was=J)=true from by simp[hE]] at eq
     have hu:=HSAME.out hE;have hcg:chgB o K=false:=by rw[HCG.out];simp[hE]
     clear hE HSAME;have EQ:=k_ eq;clear eq;have HU:=k_ hu;clear hu;have HCG:=k_ hcg;clear hcg;have HB3:=k_ hb3;clear hb3;go_wp2_with fail;refine EQ.out.mono ?_;rintro e w3 ⟨rfl,m3,rfl⟩;have hh:=HH.out.below (below_drewN HB3.out m3);have hf:=Fr.of_below (below_drewN HB3.out m3) (WF wb b tv);have HH2:=k_ hh;have HF:=k_ hf;clear hh hf;go_wp2_with fail
     go_end0
     exact⟨rfl,V,tv,by rw[HOC.out,HNW.out,HCG.out,HU.out,HOS.out,if_pos rfl,if_neg (by decide)];exact HH2.out,HF.out,fun k hk=>.inl hk⟩
    ·rw[show decide (was=J)=false from by simp[hE]] at eq
     have hcg:chgB o K=true:=by rw[HCG.out];simp[hE]
     clear hE HSAME;have HEQ:=k_ eq;have HB3:=k_ hb3;clear eq HCG hb3;have HCG:=k_ hcg;clear hcg;go_wp2_with fail;refine HEQ.out.mono ?_;rintro e w3 ⟨rfl,m3,rfl⟩;obtain⟨NW,hNN⟩:∃ NW:List Int,NW=J:=⟨_,rfl⟩;have hcl:Calls Tryz.prog 47 #[.slice ja J.length jc] (w2.drewN m3).drew fun e w'=>∃ v,e=.returned v∧Own intE w' (w2.drewN m3).drew.heap.size v NW∧Below (w2.drewN m3).drew.heap.size (w2.drewN m3).drew w':=by
      rw[hNN];exact cloneInts_any (w2.drewN m3).drew _ ja J jc (show IntSl (w2.drewN m3).drew _ ja J from HJS.out) (by have:=HJL.out;omega)
     have hnw:nowK o K=NW:=by rw[HNW.out,hNN]
     have HBX:=k_ (below_drewN HB3.out m3);have hcell:=fun a v (h:w2.cell? a=some v)=>(show (w2.drewN m3).cell? a=some v from h)
     obtain⟨k0,k1,k2,k3,k4,k5,k6⟩:=(HH.out.below HB3.out).cells rfl;replace k0:=hcell _ _ k0;replace k1:=hcell _ _ k1;replace k2:=hcell _ _ k2;replace k3:=hcell _ _ k3;replace k4:=hcell _ _ k4;replace k5:=hcell _ _ k5;replace y0:=hcell _ _ y0;replace y1:=hcell _ _ y1;have HY0:=k_ (show (w2.drewN m3).drew.cell? ⟨y,0,none⟩=some (.int .i64 fn) from y0);have HY1:=k_ (show (w2.drewN m3).drew.cell? ⟨y,1,none⟩=some (.int .i64 pc) from y1);clear k6 HNW hNN hcell;have HCL:=k_ hcl;clear hcl;have HNW:=k_ hnw;clear hnw;obtain⟨wE,hwE⟩:∃ wE,wE=w2.drewN m3:=⟨_,rfl⟩;rw[← hwE] at k0 k1 k2 k3 k4 k5 y0 y1 HCL HBX HY0 HY1 ⊢;clear hwE HB3 HEQ
     go_upto_region 6 with fail
     go_cut [] (fun wx=>∃ v w2,Below w.heap.size w w2∧Own intE w2 w.heap.size v NW∧FlMap wx b (if o.isSome=true then n else n+1) (fun k=>V k∨v.ownBlock=some k) (upd C at' (some NW))∧w2.mapTurned wx b)
     case first =>
      go_region_law (first
       | (go_simp
          go_at_call 47
          refine HCL.out.mono ?_;rintro e w2 ⟨v,rfl,ho2,hb2⟩;obtain⟨va,vc,rfl,hvs⟩:=own_int ho2;have hbx2:=hb2;have hb2:=HBX.out.drew.trans (hb2.mono HBX.out.size);have hk2:w2.cell? ⟨wb,4,none⟩=some (.map (some b)):=below_cell hb2 (HH.out.cells rfl).2.2.2.2.1;have hk3:w2.cell? ⟨y,0,none⟩=some (.int .i64 fn):=below_cell hbx2 HY0.out;have hk4:w2.cell? ⟨y,1,none⟩=some (.int .i64 pc):=below_cell hbx2 HY1.out;have ho2:=ho2.base (B':=w.heap.size) (fun k hk=>Nat.le_trans HBX.out.size (ho2.lt hk).1);have HO2:=k_ ho2;have HB2:=k_ hb2;have HM2:=k_ ((HH.out.below hb2).map.wide (V':=fun k=>V k∨(Value.slice va NW.length vc).ownBlock=some k) (fun k hk=>.inl hk));have HVS:=k_ (hvs.wide (D':=fun k=>V k∨(Value.slice va NW.length vc).ownBlock=some k) (fun k hk=>.inr hk));have HVB:=k_ (show ∀ k,(V k∨(Value.slice va NW.length vc).ownBlock=some k)→k≠b from fun k hk=>hk.elim (fun h=>(HH.out.vlo k h).2.2.2.1) (fun h=>by have:=(HO2.out.lt h).1;have:=HH.out.map.lt;omega));obtain⟨w3,hrun,hm3,ht3⟩:=HM2.out.put HN.out at' va NW vc HVS.out HVB.out;rw[HPLA.out] at hrun;clear ho2 hb2 hvs hbx2))
      all_goals
       clear hrun;have hoo:(if (C at').isSome then n else n+1)=if o.isSome=true then n else n+1:=by rw[HOC.out]
       rw[hoo] at hm3;have HM3:=k_ hm3;have HT3:=k_ ht3;clear hm3 ht3 hoo;go_wp2_with fail
       go_meet
       exact⟨_,_,HB2.out,HO2.out,HM3.out,HT3.out⟩
     case rest =>
      obtain⟨v,w2,hb2,ho2,hm3,ht3⟩:=hcut;have r3:=(turned_fr ht3).heap ((Fr.of_below hb2 (fun _=>False)).heap HH.out.row (fun h=>h)) (fun e=>HH.out.bs.2.2.1 e);obtain⟨k0,k1,k2,k3,k4,k5,k6⟩:=HH.out.cells (r3.trans HH.out.row.symm);have q3:Que wc B tv l:=(HH.out.que.fr (Fr.of_below hb2 (fun _=>False)) (fun _ _ h=>h)).fr (turned_fr ht3) (fun k hk e=>HH.out.bs.2.2.2.2 (by rw[← e];exact hk));have hsz:B≤wc.heap.size:=by have:=hb2.size;have:=(turned_fr ht3).size;have:=HHB.out;omega
      have q4:=q3.fr ((Fr.refl (fun _=>False) wc).alloc (.cells #[.int .i64 pc] 3)) (fun _ _ h=>h);have hwl:=heap_lt r3;have HB2:=k_ hb2;clear hb2;have HO2:=k_ ho2;clear ho2;have HM3:=k_ hm3;clear hm3;have HT3:=k_ ht3;clear ht3;have Q3:=k_ q3;clear q3;have Q4:=k_ q4;clear q4;have HSZ:=k_ hsz;clear hsz
      go_wp2_with (at_builtin;refine wp_que rfl (.tmp 49) (.tmp 51) rfl B l tv rfl Q4.out pc wc.heap.size 1 rfl (cell_new _ _ _ _ 0) HL.out ?c1 ?_)
      case c1=>have:=HSZ.out;simp;omega
      intro v5 w5 hq5 hg5 hf5;obtain⟨f1,f2,f3⟩:=come_fin HH.out HHB.out HB2.out HO2.out HM3.out HT3.out hg5 hq5 hf5;have r5:=((Fr.refl (fun k=>tv.ownBlock=some k) wc).alloc (.cells #[.int .i64 pc] 3)).grown hg5 (fun k hk _=>hk) |>.heap r3 HH.out.bs.2.2.2.1
      have k7:w5.cell? ⟨wb,5,none⟩=some tv:=(row_cell r5 5).1;have k8:w5.frozen? ⟨wb,5,none⟩=false:=(row_cell r5 5).2;obtain⟨va5,vc5,hv5⟩:=hq5.slice;obtain⟨ln,hln⟩:∃ ln,ln=(l ++ [pc]).length:=⟨_,rfl⟩;rw[← hln] at hv5;clear hln;subst hv5;clear k0 k1 k2 k3 k4 k5 k6 hq5 hg5 hf5 r3 r5 hwl;have F1:=k_ f1;clear f1;have F2:=k_ f2;clear f2;have F3:=k_ f3;clear f3;go_wp2_with fail
      go_end0
      exact⟨rfl,_,_,by rw[HOC.out,HNW.out,HCG.out,if_pos rfl,HPC.out];exact F1.out,F2.out,F3.out⟩
end Go.Proofs.YtbkkhmafheimfaaGreatDoor
