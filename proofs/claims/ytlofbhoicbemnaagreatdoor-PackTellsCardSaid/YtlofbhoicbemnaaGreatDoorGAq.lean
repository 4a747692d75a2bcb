/- What a task reads of a program: how many arguments, slots, which stack objects; how many fields a shape has. Nothing of the program's .. -/
import Derived.Test.YtlofbhoicbemnaaGreatDoorGAm
import Derived.Lib.SliceRun
import Derived.Laws.MakeOwn
set_option linter.unusedVariables false
set_option linter.unusedSimpArgs false
set_option maxRecDepth 100000
set_option maxHeartbeats 1600000
namespace Go.Proofs.YtlofbhoicbemnaaGreatDoor.Tk
open Go.ChangeShapes Go.WideShapes Go.ChangeAt Go.RowKit
theorem aK {α:Type} (l:List α) (k:Nat) (hk:k<l.length):l.take (k+1)=l.take k ++ [l[k]]:=by
 rw[List.take_add_one,List.getElem?_eq_getElem hk]
 rfl
structure TFun where (nargs:Nat) (slots:Int) (objects:List Int)
structure TPrg where (shapes:List Nat) (funcs:List TFun)
def ShL (w:World) (D:Nat→Prop) (a:Option Addr) (l:List Nat):Prop:=∀ j (hj:j<l.length),∃ b o,a=some ⟨b,o,none⟩∧D b∧∃ a' c',w.cell? ⟨b,o+j,none⟩=some (.slice a' l[j] c')
theorem ShL.fr {F:Nat→Prop} {w w':World} {D:Nat→Prop} {a:Option Addr} {l:List Nat} (h:ShL w D a l) (hf:Fr F w w') (hd:∀ k,D k→¬ F k):ShL w' D a l:=fun j hj=>by
 obtain⟨b,o,h1,h2,a',c',h3⟩:=h j hj;exact⟨b,o,h1,h2,a',c',hf.cell h3 (hd b h2)⟩
def H5 (w:World) (D:Nat→Prop) (f:TFun) (c0 c1 c2 c3 c4:Value):Prop :=
 (∃ a c,c0=.slice a f.nargs c)∧(∃ r,c1=.int .i64 r)∧c2=.int .i64 f.slots∧(∃ a c,c3=.slice a f.objects.length c∧aQ w D a f.objects)∧∃ a n c,c4=.slice a n c
theorem H5.fr {F:Nat→Prop} {w w':World} {D:Nat→Prop} {f:TFun} {c0 c1 c2 c3 c4:Value} (h:H5 w D f c0 c1 c2 c3 c4) (hf:Fr F w w') (hd:∀ k,D k→¬ F k):H5 w' D f c0 c1 c2 c3 c4:=by
 obtain⟨h1,h2,h3,⟨a,c,h4,h5⟩,h6⟩:=h;exact⟨h1,h2,h3,⟨a,c,h4,h5.fr hf hd⟩,h6⟩
def FnL (w:World) (D:Nat→Prop) (a:Option Addr) (l:List TFun):Prop:=∀ j (hj:j<l.length),∃ b o,a=some ⟨b,o,none⟩∧D b∧∃ c0 c1 c2 c3 c4,w.cell? ⟨b,o+j * 5,none⟩=some c0∧w.cell? ⟨b,o+j * 5+1,none⟩=some c1∧w.cell? ⟨b,o+j * 5+2,none⟩=some c2∧w.cell? ⟨b,o+j * 5+3,none⟩=some c3∧w.cell? ⟨b,o+j * 5+4,none⟩=some c4∧H5 w D l[j] c0 c1 c2 c3 c4
theorem FnL.fr {F:Nat→Prop} {w w':World} {D:Nat→Prop} {a:Option Addr} {l:List TFun} (h:FnL w D a l) (hf:Fr F w w') (hd:∀ k,D k→¬ F k):FnL w' D a l:=fun j hj=>by
 obtain⟨b,o,h1,h2,c0,c1,c2,c3,c4,q0,q1,q2,q3,q4,h4⟩:=h j hj;have hn:=hd b h2;exact⟨b,o,h1,h2,c0,c1,c2,c3,c4,hf.cell q0 hn,hf.cell q1 hn,hf.cell q2 hn,hf.cell q3 hn,hf.cell q4 hn,h4.fr hf hd⟩
def PV (w:World) (D:Nat→Prop) (p:TPrg) (c0 c1 c2:Value):Prop :=
 (∃ a n c,c0=.slice a n c)∧(∃ a c,c1=.slice a p.shapes.length c∧ShL w D a p.shapes)∧∃ a c,c2=.slice a p.funcs.length c∧FnL w D a p.funcs
theorem PV.fr {F:Nat→Prop} {w w':World} {D:Nat→Prop} {p:TPrg} {c0 c1 c2:Value} (h:PV w D p c0 c1 c2) (hf:Fr F w w') (hd:∀ k,D k→¬ F k):PV w' D p c0 c1 c2:=by
 obtain⟨h0,⟨a',c',h3,h4⟩,a'',c'',h5,h6⟩:=h;exact⟨h0,⟨a',c',h3,h4.fr hf hd⟩,a'',c'',h5,h6.fr hf hd⟩
theorem PV.below {w w':World} {D:Nat→Prop} {p:TPrg} {c0 c1 c2:Value} (h:PV w D p c0 c1 c2) (hb:Below w.heap.size w w'):PV w' D p c0 c1 c2:=h.fr (fb_ hb) (fun _ _ h=>h)
def eU (p:TPrg) (s:Int):Nat:=if au s p.shapes.length=true then (p.shapes[s.toNat]?).getD 0 else 0
def oP (p:TPrg) (l:List Int):Nat:=(l.map (eU p)).sum
def lV (p:TPrg) (f:TFun):Nat:=2+f.slots.toNat+oP p f.objects
def aT (p:TPrg) (fn:Int):Nat:=if au fn p.funcs.length=true then ((p.funcs[fn.toNat]?).map (lV p)).getD 0 else 0
def eG (p:TPrg):Prop:=p.shapes.length≤3000∧p.funcs.length≤3000∧(∀ s ∈ p.shapes,s≤3000)∧∀ f ∈ p.funcs,f.nargs≤3000∧f.slots≤3000∧f.objects.length≤3000
theorem rM {p:TPrg} (h:eG p) (s:Int):eU p s≤3000:=by
 unfold eU
 split
 ·cases hq:p.shapes[s.toNat]? with
  | none=>simp
  | some n=>exact h.2.2.1 n (List.mem_of_getElem? hq)
 ·simp
theorem xN {p:TPrg} (h:eG p) (l:List Int):oP p l≤3000 * l.length:=by
 unfold oP
 induction l with
 | nil=>simp
 | cons x l ih =>
   have:=rM h x;simp only[List.map_cons,List.sum_cons,List.length_cons]
   omega
theorem AQ (p:TPrg) (l:List Int) (k:Nat) (hk:k<l.length):oP p (l.take (k+1))=oP p (l.take k)+eU p l[k]:=by
 unfold oP;rw[aK l k hk,List.map_append,List.sum_append]
 simp
theorem qd {p:TPrg} (k:Nat) (hk:k<p.funcs.length):aT p k=lV p p.funcs[k]:=by
 have h:au (k:Int) p.funcs.length=true:=by simp[au];omega
 unfold aT;rw[if_pos h]
 simp[hk]
theorem Ba {p:TPrg} {fn:Int} (h:au fn p.funcs.length=false):aT p fn=0:=by unfold aT;rw[h];rfl
theorem BP {p:TPrg} (h:eG p) (f:TFun) (hf:f ∈ p.funcs):lV p f≤10000000:=by
 have h1:=h.2.2.2 f hf;have h2:=xN h f.objects;unfold lV
 omega
theorem uT {p:TPrg} (h:eG p) (fn:Int):aT p fn≤10000000:=by
 unfold aT
 split
 ·cases hq:p.funcs[fn.toNat]? with
  | none=>simp
  | some f=>exact BP h f (List.mem_of_getElem? hq)
 ·simp
def intRow (l:List Int) (t:TypeId):Obj:=.cells (l.map (Value.int .i64)).toArray t
theorem sH {w:World} {q:Nat} {l:List Int} {t:TypeId} (h:w.heap[q]?=some (intRow l t)) (j:Nat) (x:Int):(w.setCell ⟨q,j,none⟩ (.int .i64 x)).heap[q]?=some (intRow (l.set j x) t):=by
 unfold intRow at h ⊢;rw[ag h]
 congr 2
 apply Array.ext'
 simp
theorem yg {q:Nat} {t:TypeId} (n:Nat):∀ (w:World) (o:Nat) (l:List Int),w.heap[q]?=some (intRow l t)→(w.setCells q o (List.replicate n (.int .i64 0))).heap[q]?=some (intRow ((List.range n).foldl (fun s i=>s.set (o+i) 0) l) t):=by
 induction n with
 | zero=>intro w o l h;simpa[World.setCells] using h
 | succ n ih =>
   intro w o l h;have h1:=sH h o 0;have h2:=ih _ (o+1) _ h1;rw[List.replicate_succ];have e:(List.range (n+1)).foldl (fun s i=>s.set (o+i) 0) l=(List.range n).foldl (fun s i=>s.set (o+1+i) 0) (l.set o 0):=by
    rw[List.range_succ_eq_map,List.foldl_cons,List.foldl_map]
    congr 1
    funext s i
    congr 1
    omega
   rw[e];exact h2
theorem Dj (n:Nat):∀ (o:Nat) (l:List Int),((List.range n).foldl (fun s i=>s.set (o+i) 0) l).length=l.length:=by
 induction n with
 | zero=>intro o l;rfl
 | succ n ih=>intro o l;rw[List.range_succ,List.foldl_append];simp[ih]
theorem oN {q:Nat} (vs:List Value):∀ (w:World) (o:Nat),Fr (fun k=>k=q) w (w.setCells q o vs):=by
 induction vs with
 | nil=>intro w o;exact Fr.refl _ _
 | cons v vs ih =>
   intro w o;exact((Fr.refl (fun k=>k=q) w).setCell (p:=⟨q,o,none⟩) (fun _=>rfl) v).trans (ih _ _) (fun k _ h=>h)
open Go.Maps
theorem I7:(257:TypeId)<Tryz.prog.types.size:=of_decide_eq_true (by kernel_rfl)
theorem Jn:(match Tryz.prog.underlying 257 with | some (.array _ _) | some (.struct _)=>true | _=>false)=true:=by kernel_rfl
theorem BA:Keyed Tryz.prog 257:=Keyed.of_law (deep_law_laid lW (m:=2) (by omega) I7 (by kernel_rfl) Jn)
theorem Fy (a b:Int) (ha:aJ a) (hb:aJ b):∃ l,keyOf Tryz.prog 257 (.agg #[.int .i64 a,.int .i64 b])=some l:=by
 have hc:Tryz.prog.cellsOf 257=2:=by kernel_rfl
 have hk:Tryz.prog.keyType 257=true:=by kernel_rfl
 have hf:(Value.agg #[.int .i64 a,.int .i64 b]).formed Tryz.prog 257=true:=by simp[Value.formed,Tryz.underlying257,hc]
 have h1:∀ d x,aJ x→Tryz.prog.keyLits (d+1) 3 [.int .i64 x]=some [.int .i64 x]:=fun d x hx=>by
  unfold Program.keyLits
  simp[Tryz.underlying3,qj hx]
 have hci:Tryz.prog.cellsOf 3=1:=by kernel_rfl
 have h2:∀ d,Tryz.prog.keyLits (d+2) 257 [.int .i64 a,.int .i64 b]=some [.int .i64 a,.int .i64 b]:=fun d=>by
  unfold Program.keyLits
  simp[Tryz.underlying257,hc,hci,h1 d a ha,h1 d b hb]
 obtain⟨n,hn⟩:∃ n,Tryz.prog.types.size+1=n+2:=⟨Tryz.prog.types.size - 1,by have:0<Tryz.prog.types.size:=Nat.lt_of_le_of_lt (Nat.zero_le _) I7;omega⟩;unfold keyOf;rw[Tryz.underlying257];simp only[hk,hf,Bool.and_self,if_true];refine⟨.string (keyBytes [.int .i64 a,.int .i64 b]),?_⟩;rw[hn]
 show Option.map (fun ls=>Lit.string (keyBytes ls)) (Tryz.prog.keyLits (n+2) 257 [.int .i64 a,.int .i64 b])=_
 rw[h2]
 rfl
noncomputable def obK:KeyTy Tryz.prog { x:Int × Int // aJ x.1∧aJ x.2 } where
 k:=257
 law:=BA
 key:=fun x=>.agg #[.int .i64 x.1.1,.int .i64 x.1.2]
 lit:=fun x=>(keyOf Tryz.prog 257 (.agg #[.int .i64 x.1.1,.int .i64 x.1.2])).getD (.bool true)
 wf:=fun _=>True
 hkey:=fun x _=>by
  obtain⟨l,h⟩:=Fy x.1.1 x.1.2 x.2.1 x.2.2;rw[h];rfl
 inj:=fun x y h=>by
  obtain⟨l,h1⟩:=Fy x.1.1 x.1.2 x.2.1 x.2.2;obtain⟨m,h2⟩:=Fy y.1.1 y.1.2 y.2.1 y.2.2;rw[h1,h2] at h;have e:l=m:=h;subst e;have h3:=BA.inj h1 h2;obtain⟨⟨x1,x2⟩,_⟩:=x;obtain⟨⟨y1,y2⟩,_⟩:=y
  simp at h3
  obtain⟨rfl,rfl⟩:=h3
  rfl
theorem I4:(296:TypeId)<Tryz.prog.types.size:=of_decide_eq_true (by kernel_rfl)
theorem Jl:(match Tryz.prog.underlying 296 with | some (.array _ _) | some (.struct _)=>true | _=>false)=true:=by kernel_rfl
theorem Bf:Keyed Tryz.prog 296:=Keyed.of_law (deep_law_laid lW (m:=2) (by omega) I4 (by kernel_rfl) Jl)
theorem Fg (a b:Int) (ha:aJ a) (hb:aJ b):∃ l,keyOf Tryz.prog 296 (.agg #[.int .i64 a,.int .i64 b])=some l:=by
 have hc:Tryz.prog.cellsOf 296=2:=by kernel_rfl
 have hk:Tryz.prog.keyType 296=true:=by kernel_rfl
 have hf:(Value.agg #[.int .i64 a,.int .i64 b]).formed Tryz.prog 296=true:=by simp[Value.formed,Tryz.underlying296,hc]
 have h1:∀ d x,aJ x→Tryz.prog.keyLits (d+1) 3 [.int .i64 x]=some [.int .i64 x]:=fun d x hx=>by
  unfold Program.keyLits
  simp[Tryz.underlying3,qj hx]
 have hci:Tryz.prog.cellsOf 3=1:=by kernel_rfl
 have h2:∀ d,Tryz.prog.keyLits (d+2) 296 [.int .i64 a,.int .i64 b]=some [.int .i64 a,.int .i64 b]:=fun d=>by
  unfold Program.keyLits
  simp[Tryz.underlying296,hc,hci,h1 d a ha,h1 d b hb]
 obtain⟨n,hn⟩:∃ n,Tryz.prog.types.size+1=n+2:=⟨Tryz.prog.types.size - 1,by have:0<Tryz.prog.types.size:=Nat.lt_of_le_of_lt (Nat.zero_le _) I4;omega⟩;unfold keyOf;rw[Tryz.underlying296];simp only[hk,hf,Bool.and_self,if_true];refine⟨.string (keyBytes [.int .i64 a,.int .i64 b]),?_⟩;rw[hn]
 show Option.map (fun ls=>Lit.string (keyBytes ls)) (Tryz.prog.keyLits (n+2) 296 [.int .i64 a,.int .i64 b])=_
 rw[h2]
 rfl
noncomputable def spK:KeyTy Tryz.prog { x:Int × Int // aJ x.1∧aJ x.2 } where
 k:=296
 law:=Bf
 key:=fun x=>.agg #[.int .i64 x.1.1,.int .i64 x.1.2]
 lit:=fun x=>(keyOf Tryz.prog 296 (.agg #[.int .i64 x.1.1,.int .i64 x.1.2])).getD (.bool true)
 wf:=fun _=>True
 hkey:=fun x _=>by
  obtain⟨l,h⟩:=Fg x.1.1 x.1.2 x.2.1 x.2.2;rw[h];rfl
 inj:=fun x y h=>by
  obtain⟨l,h1⟩:=Fg x.1.1 x.1.2 x.2.1 x.2.2;obtain⟨m,h2⟩:=Fg y.1.1 y.1.2 y.2.1 y.2.2;rw[h1,h2] at h;have e:l=m:=h;subst e;have h3:=Bf.inj h1 h2;obtain⟨⟨x1,x2⟩,_⟩:=x;obtain⟨⟨y1,y2⟩,_⟩:=y
  simp at h3
  obtain⟨rfl,rfl⟩:=h3
  rfl
structure Part where (fn pc base ret:Int) (ta:Option Addr) (tn tc:Nat)
structure Mark where (leaving deferred:Bool) (thunks:Int)
def xR:Elem Tryz.prog Part where
 e:=291
 t:=266
 size:=5
 bytes:=56
 zero:=.agg #[.int .i64 0,.int .i64 0,.int .i64 0,.int .i64 0,.slice none 0 0]
 enc:=fun x=>[.int .i64 x.fn,.int .i64 x.pc,.int .i64 x.base,.int .i64 x.ret,.slice x.ta x.tn x.tc]
 ht:=Tryz.underlying266
 info:=by kernel_rfl
 hzs:=rfl
 hsz:=by decide
 hby:=by decide
 henc:=fun _=>rfl
 hone:=fun x u h=>by simp at h;rcases h with rfl | rfl | rfl | rfl | rfl <;> rfl
def dN:Elem Tryz.prog Mark where
 e:=362
 t:=267
 size:=3
 bytes:=16
 zero:=.agg #[.bool false,.bool false,.int .i64 0]
 enc:=fun x=>[.bool x.leaving,.bool x.deferred,.int .i64 x.thunks]
 ht:=Tryz.underlying267
 info:=by kernel_rfl
 hzs:=rfl
 hsz:=by decide
 hby:=by decide
 henc:=fun _=>rfl
 hone:=fun x u h=>by simp at h;rcases h with rfl | rfl | rfl <;> rfl
structure Alarm where (code ptr run:Int) (exit recovered:Bool)
def bG:Elem Tryz.prog Alarm where
 e:=283
 t:=268
 size:=5
 bytes:=32
 zero:=.agg #[.int .i64 0,.int .i64 0,.int .i64 0,.bool false,.bool false]
 enc:=fun x=>[.int .i64 x.code,.int .i64 x.ptr,.int .i64 x.run,.bool x.exit,.bool x.recovered]
 ht:=Tryz.underlying268
 info:=by kernel_rfl
 hzs:=rfl
 hsz:=by decide
 hby:=by decide
 henc:=fun _=>rfl
 hone:=fun x u h=>by simp at h;rcases h with rfl | rfl | rfl | rfl | rfl <;> rfl
structure Tk where (base:Int) (words:List Int) (parts:List Part) (marks:List Mark)
structure TB where (D:Nat→Prop) (c0 c1 c2 pv mv:Value) (sb wb kb:Nat) (av:Value) (al:List Alarm) (kf:{ x:Int × Int // aJ x.1∧aJ x.2 }→Option Int) (kc:Nat)
def TB.Q (X' X:TB) (al:List Alarm) (kf:{ x:Int × Int // aJ x.1∧aJ x.2 }→Option Int):Prop:=X'.D=X.D∧X'.al=al∧X'.kf=kf∧X'.kc=X.kc
theorem TB.Q.refl (X:TB):X.Q X X.al X.kf:=⟨rfl,rfl,rfl,rfl⟩
def TB.New (X:TB):Prop:=X.al=[]∧X.kf=(fun _=>none)∧X.kc=0
structure TaskAt (w:World) (F:Nat→Prop) (tb:Nat) (p:TPrg) (T:Tk) (X:TB):Prop where
 row:w.heap[tb]?=some (.cells #[X.c0,X.c1,X.c2,.pointer (some ⟨X.sb,0,none⟩),X.pv,X.mv,X.av,.map (some X.kb)] 272)
 prg:PV w X.D p X.c0 X.c1 X.c2
 out:∀ k,X.D k→¬ F k∧k<w.heap.size
 srow:w.heap[X.sb]?=some (.cells #[.int .i64 T.base,.slice (some ⟨X.wb,0,none⟩) T.words.length T.words.length] 325)
 wrow:w.heap[X.wb]?=some (intRow T.words 3)
 parts:Own xR w 0 X.pv T.parts
 marks:Own dN w 0 X.mv T.marks
 kb:X.kb<w.heap.size
 kept:∃ n,n≤X.kc∧bf spK (Value.int .i64) w X.kb n X.kf
 alarms:Own bG w 0 X.av X.al
 ft:F tb
 fs:F X.sb
 fw:F X.wb
 fk:F X.kb
 fp:∀ k,X.pv.ownBlock=some k→F k
 fm:∀ k,X.mv.ownBlock=some k→F k
 fa:∀ k,X.av.ownBlock=some k→F k
 flt:∀ k,F k→k<w.heap.size
theorem iU {P:Program} {κ ν:Type} {K:KeyTy P κ} {val:ν→Value} {w:World} {b n k:Nat} {f:κ→Option ν} {cs:Array Value} {t:TypeId} {fz:Nat × Nat} (h:bf K val w b n f) (h':w.heap[k]?=some (.cells cs t fz)):b≠k:=by
 rintro rfl;obtain⟨D,⟨es,clock,hb,_⟩,_⟩:=h;rw[h'] at hb
 cases hb
theorem TaskAt.fr {w w':World} {F G:Nat→Prop} {tb:Nat} {p:TPrg} {T:Tk} {X:TB} (h:TaskAt w F tb p T X) (hf:Fr G w w') (h1:∀ k,F k→¬ G k) (h2:∀ k,X.D k→¬ G k):TaskAt w' F tb p T X where
 row:=hf.heap h.row (h1 _ h.ft)
 prg:=h.prg.fr hf h2
 out:=fun k hk=>⟨(h.out k hk).1,Nat.lt_of_lt_of_le (h.out k hk).2 hf.size⟩
 srow:=hf.heap h.srow (h1 _ h.fs)
 wrow:=hf.heap h.wrow (h1 _ h.fw)
 parts:=h.parts.fr hf fun k hk=>h1 _ (h.fp k hk)
 marks:=h.marks.fr hf fun k hk=>h1 _ (h.fm k hk)
 kb:=Nat.lt_of_lt_of_le h.kb hf.size
 kept:=h.kept.imp fun n hm=>⟨hm.1,hm.2.fr hf (h1 _ h.fk)⟩
 alarms:=h.alarms.fr hf fun k hk=>h1 _ (h.fa k hk)
 ft:=h.ft
 fs:=h.fs
 fw:=h.fw
 fk:=h.fk
 fp:=h.fp
 fm:=h.fm
 fa:=h.fa
 flt:=fun k hk=>Nat.lt_of_lt_of_le (h.flt k hk) hf.size
theorem TaskAt.below {w w':World} {F:Nat→Prop} {tb:Nat} {p:TPrg} {T:Tk} {X:TB} (h:TaskAt w F tb p T X) (hb:Below w.heap.size w w'):TaskAt w' F tb p T X:=h.fr (fb_ hb) (fun _ _ h=>h) (fun _ _ h=>h)
def iR (p:TPrg) (T:Tk):Int:=match T.parts.getLast? with | none=>0 | some q=>q.base+aT p q.fn
def nC (w:World) (sb wb:Nat) (base:Int) (l:List Int):Prop :=
 w.heap[sb]?=some (.cells #[.int .i64 base,.slice (some ⟨wb,0,none⟩) l.length l.length] 325)∧w.heap[wb]?=some (intRow l 3)
theorem nC.cells {w:World} {sb wb:Nat} {base:Int} {l:List Int} (h:nC w sb wb base l):w.cell? ⟨sb,0,none⟩=some (.int .i64 base)∧w.cell? ⟨sb,1,none⟩=some (.slice (some ⟨wb,0,none⟩) l.length l.length) :=
 ⟨(aa h.1 0).1,(aa h.1 1).1⟩
theorem nC.word {w:World} {sb wb:Nat} {base:Int} {l:List Int} (h:nC w sb wb base l) (k:Nat) (hk:k<l.length):w.cell? ⟨wb,k,none⟩=some (.int .i64 l[k])∧w.frozen? ⟨wb,k,none⟩=false:=by
 obtain⟨h1,h2⟩:=aa h.2 k;refine⟨?_,h2⟩;rw[h1]
 simp[hk]
theorem TaskAt.st {w:World} {F:Nat→Prop} {tb:Nat} {p:TPrg} {T:Tk} {X:TB} (h:TaskAt w F tb p T X):nC w X.sb X.wb T.base T.words:=⟨h.srow,h.wrow⟩
theorem mH (w:World) (sb wb:Nat) (base:Int) (l:List Int) (h:nC w sb wb base l) :
  Calls Tryz.prog 180 #[.pointer (some ⟨sb,0,none⟩)] w fun e w'=>e=.returned (.int .i64 l.length)∧w=w':=by
 obtain⟨k0,k1⟩:=h.cells;clear h
 go_enter Tryz.func180,Tryz.ntmps180
 go_wp2_with fail
 go_ret
 exact⟨rfl,rfl⟩
theorem qA (w:World) (sb wb:Nat) (base:Int) (l:List Int) (h:nC w sb wb base l) (off:Int) :
  Calls Tryz.prog 260 #[.pointer (some ⟨sb,0,none⟩),.int .i64 off] w fun e w'=>e=.returned (.bool (au off l.length))∧w=w':=by
 have ws:=mH w sb wb base l h;have WS:=k_ ws;clear ws
 by_cases h0:0≤off
 ·by_cases h1:off<l.length
  ·rw[show au off l.length=true from by simp[au,h0,h1]]
   go_enter Tryz.func260,Tryz.ntmps260
   go_wp2_with fail;refine WS.out.mono ?_;rintro e w' ⟨rfl,rfl⟩;go_wp2_with fail
   go_ret
   first | exact⟨rfl,rfl⟩ | exact⟨congrArg (fun b=>Ending.returned (Value.bool b)) (decide_eq_false (by omega)),rfl⟩ | exact⟨congrArg (fun b=>Ending.returned (Value.bool b)) (decide_eq_true (by omega)),rfl⟩
  ·rw[show au off l.length=false from by simp[au,h0,h1]]
   go_enter Tryz.func260,Tryz.ntmps260
   go_wp2_with fail;refine WS.out.mono ?_;rintro e w' ⟨rfl,rfl⟩;go_wp2_with fail
   go_ret
   first | exact⟨rfl,rfl⟩ | exact⟨congrArg (fun b=>Ending.returned (Value.bool b)) (decide_eq_false (by omega)),rfl⟩ | exact⟨congrArg (fun b=>Ending.returned (Value.bool b)) (decide_eq_true (by omega)),rfl⟩
 ·rw[show au off l.length=false from by simp[au,h0]]
  go_enter Tryz.func260,Tryz.ntmps260
  go_wp2_with fail
  go_ret
  first | exact⟨rfl,rfl⟩ | exact⟨congrArg (fun b=>Ending.returned (Value.bool b)) (decide_eq_false (by omega)),rfl⟩ | exact⟨congrArg (fun b=>Ending.returned (Value.bool b)) (decide_eq_true (by omega)),rfl⟩
theorem AY (w:World) (sb wb:Nat) (base:Int) (l:List Int) (h:nC w sb wb base l) (k:Nat) (hk:k<l.length) (v:Int) :
  Calls Tryz.prog 184 #[.pointer (some ⟨sb,0,none⟩),.int .i64 k,.int .i64 v] w fun e w'=>e=.returned (.bool true)∧w'=w.setCell ⟨wb,k,none⟩ (.int .i64 v):=by
 have th:=qA w sb wb base l h k;rw[show au (k:Int) l.length=true from by simp[au];omega] at th;obtain⟨k0,k1⟩:=h.cells;obtain⟨x0,x1⟩:=h.word k hk;have hk1:(k:Int)<l.length:=by omega
 clear h;have TH:=k_ th;clear th
 go_enter Tryz.func184,Tryz.ntmps184
 go_wp2_with fail;refine TH.out.mono ?_;rintro e w' ⟨rfl,rfl⟩;go_wp2_with fail
 go_ret
 exact⟨rfl,rfl⟩
theorem uM (w:World) (sb wb:Nat) (base:Int) (l:List Int) (h:nC w sb wb base l) (k:Nat) (hk:k<l.length) :
  Calls Tryz.prog 183 #[.pointer (some ⟨sb,0,none⟩),.int .i64 k] w fun e w'=>e=.returned (.tuple #[.int .i64 l[k],.bool true])∧w=w':=by
 have th:=qA w sb wb base l h k;rw[show au (k:Int) l.length=true from by simp[au];omega] at th;obtain⟨k0,k1⟩:=h.cells;obtain⟨x0,x1⟩:=h.word k hk;have hk1:(k:Int)<l.length:=by omega
 clear h;generalize l[k]=x at *;have TH:=k_ th;clear th
 go_enter Tryz.func183,Tryz.ntmps183
 go_wp2_with fail;refine TH.out.mono ?_;rintro e w' ⟨rfl,rfl⟩;go_wp2_with fail
 go_ret2
 exact⟨rfl,rfl⟩
end Go.Proofs.YtlofbhoicbemnaaGreatDoor.Tk
namespace Go.Proofs.YtlofbhoicbemnaaGreatDoor
open Go.ChangeShapes Go.WideShapes Go.ChangeAt Go.RowKit
def jG (p:Prg) (r:Int) (i:Ins):Bool:=(i.op == 22 && r == 0) || (i.op == 21 && (bF p i).isSome && (bD p i).result == 0)
theorem xC (p:Prg) (f:Fun) (i:Ins):jG p f.result i=kU p f i:=by
 unfold jG kU bD
 cases bF p i with
 | none=>simp
 | some g=>simp
theorem uN (w:World) (D:Nat→Prop) (hD:∀ k,D k→k<w.heap.size) (p:Prg) (c0 c1 c2 d0 d3 d4:Value) (r s:Int) (i:Ins) (fn pc:Int) (hv:aD w D p c0 c1 c2) (hd0:d0.oneCell'=true) (hd3:d3.oneCell'=true) (hd4:d4.oneCell'=true) :
  Calls Tryz.prog 347 #[.agg (bQ c0 c1 c2 d0 d3 d4 r s i fn pc)] w fun e w'=>e=.returned (.bool (jG p r i))∧Below w.heap.size w w':=by
 obtain⟨op,a,b,c⟩:=i;have ca:=fun W h1 h2=>nL W D h1 p c0 c1 c2 d0 d3 d4 r s ⟨op,a,b,c⟩ fn pc h2
 unfold fq at ca;have hC0:=(Below.refl w.heap.size w).alloc (Nat.le_refl _) (.cells (bQ c0 c1 c2 d0 d3 d4 r s ⟨op,a,b,c⟩ fn pc) 360);have hbx:=kL w (bQ c0 c1 c2 d0 d3 d4 r s ⟨op,a,b,c⟩ fn pc) 360 _ (Below.refl _ _);have hz0:(w.alloc (.cells (bQ c0 c1 c2 d0 d3 d4 r s ⟨op,a,b,c⟩ fn pc) 360)).heap.size=w.heap.size+1:=by simp
 obtain⟨W,hW⟩:∃ W,W=w.alloc (.cells (bQ c0 c1 c2 d0 d3 d4 r s ⟨op,a,b,c⟩ fn pc) 360):=⟨_,rfl⟩;rw[← hW] at hC0 hbx hz0;have q:∀ W',Below W.heap.size W W'→∀ j u,(bQ c0 c1 c2 d0 d3 d4 r s ⟨op,a,b,c⟩ fn pc)[j]?=some u→W'.cell? ⟨w.heap.size,j,none⟩=some u:=fun W' h j u hj=>ae h (hbx.1 j u hj)
 clear hbx;have HW:=k_ hW;clear hW;have hvW:∀ W',Below W.heap.size W W'→aD W' D p c0 c1 c2:=fun W' h=>hv.fr (Fr.of_below (hC0.trans (h.mono hC0.size)) (fun _=>False)) (fun _ _ h=>h)
 have hDW:∀ k,D k→k<W.heap.size:=fun k hk=>by have:=hD k hk;omega
 have HQQ:=k_ q;clear q;have HC0:=k_ hC0;clear hC0;have HVW:=k_ hvW;clear hvW;have HDW:=k_ hDW;clear hDW;have HZ0:=k_ hz0;clear hz0;unfold jG
 dsimp only
 generalize (bD p ⟨op,a,b,c⟩)=G at *;generalize (bF p ⟨op,a,b,c⟩).isSome=is at *;generalize hgr:G.result=gr at *;generalize hgs:G.slots=gs at *;clear hgr hgs;have CA:=k_ (ca W HDW.out (HVW.out W (Below.refl _ _)));clear ca hv hD;unfold bQ at *
 go_enter Tryz.func347,Tryz.ntmps347
 go_upto_region 1 with fail
 rw[← HW.out];have p0:W.cell? ⟨w.heap.size,0,none⟩=some c0:=HQQ.out _ (Below.refl _ _) 0 _ rfl;have p1:W.cell? ⟨w.heap.size,1,none⟩=some c1:=HQQ.out _ (Below.refl _ _) 1 _ rfl;have p2:W.cell? ⟨w.heap.size,2,none⟩=some c2:=HQQ.out _ (Below.refl _ _) 2 _ rfl;have p3:W.cell? ⟨w.heap.size,3,none⟩=some d0:=HQQ.out _ (Below.refl _ _) 3 _ rfl;have p4:W.cell? ⟨w.heap.size,4,none⟩=some (.int .i64 r):=HQQ.out _ (Below.refl _ _) 4 _ rfl;have p5:W.cell? ⟨w.heap.size,5,none⟩=some (.int .i64 s):=HQQ.out _ (Below.refl _ _) 5 _ rfl;have p6:W.cell? ⟨w.heap.size,6,none⟩=some d3:=HQQ.out _ (Below.refl _ _) 6 _ rfl;have p7:W.cell? ⟨w.heap.size,7,none⟩=some d4:=HQQ.out _ (Below.refl _ _) 7 _ rfl;have p8:W.cell? ⟨w.heap.size,8,none⟩=some (.int .i64 op):=HQQ.out _ (Below.refl _ _) 8 _ rfl;have p9:W.cell? ⟨w.heap.size,9,none⟩=some (.int .i64 a):=HQQ.out _ (Below.refl _ _) 9 _ rfl;have p10:W.cell? ⟨w.heap.size,10,none⟩=some (.int .i64 b):=HQQ.out _ (Below.refl _ _) 10 _ rfl;have p11:W.cell? ⟨w.heap.size,11,none⟩=some (.int .i64 c):=HQQ.out _ (Below.refl _ _) 11 _ rfl;have p12:W.cell? ⟨w.heap.size,12,none⟩=some (.int .i64 fn):=HQQ.out _ (Below.refl _ _) 12 _ rfl;have p13:W.cell? ⟨w.heap.size,13,none⟩=some (.int .i64 pc):=HQQ.out _ (Below.refl _ _) 13 _ rfl;go_wp2_with fail;refine CA.out.mono ?_;rintro e w1 ⟨x0,x3,x4,rfl,hfv,hb1⟩;obtain⟨hq1,hq2,⟨g0,g1,rfl,_⟩,⟨g2,g3,rfl,_⟩,g4,g5,rfl,_⟩:=hfv;clear hq1 hq2;clear p0 p1 p2 p3 p4 p5 p6 p7 p8 p9 p10 p11 p12 p13;have p0:w1.cell? ⟨w.heap.size,0,none⟩=some c0:=HQQ.out _ hb1 0 _ rfl;have p1:w1.cell? ⟨w.heap.size,1,none⟩=some c1:=HQQ.out _ hb1 1 _ rfl;have p2:w1.cell? ⟨w.heap.size,2,none⟩=some c2:=HQQ.out _ hb1 2 _ rfl;have p3:w1.cell? ⟨w.heap.size,3,none⟩=some d0:=HQQ.out _ hb1 3 _ rfl;have p4:w1.cell? ⟨w.heap.size,4,none⟩=some (.int .i64 r):=HQQ.out _ hb1 4 _ rfl;have p5:w1.cell? ⟨w.heap.size,5,none⟩=some (.int .i64 s):=HQQ.out _ hb1 5 _ rfl;have p6:w1.cell? ⟨w.heap.size,6,none⟩=some d3:=HQQ.out _ hb1 6 _ rfl;have p7:w1.cell? ⟨w.heap.size,7,none⟩=some d4:=HQQ.out _ hb1 7 _ rfl;have p8:w1.cell? ⟨w.heap.size,8,none⟩=some (.int .i64 op):=HQQ.out _ hb1 8 _ rfl;have p9:w1.cell? ⟨w.heap.size,9,none⟩=some (.int .i64 a):=HQQ.out _ hb1 9 _ rfl;have p10:w1.cell? ⟨w.heap.size,10,none⟩=some (.int .i64 b):=HQQ.out _ hb1 10 _ rfl;have p11:w1.cell? ⟨w.heap.size,11,none⟩=some (.int .i64 c):=HQQ.out _ hb1 11 _ rfl;have p12:w1.cell? ⟨w.heap.size,12,none⟩=some (.int .i64 fn):=HQQ.out _ hb1 12 _ rfl;have p13:w1.cell? ⟨w.heap.size,13,none⟩=some (.int .i64 pc):=HQQ.out _ hb1 13 _ rfl;have z0:=World.block_lt p0;have hB2:=HC0.out.trans (((hb1.trans ((Below.refl w1.heap.size w1).alloc (Nat.le_refl _) (.cells #[.slice g0 G.args.length g1,.int .i64 gr,.int .i64 gs,.slice g2 G.objects.length g3,.slice g4 G.code.length g5] 66) |>.mono hb1.size))).mono HC0.out.size);clear hb1;have HB2:=k_ hB2;clear hB2
 go_upto_region 2 with fail
 by_cases h1:op=22
 ·subst h1
  by_cases h2:r=0
  ·subst h2
   go_wp2_with fail
   go_ret
   exact⟨by simp[*],HB2.out⟩
  ·have h2':(r == 0)=false:=by simpa using h2
   clear h2;go_wp2_with fail
   go_ret
   exact⟨by simp[*],HB2.out⟩
 ·have h1':(op == 22)=false:=by simpa using h1
  clear h1
  by_cases h3:op=21
  ·subst h3
   cases is
   ·skip
    go_wp2_with fail
    go_ret
    exact⟨by simp[*],HB2.out⟩
   ·by_cases h4:gr=0
    ·subst h4
     go_wp2_with fail
     go_ret
     exact⟨by simp[*],HB2.out⟩
    ·have h4':(gr == 0)=false:=by simpa using h4
     clear h4;go_wp2_with fail
     go_ret
     exact⟨by simp[*],HB2.out⟩
  ·have h3':(op == 21)=false:=by simpa using h3
   clear h3;go_wp2_with fail
   go_ret
   exact⟨by simp[*],HB2.out⟩
theorem Eg (w:World) (D:Nat→Prop) (hD:∀ k,D k→k<w.heap.size) (p:Prg) (c0 c1 c2 d0 d3 d4:Value) (r s:Int) (i:Ins) (fn pc:Int) (hv:aD w D p c0 c1 c2) (hd0:d0.oneCell'=true) (hd3:d3.oneCell'=true) (hd4:d4.oneCell'=true) :
  Calls Tryz.prog 292 #[.agg (bQ c0 c1 c2 d0 d3 d4 r s i fn pc)] w fun e w'=>e=.returned (.bool (dh i.op && jQ i.a ((cO i.op).1 && !jG p r i) && jQ i.b (cO i.op).2.1 && jQ i.c (cO i.op).2.2))∧Below w.heap.size w w':=by
 obtain⟨op,a,b,c⟩:=i;have qu:=fun W h1 h2=>uN W D h1 p c0 c1 c2 d0 d3 d4 r s ⟨op,a,b,c⟩ fn pc h2 hd0 hd3 hd4
 have hC0:=(Below.refl w.heap.size w).alloc (Nat.le_refl _) (.cells (bQ c0 c1 c2 d0 d3 d4 r s ⟨op,a,b,c⟩ fn pc) 360);have hbx:=kL w (bQ c0 c1 c2 d0 d3 d4 r s ⟨op,a,b,c⟩ fn pc) 360 _ (Below.refl _ _);have hz0:(w.alloc (.cells (bQ c0 c1 c2 d0 d3 d4 r s ⟨op,a,b,c⟩ fn pc) 360)).heap.size=w.heap.size+1:=by simp
 obtain⟨W,hW⟩:∃ W,W=w.alloc (.cells (bQ c0 c1 c2 d0 d3 d4 r s ⟨op,a,b,c⟩ fn pc) 360):=⟨_,rfl⟩;rw[← hW] at hC0 hbx hz0;have q:∀ W',Below W.heap.size W W'→∀ j u,(bQ c0 c1 c2 d0 d3 d4 r s ⟨op,a,b,c⟩ fn pc)[j]?=some u→W'.cell? ⟨w.heap.size,j,none⟩=some u:=fun W' h j u hj=>ae h (hbx.1 j u hj)
 clear hbx;have HW:=k_ hW;clear hW;have hvW:∀ W',Below W.heap.size W W'→aD W' D p c0 c1 c2:=fun W' h=>hv.fr (Fr.of_below (hC0.trans (h.mono hC0.size)) (fun _=>False)) (fun _ _ h=>h)
 have hDW:∀ k,D k→k<W.heap.size:=fun k hk=>by have:=hD k hk;omega
 have HQQ:=k_ q;clear q;have HC0:=k_ hC0;clear hC0;have HVW:=k_ hvW;clear hvW;have HDW:=k_ hDW;clear hDW;have HZ0:=k_ hz0;clear hz0
 dsimp only
 have us:=fun W=>xU W op
 unfold ky at us;have kn:=vE op;generalize cO op=U at *;obtain⟨v0,v1,v2⟩:=U;generalize dh op=kb at *;generalize jG p r ⟨op,a,b,c⟩=qb at *
 dsimp only at us ⊢
 have QU:=k_ (qu W HDW.out (HVW.out W (Below.refl _ _)));clear qu hv hD;have US:=k_ us;clear us;have KN:=k_ kn;clear kn;unfold bQ jQ at *
 go_enter Tryz.func292,Tryz.ntmps292
 go_upto_region 1 with fail
 rw[← HW.out];have p0:W.cell? ⟨w.heap.size,0,none⟩=some c0:=HQQ.out _ (Below.refl _ _) 0 _ rfl;have p1:W.cell? ⟨w.heap.size,1,none⟩=some c1:=HQQ.out _ (Below.refl _ _) 1 _ rfl;have p2:W.cell? ⟨w.heap.size,2,none⟩=some c2:=HQQ.out _ (Below.refl _ _) 2 _ rfl;have p3:W.cell? ⟨w.heap.size,3,none⟩=some d0:=HQQ.out _ (Below.refl _ _) 3 _ rfl;have p4:W.cell? ⟨w.heap.size,4,none⟩=some (.int .i64 r):=HQQ.out _ (Below.refl _ _) 4 _ rfl;have p5:W.cell? ⟨w.heap.size,5,none⟩=some (.int .i64 s):=HQQ.out _ (Below.refl _ _) 5 _ rfl;have p6:W.cell? ⟨w.heap.size,6,none⟩=some d3:=HQQ.out _ (Below.refl _ _) 6 _ rfl;have p7:W.cell? ⟨w.heap.size,7,none⟩=some d4:=HQQ.out _ (Below.refl _ _) 7 _ rfl;have p8:W.cell? ⟨w.heap.size,8,none⟩=some (.int .i64 op):=HQQ.out _ (Below.refl _ _) 8 _ rfl;have p9:W.cell? ⟨w.heap.size,9,none⟩=some (.int .i64 a):=HQQ.out _ (Below.refl _ _) 9 _ rfl;have p10:W.cell? ⟨w.heap.size,10,none⟩=some (.int .i64 b):=HQQ.out _ (Below.refl _ _) 10 _ rfl;have p11:W.cell? ⟨w.heap.size,11,none⟩=some (.int .i64 c):=HQQ.out _ (Below.refl _ _) 11 _ rfl;have p12:W.cell? ⟨w.heap.size,12,none⟩=some (.int .i64 fn):=HQQ.out _ (Below.refl _ _) 12 _ rfl;have p13:W.cell? ⟨w.heap.size,13,none⟩=some (.int .i64 pc):=HQQ.out _ (Below.refl _ _) 13 _ rfl;go_wp2_with fail;refine(US.out _).mono ?_;rintro e w1 ⟨rfl,rfl⟩
 cases v0
 ·have HB2:=k_ HC0.out
  go_wp2_with fail
  cases kb
  ·skip
   refine(KN.out _).mono ?_;rintro e wq ⟨rfl,rfl⟩;go_wp2_with fail
   go_ret
   exact⟨by simp[*],HB2.out⟩
  ·skip
   by_cases ha:a=0
   ·subst ha
    cases v1
    ·by_cases hb:b=0
     ·subst hb
      cases v2
      ·by_cases hc:c=0
       ·subst hc
        refine(KN.out _).mono ?_;rintro e wq ⟨rfl,rfl⟩;go_wp2_with fail
        go_ret
        exact⟨by simp[*],HB2.out⟩
       ·have hc':(c == 0)=false:=by simpa using hc
        clear hc;refine(KN.out _).mono ?_;rintro e wq ⟨rfl,rfl⟩;go_wp2_with fail
        go_ret
        exact⟨by simp[*],HB2.out⟩
      ·skip
       refine(KN.out _).mono ?_;rintro e wq ⟨rfl,rfl⟩;go_wp2_with fail
       go_ret
       exact⟨by simp[*],HB2.out⟩
     ·have hb':(b == 0)=false:=by simpa using hb
      clear hb;refine(KN.out _).mono ?_;rintro e wq ⟨rfl,rfl⟩;go_wp2_with fail
      go_ret
      exact⟨by simp[*],HB2.out⟩
    ·skip
     cases v2
     ·by_cases hc:c=0
      ·subst hc
       refine(KN.out _).mono ?_;rintro e wq ⟨rfl,rfl⟩;go_wp2_with fail
       go_ret
       exact⟨by simp[*],HB2.out⟩
      ·have hc':(c == 0)=false:=by simpa using hc
       clear hc;refine(KN.out _).mono ?_;rintro e wq ⟨rfl,rfl⟩;go_wp2_with fail
       go_ret
       exact⟨by simp[*],HB2.out⟩
     ·skip
      refine(KN.out _).mono ?_;rintro e wq ⟨rfl,rfl⟩;go_wp2_with fail
      go_ret
      exact⟨by simp[*],HB2.out⟩
   ·have ha':(a == 0)=false:=by simpa using ha
    clear ha;refine(KN.out _).mono ?_;rintro e wq ⟨rfl,rfl⟩;go_wp2_with fail
    go_ret
    exact⟨by simp[*],HB2.out⟩
 ·go_wp2_with fail
  refine QU.out.mono ?_;rintro e w1 ⟨rfl,hb1⟩;have HB2:=k_ (HC0.out.trans (hb1.mono HC0.out.size));clear p0 p1 p2 p3 p4 p5 p6 p7 p8 p9 p10 p11 p12 p13;have p0:w1.cell? ⟨w.heap.size,0,none⟩=some c0:=HQQ.out _ hb1 0 _ rfl;have p1:w1.cell? ⟨w.heap.size,1,none⟩=some c1:=HQQ.out _ hb1 1 _ rfl;have p2:w1.cell? ⟨w.heap.size,2,none⟩=some c2:=HQQ.out _ hb1 2 _ rfl;have p3:w1.cell? ⟨w.heap.size,3,none⟩=some d0:=HQQ.out _ hb1 3 _ rfl;have p4:w1.cell? ⟨w.heap.size,4,none⟩=some (.int .i64 r):=HQQ.out _ hb1 4 _ rfl;have p5:w1.cell? ⟨w.heap.size,5,none⟩=some (.int .i64 s):=HQQ.out _ hb1 5 _ rfl;have p6:w1.cell? ⟨w.heap.size,6,none⟩=some d3:=HQQ.out _ hb1 6 _ rfl;have p7:w1.cell? ⟨w.heap.size,7,none⟩=some d4:=HQQ.out _ hb1 7 _ rfl;have p8:w1.cell? ⟨w.heap.size,8,none⟩=some (.int .i64 op):=HQQ.out _ hb1 8 _ rfl;have p9:w1.cell? ⟨w.heap.size,9,none⟩=some (.int .i64 a):=HQQ.out _ hb1 9 _ rfl;have p10:w1.cell? ⟨w.heap.size,10,none⟩=some (.int .i64 b):=HQQ.out _ hb1 10 _ rfl;have p11:w1.cell? ⟨w.heap.size,11,none⟩=some (.int .i64 c):=HQQ.out _ hb1 11 _ rfl;have p12:w1.cell? ⟨w.heap.size,12,none⟩=some (.int .i64 fn):=HQQ.out _ hb1 12 _ rfl;have p13:w1.cell? ⟨w.heap.size,13,none⟩=some (.int .i64 pc):=HQQ.out _ hb1 13 _ rfl;clear hb1;go_wp2_with fail
  cases qb
  ·skip
   cases kb
   ·skip
    refine(KN.out _).mono ?_;rintro e wq ⟨rfl,rfl⟩;go_wp2_with fail
    go_ret
    exact⟨by simp[*],HB2.out⟩
   ·skip
    cases v1
    ·by_cases hb:b=0
     ·subst hb
      cases v2
      ·by_cases hc:c=0
       ·subst hc
        refine(KN.out _).mono ?_;rintro e wq ⟨rfl,rfl⟩;go_wp2_with fail
        go_ret
        exact⟨by simp[*],HB2.out⟩
       ·have hc':(c == 0)=false:=by simpa using hc
        clear hc;refine(KN.out _).mono ?_;rintro e wq ⟨rfl,rfl⟩;go_wp2_with fail
        go_ret
        exact⟨by simp[*],HB2.out⟩
      ·skip
       refine(KN.out _).mono ?_;rintro e wq ⟨rfl,rfl⟩;go_wp2_with fail
       go_ret
       exact⟨by simp[*],HB2.out⟩
     ·have hb':(b == 0)=false:=by simpa using hb
      clear hb;refine(KN.out _).mono ?_;rintro e wq ⟨rfl,rfl⟩;go_wp2_with fail
      go_ret
      exact⟨by simp[*],HB2.out⟩
    ·skip
     cases v2
     ·by_cases hc:c=0
      ·subst hc
       refine(KN.out _).mono ?_;rintro e wq ⟨rfl,rfl⟩;go_wp2_with fail
       go_ret
       exact⟨by simp[*],HB2.out⟩
      ·have hc':(c == 0)=false:=by simpa using hc
       clear hc;refine(KN.out _).mono ?_;rintro e wq ⟨rfl,rfl⟩;go_wp2_with fail
       go_ret
       exact⟨by simp[*],HB2.out⟩
     ·skip
      refine(KN.out _).mono ?_;rintro e wq ⟨rfl,rfl⟩;go_wp2_with fail
      go_ret
      exact⟨by simp[*],HB2.out⟩
  ·skip
   cases kb
   ·skip
    refine(KN.out _).mono ?_;rintro e wq ⟨rfl,rfl⟩;go_wp2_with fail
    go_ret
    exact⟨by simp[*],HB2.out⟩
   ·skip
    by_cases ha:a=0
    ·subst ha
     cases v1
     ·by_cases hb:b=0
      ·subst hb
       cases v2
       ·by_cases hc:c=0
        ·subst hc
         refine(KN.out _).mono ?_;rintro e wq ⟨rfl,rfl⟩;go_wp2_with fail
         go_ret
         exact⟨by simp[*],HB2.out⟩
        ·have hc':(c == 0)=false:=by simpa using hc
         clear hc;refine(KN.out _).mono ?_;rintro e wq ⟨rfl,rfl⟩;go_wp2_with fail
         go_ret
         exact⟨by simp[*],HB2.out⟩
       ·skip
        refine(KN.out _).mono ?_;rintro e wq ⟨rfl,rfl⟩;go_wp2_with fail
        go_ret
        exact⟨by simp[*],HB2.out⟩
      ·have hb':(b == 0)=false:=by simpa using hb
       clear hb;refine(KN.out _).mono ?_;rintro e wq ⟨rfl,rfl⟩;go_wp2_with fail
       go_ret
       exact⟨by simp[*],HB2.out⟩
     ·skip
      cases v2
      ·by_cases hc:c=0
       ·subst hc
        refine(KN.out _).mono ?_;rintro e wq ⟨rfl,rfl⟩;go_wp2_with fail
        go_ret
        exact⟨by simp[*],HB2.out⟩
       ·have hc':(c == 0)=false:=by simpa using hc
        clear hc;refine(KN.out _).mono ?_;rintro e wq ⟨rfl,rfl⟩;go_wp2_with fail
        go_ret
        exact⟨by simp[*],HB2.out⟩
      ·skip
       refine(KN.out _).mono ?_;rintro e wq ⟨rfl,rfl⟩;go_wp2_with fail
       go_ret
       exact⟨by simp[*],HB2.out⟩
    ·have ha':(a == 0)=false:=by simpa using ha
     clear ha;refine(KN.out _).mono ?_;rintro e wq ⟨rfl,rfl⟩;go_wp2_with fail
     go_ret
     exact⟨by simp[*],HB2.out⟩
def su (p:Prg) (i:Ins):Bool:=if i.op=23∨i.op=24 then (bD p i).result == 0 && !(bD p i).args.any zy else if i.op=25∨i.op=26 then decide (0<p.shapes.length) else true
theorem Ej (p:Prg) (i:Ins):su p i=pW p i:=by
 unfold su pW bD
 cases bF p i <;> rfl
end Go.Proofs.YtlofbhoicbemnaaGreatDoor
