/- New blocks that stay: what a call boxes first. Nothing of the program stands here. Walks: the reader of a file: take, num. -/
import Derived.Test.YtbkkhmafheimfaaGreatDoorWAd
set_option linter.unusedVariables false
set_option linter.unusedSimpArgs false
set_option maxRecDepth 100000
set_option maxHeartbeats 1600000
namespace Go.Proofs.YtbkkhmafheimfaaGreatDoor
open Go.RowKit
theorem box1 (w:World) (cs:Array Value) (t:TypeId) (wr:World) (h:Below (w.heap.size+1) (w.alloc (.cells cs t)) wr) :
  (∀ j u,cs[j]?=some u→wr.cell? ⟨w.heap.size,j,none⟩=some u)∧Below w.heap.size w wr∧w.heap.size+1≤wr.heap.size:=by
 refine⟨fun j u hj=>?_,((Below.refl _ _).alloc (Nat.le_refl _) _).trans (h.mono (by simp)),by have:=h.size;simpa using this⟩;rw[h.cell (by simp),cell_new];exact hj
theorem box2 (w:World) (cs cs':Array Value) (t t':TypeId) (wr:World) (h:Below (w.heap.size+2) ((w.alloc (.cells cs t)).alloc (.cells cs' t')) wr) :
  (∀ j u,cs[j]?=some u→wr.cell? ⟨w.heap.size,j,none⟩=some u)∧(∀ j u,cs'[j]?=some u→wr.cell? ⟨w.heap.size+1,j,none⟩=some u)∧Below w.heap.size w wr∧w.heap.size+2≤wr.heap.size:=by
 refine⟨fun j u hj=>?_,fun j u hj=>?_,(((Below.refl _ _).alloc (Nat.le_refl _) _).alloc (by simp) _).trans (h.mono (by simp)),by have:=h.size;simpa using this⟩
 ·rw[h.cell (by simp),cell_under _ _ (by simp),cell_new];exact hj
 ·rw[h.cell (by simp)]
  have:=cell_new (w.alloc (.cells cs t)) cs' t' (0,0) j;rw[show (w.alloc (.cells cs t)).heap.size=w.heap.size+1 from by simp] at this;rw[this];exact hj
theorem own_new {P:Program} {α:Type} (E:Elem P α) (w:World) (l:List α) (cs:Array Value) (h:cs.toList=l.flatMap E.enc) (hl:l.length≤maxLen):Own E (w.alloc (.cells cs E.e)) w.heap.size (.slice (some ⟨w.heap.size,0,none⟩) l.length l.length) l:=by
 refine⟨E.len l,.inr ⟨w.heap.size,l.length,cs,rfl,Nat.le_refl _,heap_new w _,Nat.le_refl _,hl,?_,?_⟩⟩
 ·rw[← E.len l,← h];simp
 ·rw[h,List.take_of_length_le];rw[E.len l];exact Nat.le_refl _
open Go.ChangeShapes Go.WideShapes Go.ChangeAt
def uTake (s:RS) (n:Int):ByteArray × RS:=if n<0∨(s.1.size:Int)<n then (⟨#[]⟩,(⟨#[]⟩,true)) else (s.1.extract 0 n.toNat,(s.1.extract n.toNat s.1.size,s.2))
def uVal (b:ByteArray):Int:=if b.size<4 then 0 else readV (gb b 0) (gb b 1) (gb b 2) (gb b 3)
def uNum (s:RS):Int × RS:=(uVal (uTake s 4).1,(uTake s 4).2)
def FRd (w:World) (p:Nat) (s:RS):Prop:=w.heap[p]?=some (.cells #[.string s.1,.bool s.2] 92)
theorem FRd.fr {F:Nat→Prop} {w w':World} {p:Nat} {s:RS} (h:FRd w p s) (hf:Fr F w w') (hn:¬ F p):FRd w' p s:=hf.heap h hn
theorem bytes_of (w:World) (b:ByteArray):∃ cap wf,Sem.run Tryz.prog (convert 9 49 (.string b)) w=.ok (.slice (some ⟨w.heap.size,0,none⟩) b.size cap) wf∧Below w.heap.size w wf ∧
  ∀ j (h:j<b.size),wf.cell? ⟨w.heap.size,j,none⟩=some (.int .u8 (b[j].toNat:Nat)):=by
 refine⟨_,_,run_bytes_of_string w _ _ 5 b Tryz.underlying9 Tryz.underlying49 Tryz.underlying5,((Below.refl _ _).drew).alloc (Nat.le_refl _) _,fun j h=>?_⟩;rw[show w.heap.size=w.drew.heap.size from rfl,cell_new];unfold bytesRow
 rw[Array.getElem?_append_left (by simpa using h)];rw[Array.getElem?_map,Array.getElem?_eq_getElem (by simpa using h)]
 rfl
theorem read_few (a:Option Addr) (n c:Nat) (w:World) (h:n<4) :
  Calls Tryz.prog 54 #[.slice a n c] w fun e w'=>e=.returned (.tuple #[.int .i64 0,.bool false])∧w=w':=by
 go_enter Tryz.func54,Tryz.ntmps54
 go_wp2
 go_ret2
 exact⟨rfl,rfl⟩
theorem utake_any (w:World) (p:Nat) (s:RS) (hr:FRd w p s) (n:Int) (hs:s.1.size≤1000000) :
  Calls Tryz.prog 32 #[.pointer (some ⟨p,0,none⟩),.int .i64 n] w fun e w'=>e=.returned (.string (uTake s n).1)∧FRd w' p (uTake s n).2∧Fr (onB p) w w':=by
 obtain⟨b,bad⟩:=s;obtain⟨q0,q1,q2,q3⟩:=two_cells (show _=some (Obj.cells #[.string b,.bool bad] 92) from hr)
 dsimp only at hs
 have hbad:FRd ((w.setCell ⟨p,1,none⟩ (.bool true)).setCell ⟨p,0,none⟩ (.string ⟨#[]⟩)) p (⟨#[]⟩,true)∧Fr (onB p) w ((w.setCell ⟨p,1,none⟩ (.bool true)).setCell ⟨p,0,none⟩ (.string ⟨#[]⟩)) :=
   ⟨two_set0 (two_set1 hr),((Fr.refl (onB p) w).setCell (p:=⟨p,1,none⟩) (fun _=>rfl) _).setCell (p:=⟨p,0,none⟩) (fun _=>rfl) _⟩
 by_cases hneg:n<0
 ·have e:uTake (b,bad) n=(⟨#[]⟩,(⟨#[]⟩,true)):=by unfold uTake;rw[if_pos (Or.inl hneg)]
  rw[e];clear e hr;have HBAD:=k_ hbad;clear hbad
  go_enter Tryz.func32,Tryz.ntmps32
  go_wp2_with fail
  go_ret
  exact⟨rfl,HBAD.out⟩
 by_cases h:(b.size:Int)<n
 ·have e:uTake (b,bad) n=(⟨#[]⟩,(⟨#[]⟩,true)):=by unfold uTake;rw[if_pos (Or.inr h)]
  rw[e];clear e hr;have HBAD:=k_ hbad;clear hbad
  go_enter Tryz.func32,Tryz.ntmps32
  go_wp2_with fail
  go_ret
  exact⟨rfl,HBAD.out⟩
 ·have e:uTake (b,bad) n=(b.extract 0 n.toNat,(b.extract n.toNat b.size,bad)):=by unfold uTake;rw[if_neg (fun h'=>h'.elim hneg h)]
  rw[e];have hp:FRd (w.setCell ⟨p,0,none⟩ (.string (b.extract n.toNat b.size))) p (b.extract n.toNat b.size,bad)∧Fr (onB p) w (w.setCell ⟨p,0,none⟩ (.string (b.extract n.toNat b.size))) :=
   ⟨two_set0 hr,(Fr.refl (onB p) w).setCell (p:=⟨p,0,none⟩) (fun _=>rfl) _⟩
  clear e hr hbad;have HP:=k_ hp;clear hp
  go_enter Tryz.func32,Tryz.ntmps32
  go_wp2_with fail
  go_ret
  exact⟨rfl,HP.out⟩
theorem unum_any (w:World) (p:Nat) (s:RS) (hr:FRd w p s) (hs:s.1.size≤1000000) :
  Calls Tryz.prog 33 #[.pointer (some ⟨p,0,none⟩)] w fun e w'=>e=.returned (.int .i64 (uNum s).1)∧FRd w' p (uNum s).2∧Fr (onB p) w w':=by
 have ht:=utake_any w p s hr 4 hs;unfold uNum
 by_cases h:(s.1.size:Int)<4
 ·have e1:uTake s 4=(⟨#[]⟩,(⟨#[]⟩,true)):=by unfold uTake;rw[if_pos (Or.inr h)]
  rw[e1] at ht ⊢;have he:(⟨#[]⟩:ByteArray).toList.isEmpty=true:=by rw[ByteArray.toList_eq];rfl
  clear e1 h hr hs;have HT:=k_ ht;clear ht
  go_enter Tryz.func33,Tryz.ntmps33
  go_wp2_with fail;refine HT.out.mono ?_;rintro e w1 ⟨rfl,hp⟩;have HP:=k_ hp;clear hp;obtain⟨cap,wf,hcv,hb,_⟩:=bytes_of w1 ⟨#[]⟩
  have HB:=k_ hb;clear hb;rw[show (⟨#[]⟩:ByteArray).size=0 from rfl] at hcv;go_wp2_with fail;refine(read_few _ _ _ _ (by omega)).mono ?_;rintro e w2 ⟨rfl,rfl⟩;go_wp2_with fail
  go_ret
  exact⟨rfl,HP.out.1.fr (Fr.of_below HB.out (fun _=>False)) (fun h=>h),HP.out.2.trans (Fr.of_below HB.out (onB p)) (fun _ _ h=>h)⟩
 ·have e1:uTake s 4=(s.1.extract 0 4,(s.1.extract 4 s.1.size,s.2)):=by unfold uTake;rw[if_neg (fun h'=>h'.elim (by omega) h)];rfl
  rw[e1] at ht ⊢;have hx:(s.1.extract 0 4).size=4:=by rw[ByteArray.size_extract];omega
  generalize s.1.extract 0 4=b1 at *;clear e1 h hr hs;have HT:=k_ ht;clear ht
  go_enter Tryz.func33,Tryz.ntmps33
  go_wp2_with fail;refine HT.out.mono ?_;rintro e w1 ⟨rfl,hp⟩;have HP:=k_ hp;clear hp;obtain⟨cap,wf,hcv,hb,hcs⟩:=bytes_of w1 b1
  rw[hx] at hcv;have c0:=hcs 0 (by omega);have c1:=hcs 1 (by omega);have c2:=hcs 2 (by omega);have c3:=hcs 3 (by omega);rw[gb_get _ _ _] at c0 c1 c2 c3;have HB:=k_ hb;have HV:=k_ (show uVal b1=readV (gb b1 0) (gb b1 1) (gb b1 2) (gb b1 3) from by unfold uVal;rw[if_neg (by omega)]);have HC:=k_ (And.intro c0 (And.intro c1 (And.intro c2 c3)));clear hb hcs c0 c1 c2 c3 hx;go_wp2_with fail;refine(read_any w1.heap.size 0 4 cap wf _ _ _ _ (by omega) (by omega) ⟨(gb_bd _ _).1,(gb_bd _ _).2,(gb_bd _ _).1,(gb_bd _ _).2,(gb_bd _ _).1,(gb_bd _ _).2,(gb_bd _ _).1,(gb_bd _ _).2⟩ HC.out.1 HC.out.2.1 HC.out.2.2.1 HC.out.2.2.2).mono ?_;rintro e w2 ⟨rfl,rfl⟩;go_wp2_with fail
  go_ret
  exact⟨by rw[HV.out];rfl,HP.out.1.fr (Fr.of_below HB.out (fun _=>False)) (fun h=>h),HP.out.2.trans (Fr.of_below HB.out (onB p)) (fun _ _ h=>h)⟩
end Go.Proofs.YtbkkhmafheimfaaGreatDoor
