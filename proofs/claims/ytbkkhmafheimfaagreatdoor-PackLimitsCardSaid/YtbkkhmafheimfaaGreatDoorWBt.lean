/- Walk: besomlaw24.Plain. -/
import Derived.Test.YtbkkhmafheimfaaGreatDoorWBo
set_option linter.unusedVariables false
set_option linter.unusedSimpArgs false
set_option maxRecDepth 100000
namespace Go.Proofs.YtbkkhmafheimfaaGreatDoor.Tk
open Go.ChangeShapes Go.WideShapes Go.ChangeAt Go.RowKit Go.Maps
theorem res_pl (t:Array Value) (W:World) (B:Nat) {y0 y1 y2 y3 y4:Value} (h0:t.getD 0 undef=.pointer (some ⟨B,0,none⟩))
  (hb:W.heap[B]?=some (.cells #[y0,y1,y2,y3,y4] 45)) :
  (results Tryz.f10 t).run Tryz.prog W=.ok (.agg #[y0,y1,y2,y3,y4]) W:=by
 obtain⟨⟨g0,g1,g2,g3,g4⟩,_⟩:=five_cells hb;rw[Array.getD_eq_getD_getElem?] at h0
 simp[results,Tryz.results10,go_sem,g0,g1,g2,g3,g4,h0]
theorem plain_cfg (w:World):Calls Tryz.prog 10 #[] w fun e w'=>e=.returned cfgP.val∧Below w.heap.size w w':=by
 go_enter Tryz.func10,Tryz.ntmps10
 go_wp2_with fail;refine bodyPost_ret (res_pl _ _ w.heap.size rfl (heap_new w (.cells #[.int .i64 8,.int .i64 16,.int .i64 512,.int .i64 40,.int .i64 8] 45))) rfl ⟨rfl,?_⟩;exact(Below.refl _ _).alloc (Nat.le_refl _) _
end Go.Proofs.YtbkkhmafheimfaaGreatDoor.Tk
