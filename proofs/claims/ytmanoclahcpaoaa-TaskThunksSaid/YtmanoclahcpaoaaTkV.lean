/- Walk: a task as it is, of one frame. -/
import Derived.Test.YtmanoclahcpaoaaTkT
namespace Go.Proofs.Ytmanoclahcpaoaa
open Go.ChangeShapes Go.WideShapes Go.ChangeAt Go.RowKit Go.Maps

/-- a frame as it is, as nine values -/
structure SpotV where (x0 x1 x2 : Int) (b3 b4 : Bool) (x5 : Int) (b6 : Bool) (a7 : Option Addr) (n7 c7 : Nat) (a8 : Option Addr) (n8 c8 : Nat)
set_option maxRecDepth 100000 in
def spotE : Elem Try.prog SpotV where
  e := 53
  t := 46
  size := 9
  bytes := 96
  zero := .agg #[.int .i64 0, .int .i64 0, .int .i64 0, .bool false, .bool false, .int .i64 0, .bool false, .slice none 0 0, .slice none 0 0]
  enc := fun x => [.int .i64 x.x0, .int .i64 x.x1, .int .i64 x.x2, .bool x.b3, .bool x.b4, .int .i64 x.x5, .bool x.b6, .slice x.a7 x.n7 x.c7, .slice x.a8 x.n8 x.c8]
  ht := Try.underlying46
  info := by kernel_rfl
  hzs := rfl
  hsz := by decide
  hby := by decide
  henc := fun _ => rfl
  hone := fun x u h => by simp at h; rcases h with rfl | rfl | rfl | rfl | rfl | rfl | rfl | rfl | rfl <;> rfl
set_option maxRecDepth 100000 in
def thsE : Elem Try.prog (Option Addr × Nat × Nat) where
  e := 71
  t := 47
  size := 1
  bytes := 24
  zero := .slice none 0 0
  enc := fun x => [.slice x.1 x.2.1 x.2.2]
  ht := Try.underlying47
  info := by kernel_rfl
  hzs := rfl
  hsz := by decide
  hby := by decide
  henc := fun _ => rfl
  hone := fun x u h => by simp at h; subst h; rfl
end Go.Proofs.Ytmanoclahcpaoaa
