/- Contracts of layer 8: calls, what may be asked. -/
import Derived.Test.YthflkhalipkdgaaGreatProg
import Derived.Below
import Derived.WalkKit
import Derived.KernelRfl
import Derived.RowKit3
import Derived.Deep.LoopGhost
import Derived.Deep.QuietTactic
import Derived.BigQuiet
import Derived.WideLaws
import Derived.Deep.DeepCutAuto
import Derived.Deep.CutBlock
import Derived.Lib.Hide
import Derived.Laws.BitsLemmas
import Derived.Laws.Bits64
import Derived.Laws.BitsAllLaws
import Derived.IntWalk
import Derived.Outline
import Derived.WalkSpells
import Derived.Test.YthflkhalipkdgaaGreatGA
import Derived.Test.YthflkhalipkdgaaGreatSite
import Derived.Test.YthflkhalipkdgaaGreatBig
import Derived.Laws.EntriesVeiled
namespace Go.Proofs.YthflkhalipkdgaaGreat.Ca
set_option maxRecDepth 20000
set_option linter.unusedVariables false
set_option linter.unusedSimpArgs false
open Go.RowKit Go.Proofs.YthflkhalipkdgaaGreat.Mem Go.Proofs.YthflkhalipkdgaaGreat.Si

theorem ret_b {a b : Bool} (h : a = b) : Ending.returned (.bool a) = .returned (.bool b) := by rw [h]
theorem ret_i {a b : Int} (h : a = b) : Ending.returned (.int .i64 a) = .returned (.int .i64 b) := by rw [h]
/-- a call -/
structure CallV where
  id : Int
  kind : Int
  src : Int
  dst : Int
  car : Int
  state : Int
  owner : Int
  born : Int
def CallV.cells (x : CallV) : Array Value := #[.int .i64 x.id, .int .i64 x.kind, .int .i64 x.src, .int .i64 x.dst, .int .i64 x.car, .int .i64 x.state, .int .i64 x.owner, .int .i64 x.born]
def CallV.val (x : CallV) : Value := .agg x.cells
def noCall : CallV := ⟨0, 0, 0, 0, 0, 0, 0, 0⟩
def floorV (c : Cfg) (n : Int) : Bool := checkV c == 0 && decide (1 ≤ n) && decide (n ≤ c.floors)
def carV (c : Cfg) (n : Int) : Bool := checkV c == 0 && decide (1 ≤ n) && decide (n ≤ c.cars)
theorem infoC {c : Cfg} : (Tryz.prog.info? 25).map (·.size) = some c.cells.size := by kernel_rfl
theorem infoX {x : CallV} : (Tryz.prog.info? 40).map (·.size) = some x.cells.size := by kernel_rfl
def askV (c : Cfg) (x : CallV) : Bool :=
  if x.kind = 1 then x.dst == 0 && x.car == 0 && floorV c x.src && decide (x.src < c.floors)
  else if x.kind = 2 then x.dst == 0 && x.car == 0 && floorV c x.src && decide (1 < x.src)
  else if x.kind = 3 then x.src == 0 && carV c x.car && floorV c x.dst
  else if x.kind = 4 then x.car == 0 && floorV c x.src && floorV c x.dst && x.src != x.dst
  else false
end Go.Proofs.YthflkhalipkdgaaGreat.Ca
