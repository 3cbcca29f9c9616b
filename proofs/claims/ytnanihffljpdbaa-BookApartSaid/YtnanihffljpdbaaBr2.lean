/- Layer 9: the reference. -/
import Derived.Test.YtnanihffljpdbaaProg
import Derived.Below
import Derived.WalkKit
import Derived.KernelRfl
import Derived.RowKit3
import Derived.Deep.LoopGhost
import Derived.Deep.QuietTactic
import Derived.BigQuiet
import Derived.WideLaws
import Derived.Deep.DeepCutAuto
import Derived.Deep.CutBlock
import Derived.Lib.Hide
import Derived.Laws.BitsLemmas
import Derived.Laws.Bits64
import Derived.Laws.BitsAllLaws
import Derived.IntWalk
import Derived.Outline
import Derived.WalkSpells
import Derived.Test.YtnanihffljpdbaaMem
import Derived.Test.YtnanihffljpdbaaBr1
import Derived.Test.YtnanihffljpdbaaBk2
namespace Go.Proofs.Ytnanihffljpdbaa.Bk
open Go.RowKit Go.Proofs.Ytnanihffljpdbaa.Mem Go.Proofs.Ytnanihffljpdbaa.Reg Go.Proofs.Ytnanihffljpdbaa.Wk Go.Proofs.Ytnanihffljpdbaa.Si Go.Proofs.Ytnanihffljpdbaa.Ca Go.Proofs.Ytnanihffljpdbaa.Sc6
set_option linter.unusedVariables false
set_option linter.unusedSimpArgs false

def rbL (c : Cfg) (is : Bool) (ix : Int) (lv dn : Value) (ms : List Int) : List Value := [.int .i64 c.floors, .int .i64 c.cars, .int .i64 c.seats, .int .i64 c.calls, .int .i64 c.lines, .int .i64 c.keys, .int .i64 c.window, .int .i64 c.burst, .int .i64 c.rate, .int .i64 c.idle, .int .i64 c.inn, .int .i64 c.out, .int .i64 c.feed, .int .i64 c.retries, .int .i64 c.life, .int .i64 c.door, .int .i64 c.holds, .int .u32 c.secret, .bool is, .int .i64 ix, lv, dn, .int .i64 (ms.getD 0 0), .int .i64 (ms.getD 1 0), .int .i64 (ms.getD 2 0), .int .i64 (ms.getD 3 0)]
def rbA (c : Cfg) (is : Bool) (ix : Int) (lv dn : Value) (ms : List Int) : Array Value := #[.int .i64 c.floors, .int .i64 c.cars, .int .i64 c.seats, .int .i64 c.calls, .int .i64 c.lines, .int .i64 c.keys, .int .i64 c.window, .int .i64 c.burst, .int .i64 c.rate, .int .i64 c.idle, .int .i64 c.inn, .int .i64 c.out, .int .i64 c.feed, .int .i64 c.retries, .int .i64 c.life, .int .i64 c.door, .int .i64 c.holds, .int .u32 c.secret, .bool is, .int .i64 ix, lv, dn, .int .i64 (ms.getD 0 0), .int .i64 (ms.getD 1 0), .int .i64 (ms.getD 2 0), .int .i64 (ms.getD 3 0)]
/-- the reference's book -/
structure RBook where
  c : Cfg
  is : Bool
  index : Int
  live : List CallV
  done : List CallV
  modes : List Int
def zeroR : RBook := ⟨zeroF, false, 0, [], [], [0, 0, 0, 0]⟩
def findR (u : RBook) (id : Int) : CallV × Bool := match u.live.find? (fun x => x.id == id) with | some x => (x, true) | none => (match u.done.find? (fun x => x.id == id) with | some x => (x, true) | none => (zeroC, false))
def keep1 (x y : CallV) : List CallV := bif y.id != x.id then [y] else bif decide (x.state < 4) then [x] else []
def keepL (l : List CallV) (x : CallV) : List CallV := l.flatMap (keep1 x)
def wasL (l : List CallV) (x : CallV) : Bool := l.any fun y => !(y.id != x.id)
def nextR (u : RBook) (x : CallV) : RBook × ChgV × Int :=
  bif decide (1073741824 ≤ u.index) then (zeroR, zeroCh, 5)
  else bif decide (3 < x.state) then (⟨u.c, u.is, u.index + 1, keepL u.live x, bif decide (u.c.calls < (((([] : List CallV) ++ u.done) ++ [x]).length : Int)) then ((([] : List CallV) ++ u.done) ++ [x]).drop 1 else ((([] : List CallV) ++ u.done) ++ [x]), u.modes⟩, ⟨u.index + 1, x, 0, 0⟩, 0)
  else bif !(wasL u.live x) then (bif decide (u.c.calls ≤ ((keepL u.live x).length : Int)) then (zeroR, zeroCh, 5) else (⟨u.c, u.is, u.index + 1, keepL u.live x ++ [x], u.done, u.modes⟩, ⟨u.index + 1, x, 0, 0⟩, 0))
  else (⟨u.c, u.is, u.index + 1, keepL u.live x, u.done, u.modes⟩, ⟨u.index + 1, x, 0, 0⟩, 0)
def placeR (u : RBook) (x : CallV) (owner now : Int) : RBook × ChgV × Int :=
  bif checkCallV u.c x != 0 then (zeroR, zeroCh, checkCallV u.c x)
  else bif ((decide (owner < 1) || decide (1073741824 < owner)) || decide (now < 0)) || decide (1073741824 < now) then (zeroR, zeroCh, 1)
  else nextR u ⟨u.index + 1, x.kind, x.src, x.dst, x.car, 1, owner, now⟩
def cancelR (u : RBook) (id owner : Int) : RBook × ChgV × Int :=
  bif !u.is then (zeroR, zeroCh, 3) else bif !((findR u id).2) then (zeroR, zeroCh, 6) else bif (findR u id).1.owner != owner then (zeroR, zeroCh, 8)
  else bif ((findR u id).1.state != 1) && ((findR u id).1.state != 2) then (zeroR, zeroCh, 7)
  else nextR u ⟨(findR u id).1.id, (findR u id).1.kind, (findR u id).1.src, (findR u id).1.dst, (findR u id).1.car, 5, (findR u id).1.owner, (findR u id).1.born⟩
def setR (u : RBook) (car mode : Int) : RBook × ChgV × Int :=
  bif !u.is then (zeroR, zeroCh, 3) else bif (decide (car < 1) || decide (u.c.cars < car)) || ((mode != 1) && (mode != 2)) then (zeroR, zeroCh, 1) else bif decide (1073741824 ≤ u.index) then (zeroR, zeroCh, 5)
  else (⟨u.c, u.is, u.index + 1, u.live, u.done, u.modes.set (car - 1).toNat mode⟩, ⟨u.index + 1, zeroC, car, mode⟩, 0)
theorem keep_yes {x y : CallV} (q : (y.id != x.id) = true) : keep1 x y = [y] := by unfold keep1; rw [q]; rfl
theorem keep_set {x y : CallV} (q : (y.id != x.id) = false) (q2 : decide (x.state < 4) = true) : keep1 x y = [x] := by unfold keep1; rw [q, q2]; rfl
theorem keep_not {x y : CallV} (q : (y.id != x.id) = false) (q2 : decide (x.state < 4) = false) : keep1 x y = [] := by unfold keep1; rw [q, q2]; rfl
end Go.Proofs.Ytnanihffljpdbaa.Bk
