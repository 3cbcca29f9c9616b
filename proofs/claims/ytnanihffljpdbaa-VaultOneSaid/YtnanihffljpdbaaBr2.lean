/- Layer 9: the reference. -/
import Derived.Test.YtnanihffljpdbaaProg
import Derived.Below
import Derived.WalkKit
import Derived.KernelRfl
import Derived.RowKit3
import Derived.Deep.LoopGhost
import Derived.Deep.QuietTactic
import Derived.BigQuiet
import Derived.WideLaws
import Derived.Deep.DeepCutAuto
import Derived.Deep.CutBlock
import Derived.Lib.Hide
import Derived.Laws.BitsLemmas
import Derived.Laws.Bits64
import Derived.Laws.BitsAllLaws
import Derived.IntWalk
import Derived.Outline
import Derived.WalkSpells
import Derived.Test.YtnanihffljpdbaaGA
import Derived.Test.YtnanihffljpdbaaBr1
import Derived.Test.YtnanihffljpdbaaBk2
namespace Go.Proofs.Ytnanihffljpdbaa.Bk
open Go.RowKit Go.Proofs.Ytnanihffljpdbaa.Mem Go.Proofs.Ytnanihffljpdbaa.Reg Go.Proofs.Ytnanihffljpdbaa.Wk Go.Proofs.Ytnanihffljpdbaa.Si Go.Proofs.Ytnanihffljpdbaa.Ca Go.Proofs.Ytnanihffljpdbaa.Sc6
set_option linter.unusedVariables false
set_option linter.unusedSimpArgs false

def rbL (c : Cfg) (is : Bool) (ix : Int) (lv dn : Value) (ms : List Int) : List Value := [.int .i64 c.floors, .int .i64 c.cars, .int .i64 c.seats, .int .i64 c.calls, .int .i64 c.lines, .int .i64 c.keys, .int .i64 c.window, .int .i64 c.burst, .int .i64 c.rate, .int .i64 c.idle, .int .i64 c.inn, .int .i64 c.out, .int .i64 c.feed, .int .i64 c.retries, .int .i64 c.life, .int .i64 c.door, .int .i64 c.holds, .int .u32 c.secret, .bool is, .int .i64 ix, lv, dn, .int .i64 (ms.getD 0 0), .int .i64 (ms.getD 1 0), .int .i64 (ms.getD 2 0), .int .i64 (ms.getD 3 0)]
def rbA (c : Cfg) (is : Bool) (ix : Int) (lv dn : Value) (ms : List Int) : Array Value := #[.int .i64 c.floors, .int .i64 c.cars, .int .i64 c.seats, .int .i64 c.calls, .int .i64 c.lines, .int .i64 c.keys, .int .i64 c.window, .int .i64 c.burst, .int .i64 c.rate, .int .i64 c.idle, .int .i64 c.inn, .int .i64 c.out, .int .i64 c.feed, .int .i64 c.retries, .int .i64 c.life, .int .i64 c.door, .int .i64 c.holds, .int .u32 c.secret, .bool is, .int .i64 ix, lv, dn, .int .i64 (ms.getD 0 0), .int .i64 (ms.getD 1 0), .int .i64 (ms.getD 2 0), .int .i64 (ms.getD 3 0)]
/-- the reference's book -/
structure RBook where
  c : Cfg
  is : Bool
  index : Int
  live : List CallV
  done : List CallV
  modes : List Int
structure OkR (u : RBook) : Prop where
  live : u.live.length ≤ 1000
  done : u.done.length ≤ 1000
  modes : u.modes.length = 4
  index : 0 ≤ u.index ∧ u.index ≤ 1073741824
  cars : u.c.cars ≤ 4
def GivesR (w w' : World) (Rs : List Res) (la : Option Addr) (lc : Nat) (da : Option Addr) (dc : Nat) (u : RBook) : Prop := (rS la lc 8 (u.live.map callRow)).holds w' ∧ (rS da dc 8 (u.done.map callRow)).holds w' ∧ From w Rs (rS la lc 8 (u.live.map callRow)).foot ∧ From w Rs (rS da dc 8 (u.done.map callRow)).foot ∧ Off [] w w'
def zeroR : RBook := ⟨zeroF, false, 0, [], [], [0, 0, 0, 0]⟩
def newR9 (c : Cfg) : RBook := bif !(checkV c == 0) then zeroR else ⟨c, true, 0, [], [], newModes c.cars⟩
def findR (u : RBook) (id : Int) : CallV × Bool := match u.live.find? (fun x => x.id == id) with | some x => (x, true) | none => (match u.done.find? (fun x => x.id == id) with | some x => (x, true) | none => (zeroC, false))
def keep1 (x y : CallV) : List CallV := bif y.id != x.id then [y] else bif decide (x.state < 4) then [x] else []
def keepL (l : List CallV) (x : CallV) : List CallV := l.flatMap (keep1 x)
def wasL (l : List CallV) (x : CallV) : Bool := l.any fun y => !(y.id != x.id)
def nextR (u : RBook) (x : CallV) : RBook × ChgV × Int :=
  bif decide (1073741824 ≤ u.index) then (zeroR, zeroCh, 5)
  else bif decide (3 < x.state) then (⟨u.c, u.is, u.index + 1, keepL u.live x, bif decide (u.c.calls < (((([] : List CallV) ++ u.done) ++ [x]).length : Int)) then ((([] : List CallV) ++ u.done) ++ [x]).drop 1 else ((([] : List CallV) ++ u.done) ++ [x]), u.modes⟩, ⟨u.index + 1, x, 0, 0⟩, 0)
  else bif !(wasL u.live x) then (bif decide (u.c.calls ≤ ((keepL u.live x).length : Int)) then (zeroR, zeroCh, 5) else (⟨u.c, u.is, u.index + 1, keepL u.live x ++ [x], u.done, u.modes⟩, ⟨u.index + 1, x, 0, 0⟩, 0))
  else (⟨u.c, u.is, u.index + 1, keepL u.live x, u.done, u.modes⟩, ⟨u.index + 1, x, 0, 0⟩, 0)
def placeR (u : RBook) (x : CallV) (owner now : Int) : RBook × ChgV × Int :=
  bif checkCallV u.c x != 0 then (zeroR, zeroCh, checkCallV u.c x)
  else bif ((decide (owner < 1) || decide (1073741824 < owner)) || decide (now < 0)) || decide (1073741824 < now) then (zeroR, zeroCh, 1)
  else nextR u ⟨u.index + 1, x.kind, x.src, x.dst, x.car, 1, owner, now⟩
def cancelR (u : RBook) (id owner : Int) : RBook × ChgV × Int :=
  bif !u.is then (zeroR, zeroCh, 3) else bif !((findR u id).2) then (zeroR, zeroCh, 6) else bif (findR u id).1.owner != owner then (zeroR, zeroCh, 8)
  else bif ((findR u id).1.state != 1) && ((findR u id).1.state != 2) then (zeroR, zeroCh, 7)
  else nextR u ⟨(findR u id).1.id, (findR u id).1.kind, (findR u id).1.src, (findR u id).1.dst, (findR u id).1.car, 5, (findR u id).1.owner, (findR u id).1.born⟩
def setR (u : RBook) (car mode : Int) : RBook × ChgV × Int :=
  bif !u.is then (zeroR, zeroCh, 3) else bif (decide (car < 1) || decide (u.c.cars < car)) || ((mode != 1) && (mode != 2)) then (zeroR, zeroCh, 1) else bif decide (1073741824 ≤ u.index) then (zeroR, zeroCh, 5)
  else (⟨u.c, u.is, u.index + 1, u.live, u.done, u.modes.set (car - 1).toNat mode⟩, ⟨u.index + 1, zeroC, car, mode⟩, 0)
def applyR (u : RBook) (ch : ChgV) : RBook × Int :=
  bif !u.is then (zeroR, 3)
  else bif decide (ch.index < 1) || ((IntKind.i64.wrap (ch.index - 1)) != u.index) then (zeroR, 1)
  else bif decide (ch.call = ⟨0, 0, 0, 0, 0, 0, 0, 0⟩) then ((setR u ch.car ch.mode).1, (setR u ch.car ch.mode).2.2)
  else bif (ch.car != 0) || (ch.mode != 0) then (zeroR, 1)
  else match u.live.find? (fun x => x.id == ch.call.id) with
    | some z => bif !(mayV u.c z ch.call) then (zeroR, 1) else ((nextR u ch.call).1, (nextR u ch.call).2.2)
    | none => bif ((((((ch.call.id != ch.index) || (ch.call.state != 1)) || (checkCallV u.c ⟨0, ch.call.kind, ch.call.src, ch.call.dst, ch.call.car, 0, 0, 0⟩ != 0)) || decide (ch.call.owner < 1)) || decide (1073741824 < ch.call.owner)) || decide (ch.call.born < 0)) || decide (1073741824 < ch.call.born) then (zeroR, 1) else ((nextR u ch.call).1, (nextR u ch.call).2.2)
theorem fd_stop {l : List CallV} {i : Nat} {x : CallV} {id : Int} (h : ∀ k, k < i → ∀ y, l[k]? = some y → (y.id == id) = false) (hx : l[i]? = some x) (he : (x.id == id) = true) : l.find? (fun y => y.id == id) = some x := by
  rw [List.find?_eq_some_iff_getElem]
  obtain ⟨hi, rfl⟩ := List.getElem?_eq_some_iff.1 hx
  exact ⟨he, i, hi, rfl, fun j hj => by simp [h j hj _ (List.getElem?_eq_getElem (by omega))]⟩
theorem fd_end {l : List CallV} {id : Int} (h : ∀ k, k < l.length → ∀ y, l[k]? = some y → (y.id == id) = false) : l.find? (fun y => y.id == id) = none := by
  rw [List.find?_eq_none]
  intro x hx
  obtain ⟨k, hk, rfl⟩ := List.getElem_of_mem hx
  simp [h k hk _ (List.getElem?_eq_getElem hk)]
theorem find_lv {u : RBook} {id : Int} {x : CallV} (h : u.live.find? (fun y => y.id == id) = some x) : findR u id = (x, true) := by unfold findR; rw [h]
theorem find_dn {u : RBook} {id : Int} {x : CallV} (h : u.live.find? (fun y => y.id == id) = none) (h2 : u.done.find? (fun y => y.id == id) = some x) : findR u id = (x, true) := by unfold findR; rw [h, h2]
theorem find_no {u : RBook} {id : Int} (h : u.live.find? (fun y => y.id == id) = none) (h2 : u.done.find? (fun y => y.id == id) = none) : findR u id = (zeroC, false) := by unfold findR; rw [h, h2]
theorem keep_len (l : List CallV) (x : CallV) : (keepL l x).length ≤ l.length := by
  induction l with
  | nil => simp [keepL]
  | cons y l ih =>
    unfold keepL at ih ⊢
    rw [List.flatMap_cons, List.length_append, List.length_cons]
    have : (keep1 x y).length ≤ 1 := by unfold keep1; cases (y.id != x.id) <;> cases (decide (x.state < 4)) <;> simp
    omega
theorem keep_next {l ys : List CallV} {x y : CallV} {i : Nat} (h : ys = keepL (l.take i) x) (hy : l[i]? = some y) : ys ++ keep1 x y = keepL (l.take (i + 1)) x := by
  rw [h, List.take_add_one, hy]
  simp [keepL]
theorem keep_yes {x y : CallV} (q : (y.id != x.id) = true) : keep1 x y = [y] := by unfold keep1; rw [q]; rfl
theorem keep_set {x y : CallV} (q : (y.id != x.id) = false) (q2 : decide (x.state < 4) = true) : keep1 x y = [x] := by unfold keep1; rw [q, q2]; rfl
theorem keep_not {x y : CallV} (q : (y.id != x.id) = false) (q2 : decide (x.state < 4) = false) : keep1 x y = [] := by unfold keep1; rw [q, q2]; rfl
theorem was_next {l : List CallV} {x y : CallV} {i : Nat} {b : Bool} (h : b = wasL (l.take i) x) (hy : l[i]? = some y) : (b || !(y.id != x.id)) = wasL (l.take (i + 1)) x := by
  rw [h, List.take_add_one, hy]
  simp [wasL]
end Go.Proofs.Ytnanihffljpdbaa.Bk
