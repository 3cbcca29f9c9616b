/- Layer 9: deeds. -/
import Derived.Test.YtnanihffljpdbaaProg
import Derived.Below
import Derived.WalkKit
import Derived.KernelRfl
import Derived.RowKit3
import Derived.Deep.LoopGhost
import Derived.Deep.QuietTactic
import Derived.BigQuiet
import Derived.WideLaws
import Derived.Deep.DeepCutAuto
import Derived.Deep.CutBlock
import Derived.Lib.Hide
import Derived.Laws.BitsLemmas
import Derived.Laws.Bits64
import Derived.Laws.BitsAllLaws
import Derived.IntWalk
import Derived.Outline
import Derived.WalkSpells
import Derived.Test.YtnanihffljpdbaaGA
import Derived.Test.YtnanihffljpdbaaBq2
import Derived.Test.YtnanihffljpdbaaWk2
namespace Go.Proofs.Ytnanihffljpdbaa.Bk
open Go.RowKit Go.Proofs.Ytnanihffljpdbaa.Mem Go.Proofs.Ytnanihffljpdbaa.Reg Go.Proofs.Ytnanihffljpdbaa.Wk Go.Proofs.Ytnanihffljpdbaa.Si Go.Proofs.Ytnanihffljpdbaa.Ca Go.Proofs.Ytnanihffljpdbaa.Sc6
set_option linter.unusedVariables false
set_option linter.unusedSimpArgs false


structure DeedV where
  kind : Int
  x : CallV
  n : Int
  m : Int
  ch : ChgV
def deedRow (x : DeedV) : List Value := [.int .i64 x.kind, .int .i64 x.x.id, .int .i64 x.x.kind, .int .i64 x.x.src, .int .i64 x.x.dst, .int .i64 x.x.car, .int .i64 x.x.state, .int .i64 x.x.owner, .int .i64 x.x.born, .int .i64 x.n, .int .i64 x.m, .int .i64 x.ch.index, .int .i64 x.ch.call.id, .int .i64 x.ch.call.kind, .int .i64 x.ch.call.src, .int .i64 x.ch.call.dst, .int .i64 x.ch.call.car, .int .i64 x.ch.call.state, .int .i64 x.ch.call.owner, .int .i64 x.ch.call.born, .int .i64 x.ch.car, .int .i64 x.ch.mode]
section
variable {b : BookV} {x : CallV}
theorem next_ix (h : 0 ≤ b.index) : (nextV b x).1.index ≤ b.index + 1 := by
  have hz : zeroB.index ≤ b.index + 1 := by show (0 : Int) ≤ b.index + 1; omega
  unfold nextV
  cases decide (1073741824 ≤ b.index) with
  | true => exact hz
  | false =>
    cases livesV x with
    | false => exact Int.le_refl _
    | true =>
      cases (withV b.room x.id x b.live).2 with
      | false => exact hz
      | true => exact Int.le_refl _
theorem place_ix (h : 0 ≤ b.index) (owner now : Int) : (placeV b x owner now).1.index ≤ b.index + 1 := by
  have hz : zeroB.index ≤ b.index + 1 := by show (0 : Int) ≤ b.index + 1; omega
  unfold placeV
  cases ((newCV b.conf x (min (b.index + 1) 1073741824) owner now).2 != 0) with
  | true => exact hz
  | false => exact next_ix h
theorem cancel_ix (h : 0 ≤ b.index) (id owner : Int) : (cancelBV b id owner).1.index ≤ b.index + 1 := by
  have hz : zeroB.index ≤ b.index + 1 := by show (0 : Int) ≤ b.index + 1; omega
  unfold cancelBV
  cases (b.room == 0) with
  | true => exact hz
  | false =>
    cases (!(findV b id).2) with
    | true => exact hz
    | false =>
      cases ((findV b id).1.owner != owner) with
      | true => exact hz
      | false =>
        cases ((cancelV (findV b id).1).2 != 0) with
        | true => exact hz
        | false => exact next_ix h
theorem set_ix (h : 0 ≤ b.index) (car mode : Int) : (setV b car mode).1.index ≤ b.index + 1 := by
  have hz : zeroB.index ≤ b.index + 1 := by show (0 : Int) ≤ b.index + 1; omega
  unfold setV
  cases (b.room == 0) with
  | true => exact hz
  | false =>
    cases ((!(carV b.conf car)) || ((mode != 1) && (mode != 2))) with
    | true => exact hz
    | false =>
      cases decide (1073741824 ≤ b.index) with
      | true => exact hz
      | false => exact Int.le_refl _
theorem apply_ix (h : 0 ≤ b.index) (ch : ChgV) : (applyV b ch).1.index ≤ b.index + 1 := by
  have hz : zeroB.index ≤ b.index + 1 := by show (0 : Int) ≤ b.index + 1; omega
  unfold applyV
  cases (b.room == 0) with
  | true => exact hz
  | false =>
    cases decide (ch.call = ⟨0, 0, 0, 0, 0, 0, 0, 0⟩) with
    | true =>
      cases ((IntKind.i64.wrap (ch.index - 1)) != b.index) with
      | true => exact hz
      | false => exact set_ix h _ _
    | false =>
      cases ((((IntKind.i64.wrap (ch.index - 1)) != b.index) || (ch.car != 0)) || (ch.mode != 0)) || !(isNextV b ch.call) with
      | true => exact hz
      | false => exact next_ix h
end
theorem tyhoistwaylaw09_Deed : TyI Try.prog 42 22 true [.int .i64 0, .int .i64 0, .int .i64 0, .int .i64 0, .int .i64 0, .int .i64 0, .int .i64 0, .int .i64 0, .int .i64 0, .int .i64 0, .int .i64 0, .int .i64 0, .int .i64 0, .int .i64 0, .int .i64 0, .int .i64 0, .int .i64 0, .int .i64 0, .int .i64 0, .int .i64 0, .int .i64 0, .int .i64 0] := ⟨by kernel_rfl, by kernel_rfl, by kernel_rfl⟩
theorem new_ix (c : Cfg) : (newB c).index = 0 := by
  unfold newB
  cases (checkV c != 0) <;> rfl
end Go.Proofs.Ytnanihffljpdbaa.Bk
