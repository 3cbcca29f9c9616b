/- A region that draws, in whatever order, with the memory as one hypothesis: each operation is walked once; its value is told ahead. -/
import Derived.Test.YtnanihffljpdbaaProg
import Derived.Below
import Derived.WalkKit
import Derived.KernelRfl
import Derived.RowKit3
import Derived.Deep.LoopGhost
import Derived.Deep.QuietTactic
import Derived.BigQuiet
import Derived.WideLaws
import Derived.Deep.DeepCutAuto
import Derived.Deep.CutBlock
import Derived.Lib.Hide
import Derived.Laws.BitsLemmas
import Derived.Laws.Bits64
import Derived.Laws.BitsAllLaws
import Derived.IntWalk
import Derived.Outline
import Derived.WalkSpells
import Derived.Test.YtnanihffljpdbaaMem
import Derived.Test.YtnanihffljpdbaaInv3
import Derived.Test.YtnanihffljpdbaaHp2
namespace Go.Proofs.Ytnanihffljpdbaa.Mem
set_option linter.unusedVariables false
set_option linter.unusedSimpArgs false
open Go.RowKit

theorem got_bool {xs : Array Value} {t : Nat} {b : Bool} (h : (xs[t]?).getD undef = .bool b) : xs[t]? = some (.bool b) := by
  cases hx : xs[t]? with
  | none =>
    rw [hx] at h
    exact absurd h (by simp [undef])
  | some v =>
    rw [hx] at h
    rw [show v = .bool b from h]
theorem yield_of {ops : Array Oper} {tmps : Array Value} {j d : Nat} {b : Bool} (hd : Inv.dstAt ops j = some d) (he : tmps.getD d undef = .bool b) : yielded ops tmps j = some b := by
  unfold Inv.dstAt at hd
  rw [Array.getD_eq_getD_getElem?] at he
  unfold yielded
  rw [hd]
  simp only [Option.bind_some, got_bool he]
section
variable {P : Program} {ops : Array Oper} {Q : Exit → Act → World → Prop} {S : List Nat} {w0 w : World} {R : List Res}
end
end Go.Proofs.Ytnanihffljpdbaa.Mem
