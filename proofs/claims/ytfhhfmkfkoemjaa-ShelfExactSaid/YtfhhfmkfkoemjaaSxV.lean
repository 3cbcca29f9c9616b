/- Layer 6: ShelfExact, of what a row hands in. -/
import Derived.Test.YtfhhfmkfkoemjaaProg
import Derived.Below
import Derived.WalkKit
import Derived.KernelRfl
import Derived.RowKit3
import Derived.Deep.LoopGhost
import Derived.Deep.QuietTactic
import Derived.BigQuiet
import Derived.WideLaws
import Derived.Deep.DeepCutAuto
import Derived.Deep.CutBlock
import Derived.Lib.Hide
import Derived.Laws.BitsLemmas
import Derived.Laws.Bits64
import Derived.Laws.BitsAllLaws
import Derived.IntWalk
import Derived.Outline
import Derived.WalkSpells
import Derived.Test.YtfhhfmkfkoemjaaMem
import Derived.Test.YtfhhfmkfkoemjaaLwShelfExact
import Derived.Test.YtfhhfmkfkoemjaaOpenS6
namespace Go.Proofs.Ytfhhfmkfkoemjaa.Si6
set_option linter.unusedVariables false
set_option linter.unusedSimpArgs false
open Go.RowKit Go.Proofs.Ytfhhfmkfkoemjaa.Mem
theorem shelfExact (n : Int) (ra : Option Addr) (rl rc : Nat) (acts : List ActV) (w : World) (_ : (Lit.int .i64 n).wf = true) (wa : ActsIn w ra rl rc acts) :
    Calls Try.prog 8 #[.int .i64 n, .slice ra rl rc] w fun e w' => e = .returned (.bool true) ∧ Below w.heap.size w w' := by
  obtain ⟨rfl, h1, _⟩ := wa
  refine (exact6_w n ra rc acts w h1).mono ?_
  rintro e w' ⟨rfl, ho⟩
  exact ⟨rfl, ho.to_below⟩
end Go.Proofs.Ytfhhfmkfkoemjaa.Si6
