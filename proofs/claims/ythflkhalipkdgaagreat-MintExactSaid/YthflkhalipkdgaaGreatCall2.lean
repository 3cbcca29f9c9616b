/- Contracts of layer 8: whether a call can be asked. -/
import Derived.Test.YthflkhalipkdgaaGreatProg
import Derived.Below
import Derived.WalkKit
import Derived.KernelRfl
import Derived.RowKit3
import Derived.Deep.LoopGhost
import Derived.Deep.QuietTactic
import Derived.BigQuiet
import Derived.WideLaws
import Derived.Deep.DeepCutAuto
import Derived.Deep.CutBlock
import Derived.Lib.Hide
import Derived.Laws.BitsLemmas
import Derived.Laws.Bits64
import Derived.Laws.BitsAllLaws
import Derived.IntWalk
import Derived.Outline
import Derived.WalkSpells
import Derived.Test.YthflkhalipkdgaaGreatGA
import Derived.Test.YthflkhalipkdgaaGreatCall1
namespace Go.Proofs.YthflkhalipkdgaaGreat.Ca
set_option maxRecDepth 20000
set_option linter.unusedVariables false
set_option linter.unusedSimpArgs false
open Go.RowKit Go.Proofs.YthflkhalipkdgaaGreat.Mem Go.Proofs.YthflkhalipkdgaaGreat.Si

def checkCallV (c : Cfg) (x : CallV) : Int :=
  if (checkV c != 0) = true then 3 else if (x.id != 0 || x.state != 0 || x.owner != 0 || x.born != 0 || !askV c x) = true then 1 else 0
end Go.Proofs.YthflkhalipkdgaaGreat.Ca
