/- A region that draws, whose last operations wait for all ahead of them, with the memory as one hypothesis. -/
import Derived.Test.YtnanihffljpdbaaProg
import Derived.Below
import Derived.WalkKit
import Derived.KernelRfl
import Derived.RowKit3
import Derived.Deep.LoopGhost
import Derived.Deep.QuietTactic
import Derived.BigQuiet
import Derived.WideLaws
import Derived.Deep.DeepCutAuto
import Derived.Deep.CutBlock
import Derived.Lib.Hide
import Derived.Laws.BitsLemmas
import Derived.Laws.Bits64
import Derived.Laws.BitsAllLaws
import Derived.IntWalk
import Derived.Outline
import Derived.WalkSpells
import Derived.Test.YtnanihffljpdbaaMem
import Derived.Test.YtnanihffljpdbaaInv4
import Derived.Test.YtnanihffljpdbaaHpF
import Derived.Test.YtnanihffljpdbaaSl
namespace Go.Proofs.Ytnanihffljpdbaa.Mem
set_option linter.unusedVariables false
set_option linter.unusedSimpArgs false
open Go.RowKit
section
variable {P : Program} {ops pre : Array Oper} {Q : Exit → Act → World → Prop} {S : List Nat} {w0 w w' : World} {R : List Res} {a : Option Addr} {c k : Nat} {rows : List (List Value)}
end
end Go.Proofs.Ytnanihffljpdbaa.Mem
