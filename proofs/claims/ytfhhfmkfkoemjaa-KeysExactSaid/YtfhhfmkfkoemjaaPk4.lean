/- Contracts of the functions of layer 2: numbers and texts that are read. -/
import Derived.Test.YtfhhfmkfkoemjaaProg
import Derived.Below
import Derived.WalkKit
import Derived.KernelRfl
import Derived.RowKit3
import Derived.Deep.LoopGhost
import Derived.Deep.QuietTactic
import Derived.BigQuiet
import Derived.WideLaws
import Derived.Deep.DeepCutAuto
import Derived.Deep.CutBlock
import Derived.Lib.Hide
import Derived.Laws.BitsLemmas
import Derived.Laws.Bits64
import Derived.Laws.BitsAllLaws
import Derived.IntWalk
import Derived.Outline
import Derived.WalkSpells
import Derived.Test.YtfhhfmkfkoemjaaMem
import Derived.Test.YtfhhfmkfkoemjaaPk1
namespace Go.Proofs.Ytfhhfmkfkoemjaa.Pk
set_option linter.unusedVariables false
set_option linter.unusedSimpArgs false
open Go.RowKit Go.Proofs.Ytfhhfmkfkoemjaa.Mem

/-- the next number: it, what is left, whether it is bad -/
def inNumV (s : ByteArray) (bad : Bool) (n : Int) : Nat × ByteArray × Bool :=
  if bad = false ∧ wide n = true ∧ n ≤ s.size ∧ be s n.toNat < 9223372036854775808 then (be s n.toNat, s.extract n.toNat s.size, false) else (0, s, true)
def inTextV (s : ByteArray) (bad : Bool) (most : Int) : ByteArray × ByteArray × Bool :=
  if bad = false ∧ 2 ≤ s.size ∧ (be s 2 : Int) ≤ most ∧ be s 2 + 2 ≤ s.size then (s.extract 2 (2 + be s 2), s.extract (2 + be s 2) s.size, false) else (⟨#[]⟩, s, true)

theorem wrap_small {n : Nat} (h : n < 9223372036854775808) : wrap64 (n : Int) = (n : Int) := by unfold wrap64; omega
theorem be2_lt (s : ByteArray) (h : 2 ≤ s.size) : be s 2 < 65536 := be_lt s 2 h
end Go.Proofs.Ytfhhfmkfkoemjaa.Pk
