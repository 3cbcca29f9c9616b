/- Delete of slices of pairs, at one instance. -/
import Derived.Test.YtfhhfmkfkoemjaaProg
import Derived.Below
import Derived.WalkKit
import Derived.KernelRfl
import Derived.RowKit3
import Derived.Deep.LoopGhost
import Derived.Deep.QuietTactic
import Derived.BigQuiet
import Derived.WideLaws
import Derived.Deep.DeepCutAuto
import Derived.Deep.CutBlock
import Derived.Lib.Hide
import Derived.Laws.BitsLemmas
import Derived.Laws.Bits64
import Derived.Laws.BitsAllLaws
import Derived.IntWalk
import Derived.Outline
import Derived.WalkSpells
import Derived.Test.YtfhhfmkfkoemjaaMem
import Derived.Test.YtfhhfmkfkoemjaaSeIns
namespace Go.Proofs.Ytfhhfmkfkoemjaa.Se6
set_option linter.unusedVariables false
set_option linter.unusedSimpArgs false
open Go.RowKit Go.Proofs.Ytfhhfmkfkoemjaa.Mem


theorem zer : ∃ z : Value, (∀ w, (zeroValue 154).run Try.prog w = .ok z w) ∧ z.cells.size = 4 ∧ ∀ n, ∀ v ∈ (Builtin.zeroCells z.cells n).toList, v.oneCell' = true := by
  refine ⟨.agg #[.string ⟨#[]⟩, .int .i64 0, .string ⟨#[]⟩, .string ⟨#[]⟩], fun w => by go_simp, by decide, fun n v hv => ?_⟩
  obtain ⟨i, hi, rfl⟩ := List.getElem_of_mem hv
  simp [Builtin.zeroCells, Value.cells]
  have : i % 4 < 4 := Nat.mod_lt _ (by decide)
  generalize i % 4 = j at this ⊢
  match j, this with
  | 0, _ => rfl
  | 1, _ => rfl
  | 2, _ => rfl
  | 3, _ => rfl
end Go.Proofs.Ytfhhfmkfkoemjaa.Se6
