/- A region that draws, whose last operations wait for all that stand ahead of them: the first part in whatever order, each operation once; the last part as a list. -/
import Derived.Test.YtnanihffljpdbaaProg
import Derived.Below
import Derived.WalkKit
import Derived.KernelRfl
import Derived.RowKit3
import Derived.Deep.LoopGhost
import Derived.Deep.QuietTactic
import Derived.BigQuiet
import Derived.WideLaws
import Derived.Deep.DeepCutAuto
import Derived.Deep.CutBlock
import Derived.Lib.Hide
import Derived.Laws.BitsLemmas
import Derived.Laws.Bits64
import Derived.Laws.BitsAllLaws
import Derived.IntWalk
import Derived.Outline
import Derived.WalkSpells
import Derived.Test.YtnanihffljpdbaaMem
import Derived.Test.YtnanihffljpdbaaInv3
namespace Go.Proofs.Ytnanihffljpdbaa.Inv
set_option linter.unusedVariables false
set_option linter.unusedSimpArgs false
open Go.RowKit
section
variable {P : Program} {ops pre : Array Oper} {Q : Exit → Act → World → Prop}
theorem ready_dep {listed : Array Bool} {i : Nat} {o : Oper} (ho : ops[i]? = some o) (hi : i ∈ Region.ready .any ops listed) {e : Edge} (he : e ∈ o.after) (hbe : Region.binds .any e = true) : listed.getD e.on false = true := by
  have hi2 := (List.mem_filter.1 hi).2
  rw [ho] at hi2
  simp only [Option.map_some, Option.getD_some, Bool.and_eq_true] at hi2
  have h1 := Array.all_eq_true_iff_forall_mem.1 hi2.2 e he
  rw [hbe] at h1
  simpa using h1
theorem set_getD (listed : Array Bool) (i j : Nat) (hi : i < listed.size) : (listed.setIfInBounds i true).getD j false = if i = j then true else listed.getD j false := by
  rw [Array.getD_eq_getD_getElem?, Array.getD_eq_getD_getElem?, Array.getElem?_setIfInBounds]
  split
  · rename_i h
    subst h
    simp [hi]
  · rfl
end
end Go.Proofs.Ytnanihffljpdbaa.Inv
