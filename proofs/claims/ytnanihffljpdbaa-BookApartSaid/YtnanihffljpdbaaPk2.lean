/- Contracts of the functions of layer 2 that write. -/
import Derived.Test.YtnanihffljpdbaaProg
import Derived.Below
import Derived.WalkKit
import Derived.KernelRfl
import Derived.RowKit3
import Derived.Deep.LoopGhost
import Derived.Deep.QuietTactic
import Derived.BigQuiet
import Derived.WideLaws
import Derived.Deep.DeepCutAuto
import Derived.Deep.CutBlock
import Derived.Lib.Hide
import Derived.Laws.BitsLemmas
import Derived.Laws.Bits64
import Derived.Laws.BitsAllLaws
import Derived.IntWalk
import Derived.Outline
import Derived.WalkSpells
import Derived.Test.YtnanihffljpdbaaMem
import Derived.OwnWalk
import Derived.Deep.AppendLies
import Derived.Lib.AppendStr
import Derived.Laws.BytesArg
import Derived.Test.YtnanihffljpdbaaPk1
namespace Go.Proofs.Ytnanihffljpdbaa.Pk
set_option linter.unusedVariables false
set_option linter.unusedSimpArgs false
open Go.RowKit Go.Proofs.Ytnanihffljpdbaa.Mem

/-- a slice goes on in its own block, or in a new one -/
def Goes (w : World) (v v' : Value) : Prop := v'.ownBlock = v.ownBlock ∨ ∃ k, v'.ownBlock = some k ∧ w.heap.size ≤ k
theorem Goes.refl (w : World) (v : Value) : Goes w v v := .inl rfl
theorem Goes.trans {w w1 : World} {v v1 v2 : Value} (h : Goes w v v1) (h' : Goes w1 v1 v2) (hs : w.heap.size ≤ w1.heap.size) : Goes w v v2 := by
  rcases h' with h' | ⟨k, hk, hk2⟩
  · rcases h with h | ⟨k, hk, hk2⟩
    · exact .inl (h'.trans h)
    · exact .inr ⟨k, h'.trans hk, hk2⟩
  · exact .inr ⟨k, hk, Nat.le_trans hs hk2⟩
end Go.Proofs.Ytnanihffljpdbaa.Pk
