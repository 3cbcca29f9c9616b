/- Layer 9, plain laws: a change, applied to the book that it comes of, makes the same book. -/
import Derived.Test.YtnanihffljpdbaaProg
import Derived.Below
import Derived.WalkKit
import Derived.KernelRfl
import Derived.RowKit3
import Derived.Deep.LoopGhost
import Derived.Deep.QuietTactic
import Derived.BigQuiet
import Derived.WideLaws
import Derived.Deep.DeepCutAuto
import Derived.Deep.CutBlock
import Derived.Lib.Hide
import Derived.Laws.BitsLemmas
import Derived.Laws.Bits64
import Derived.Laws.BitsAllLaws
import Derived.IntWalk
import Derived.Outline
import Derived.WalkSpells
import Derived.Test.YtnanihffljpdbaaMem
import Derived.Test.YtnanihffljpdbaaBd
namespace Go.Proofs.Ytnanihffljpdbaa.Bk
open Go.RowKit Go.Proofs.Ytnanihffljpdbaa.Mem Go.Proofs.Ytnanihffljpdbaa.Reg Go.Proofs.Ytnanihffljpdbaa.Si Go.Proofs.Ytnanihffljpdbaa.Ca Go.Proofs.Ytnanihffljpdbaa.Sc6
set_option linter.unusedVariables false
set_option linter.unusedSimpArgs false
section
variable {b : BookV} {x : CallV}
theorem live_len (b : BookV) : (liveV b).length = b.live.length := by unfold liveV; rw [List.length_map]
/-- what an error leaves; what none tells -/
def Told (b : BookV) (r : BookV × ChgV × Int) : Prop := (r.2.2 ≠ 0 → r.1 = zeroB ∧ r.2.1 = zeroCh) ∧ (r.2.2 = 0 → r.1.index = b.index + 1 ∧ r.2.1.index = b.index + 1)
theorem find_live_is (hI : InvB b) {id : Int} (h : (findV b id).2 = true) (hl : livesV (findV b id).1 = true) : getV id b.live = ((findV b id).1, true) ∧ (findV b id).1.id = id := by
  unfold findV at h hl ⊢
  cases e : (getV id b.live).2 with
  | true =>
    rw [e] at h hl
    simp only [cond_true]
    refine ⟨by rw [← e], ?_⟩
    have hi : isV id b.live = true := by rw [← get_is _ _ hI.ok.sorted]; exact e
    obtain ⟨A, v, B, e1, e2, _, _⟩ := is_split hI.ok.sorted hi
    rw [get_split e1 e2 hi]
    exact ((hI.key (id, v) (by rw [e1]; simp)).1).symm
  | false =>
    rw [e] at h hl
    simp only [cond_false] at h hl
    cases e2 : b.done[idxN b.done id]? with
    | none => rw [e2] at h; cases h
    | some y =>
      rw [e2] at hl
      rw [hI.done y (List.mem_of_getElem? e2)] at hl
      cases hl
end
end Go.Proofs.Ytnanihffljpdbaa.Bk
