/- A region that draws, with one operation that changes the world for all (a store, the last append), and operations that may come behind it: each operation once. -/
import Derived.Test.YtnanihffljpdbaaProg
import Derived.Below
import Derived.WalkKit
import Derived.KernelRfl
import Derived.RowKit3
import Derived.Deep.LoopGhost
import Derived.Deep.QuietTactic
import Derived.BigQuiet
import Derived.WideLaws
import Derived.Deep.DeepCutAuto
import Derived.Deep.CutBlock
import Derived.Lib.Hide
import Derived.Laws.BitsLemmas
import Derived.Laws.Bits64
import Derived.Laws.BitsAllLaws
import Derived.IntWalk
import Derived.Outline
import Derived.WalkSpells
import Derived.Test.YtnanihffljpdbaaMem
import Derived.Test.YtnanihffljpdbaaInv4
namespace Go.Proofs.Ytnanihffljpdbaa.Inv
set_option linter.unusedVariables false
set_option linter.unusedSimpArgs false
open Go.RowKit
section
variable {P : Program} {ops : Array Oper} {Q : Exit → Act → World → Prop}
theorem slot_other {a : Act} {o : Oper} {i j : Nat} {v : Value} (ho : ops[i]? = some o) (hi : i < ops.size) (hj : j < ops.size) (hji : j ≠ i) (hdd : distinctDst ops = true) : slotv ops (a.put o.dst v) j = slotv ops a j := by
  have hdi : dstAt ops i = o.dst := by simp [dstAt, ho]
  unfold slotv
  cases hd : dstAt ops j with
  | none => rfl
  | some d =>
    refine put_getD _ _ _ _ ?_
    rw [← hdi]
    have h3 := List.all_eq_true.1 (List.all_eq_true.1 hdd i (by simpa using hi)) j (by simpa using hj)
    simp only [Bool.or_eq_true, beq_iff_eq, bne_iff_ne, ne_eq] at h3
    rcases h3 with (h3 | h3) | h3
    · exact absurd h3.symm hji
    · rw [h3]; simp
    · intro e; rw [e, hd] at h3; exact h3 rfl
theorem slot_self {a : Act} {o : Oper} {i d : Nat} {v : Value} (ho : ops[i]? = some o) (hd : o.dst = some d) (hlt : d < a.tmps.size) : slotv ops (a.put o.dst v) i = v := by
  have hdi : dstAt ops i = o.dst := by simp [dstAt, ho]
  unfold slotv
  rw [hdi, hd]
  simp [Act.put, Array.getD_eq_getD_getElem?, hlt]
theorem slot_none {a : Act} {o : Oper} {i : Nat} (ho : ops[i]? = some o) (hd : o.dst = none) : slotv ops a i = undef := by
  have hdi : dstAt ops i = o.dst := by simp [dstAt, ho]
  unfold slotv
  rw [hdi, hd]
end
end Go.Proofs.Ytnanihffljpdbaa.Inv
