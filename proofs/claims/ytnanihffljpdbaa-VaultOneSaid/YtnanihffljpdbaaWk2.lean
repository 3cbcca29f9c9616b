/- Parts of what memory holds, in any order. -/
import Derived.Test.YtnanihffljpdbaaProg
import Derived.Below
import Derived.WalkKit
import Derived.KernelRfl
import Derived.RowKit3
import Derived.Deep.LoopGhost
import Derived.Deep.QuietTactic
import Derived.BigQuiet
import Derived.WideLaws
import Derived.Deep.DeepCutAuto
import Derived.Deep.CutBlock
import Derived.Lib.Hide
import Derived.Laws.BitsLemmas
import Derived.Laws.Bits64
import Derived.Laws.BitsAllLaws
import Derived.IntWalk
import Derived.Outline
import Derived.WalkSpells
import Derived.Test.YtnanihffljpdbaaGA
import Derived.Test.YtnanihffljpdbaaWk
namespace Go.Proofs.Ytnanihffljpdbaa.Mem
set_option linter.unusedVariables false
set_option linter.unusedSimpArgs false
open Go.RowKit
theorem hp_sel {S : List Nat} {w0 w : World} {R R' : List Res} (is : List Nat) (H : Hid (Hp S w0 w R)) (hn : is.Nodup) (h : is.map (fun i => R[i]?) = R'.map some) : Hid (Hp S w0 w R') := by
  have hlen : is.length = R'.length := by simpa using congrArg List.length h
  have key : ∀ a (ha : a < R'.length), R[is[a]'(by omega)]? = some R'[a] := fun a ha => by
    have h1 := congrArg (fun l => l[a]?) h
    simp only [List.getElem?_map] at h1
    rw [List.getElem?_eq_getElem (by omega), List.getElem?_eq_getElem ha] at h1
    simpa using h1
  have mem : ∀ r ∈ R', r ∈ R := fun r hr => by
    obtain ⟨a, ha, rfl⟩ := List.getElem_of_mem hr
    exact List.mem_of_getElem? (key a ha)
  refine Lib.hid ⟨H.out.off, fun r hr => H.out.holds r (mem r hr), fun r hr => H.out.lt r (mem r hr), fun r hr => H.out.newf r (mem r hr), ?_⟩
  rw [List.pairwise_iff_getElem]
  intro a b ha hb hab hro k hk hk'
  have h1 := key a ha
  have h2 := key b hb
  obtain ⟨i1, e1⟩ := List.getElem?_eq_some_iff.1 h1
  obtain ⟨i2, e2⟩ := List.getElem?_eq_some_iff.1 h2
  have hne : is[a]'(by omega) ≠ is[b]'(by omega) := fun e => by
    have := (List.getElem_inj hn).1 e
    omega
  have hs := List.pairwise_iff_getElem.1 H.out.sep
  rcases Nat.lt_or_ge (is[a]'(by omega)) (is[b]'(by omega)) with hlt | hge
  · exact hs _ _ i1 i2 hlt (by rw [e1, e2]; exact hro) k (by rw [e1]; exact hk) (by rw [e2]; exact hk')
  · exact hs _ _ i2 i1 (by omega) (by rw [e1, e2, Bool.and_comm]; exact hro) k (by rw [e2]; exact hk') (by rw [e1]; exact hk)
end Go.Proofs.Ytnanihffljpdbaa.Mem
