/- Plain laws of layer 8: what calls become, with no program in sight. -/
import Derived.Test.YtfhhfmkfkoemjaaProg
import Derived.Below
import Derived.WalkKit
import Derived.KernelRfl
import Derived.RowKit3
import Derived.Deep.LoopGhost
import Derived.Deep.QuietTactic
import Derived.BigQuiet
import Derived.WideLaws
import Derived.Deep.DeepCutAuto
import Derived.Deep.CutBlock
import Derived.Lib.Hide
import Derived.Laws.BitsLemmas
import Derived.Laws.Bits64
import Derived.Laws.BitsAllLaws
import Derived.IntWalk
import Derived.Outline
import Derived.WalkSpells
import Derived.Test.YtfhhfmkfkoemjaaMem
import Derived.Test.YtfhhfmkfkoemjaaCb
namespace Go.Proofs.Ytfhhfmkfkoemjaa.Ca
set_option linter.unusedVariables false
set_option linter.unusedSimpArgs false
open Go.RowKit Go.Proofs.Ytfhhfmkfkoemjaa.Mem Go.Proofs.Ytfhhfmkfkoemjaa.Si

theorem floorV_iff {c : Cfg} (hc : checkV c = 0) (n : Int) : floorV c n = true ↔ 1 ≤ n ∧ n ≤ c.floors := by
  unfold floorV; simp [hc]
theorem carV_iff {c : Cfg} (hc : checkV c = 0) (n : Int) : carV c n = true ↔ 1 ≤ n ∧ n ≤ c.cars := by
  unfold carV; simp [hc]
/-- what can be asked, kind by kind -/
structure Asked (c : Cfg) (x : CallV) : Prop where
  ok : checkV c = 0
  kinds : (x.kind = 1 ∧ x.dst = 0 ∧ x.car = 0 ∧ 1 ≤ x.src ∧ x.src < c.floors) ∨ (x.kind = 2 ∧ x.dst = 0 ∧ x.car = 0 ∧ 1 < x.src ∧ x.src ≤ c.floors) ∨
    (x.kind = 3 ∧ x.src = 0 ∧ 1 ≤ x.car ∧ x.car ≤ c.cars ∧ 1 ≤ x.dst ∧ x.dst ≤ c.floors) ∨ (x.kind = 4 ∧ x.car = 0 ∧ 1 ≤ x.src ∧ x.src ≤ c.floors ∧ 1 ≤ x.dst ∧ x.dst ≤ c.floors ∧ x.src ≠ x.dst)
theorem asked_of {c : Cfg} {x : CallV} (h : checkCallV c x = 0) : Asked c x := by
  unfold checkCallV at h
  by_cases hc : checkV c = 0
  · refine ⟨hc, ?_⟩
    rw [if_neg (by simp [hc])] at h
    split at h
    · cases h
    · rename_i h2
      have ha : askV c x = true := by simp at h2; exact h2.2
      unfold askV at ha
      split at ha
      · rename_i k
        simp only [Bool.and_eq_true, beq_iff_eq, decide_eq_true_eq, floorV_iff hc] at ha
        exact .inl ⟨k, ha.1.1.1, ha.1.1.2, ha.1.2.1, ha.2⟩
      · split at ha
        · rename_i k
          simp only [Bool.and_eq_true, beq_iff_eq, decide_eq_true_eq, floorV_iff hc] at ha
          exact .inr (.inl ⟨k, ha.1.1.1, ha.1.1.2, ha.2, ha.1.2.2⟩)
        · split at ha
          · rename_i k
            simp only [Bool.and_eq_true, beq_iff_eq, floorV_iff hc, carV_iff hc] at ha
            exact .inr (.inr (.inl ⟨k, ha.1.1, ha.1.2.1, ha.1.2.2, ha.2.1, ha.2.2⟩))
          · split at ha
            · rename_i k
              simp only [Bool.and_eq_true, beq_iff_eq, bne_iff_ne, floorV_iff hc] at ha
              exact .inr (.inr (.inr ⟨k, ha.1.1.1, ha.1.1.2.1, ha.1.1.2.2, ha.1.2.1, ha.1.2.2, ha.2⟩))
            · cases ha
  · rw [if_pos (by simp [hc])] at h
    cases h
theorem new_ok {c : Cfg} {x : CallV} {id ow bo : Int} (h : (newV c x id ow bo).2 = 0) : newV c x id ow bo = (⟨id, x.kind, x.src, x.dst, x.car, 1, ow, bo⟩, 0) ∧ Asked c x := by
  unfold newV at h ⊢
  by_cases h1 : checkCallV c x = 0
  · rw [if_neg (by simp [h1])] at h ⊢
    split at h
    · cases h
    · rename_i h2
      rw [if_neg h2]
      exact ⟨rfl, asked_of h1⟩
  · rw [if_pos (by simp [h1])] at h
    exact absurd h h1
theorem assign_ok {c : Cfg} {x : CallV} {n : Int} (hc : checkV c = 0) (h : (assignV c x n).2 = 0) : assignV c x n = (⟨x.id, x.kind, x.src, x.dst, n, 2, x.owner, x.born⟩, 0) ∧ x.state = 1 ∧ 1 ≤ n ∧ n ≤ c.cars ∧ (x.kind = 3 → x.car = n) := by
  unfold assignV at h ⊢
  split at h
  · cases h
  · rename_i h1
    split at h
    · cases h
    · rename_i h2
      rw [if_neg h1, if_neg h2]
      simp only [bne_iff_ne, ne_eq, Classical.not_not] at h1
      simp only [Bool.or_eq_true, Bool.not_eq_true', Bool.and_eq_true, beq_iff_eq, bne_iff_ne, ne_eq, not_or, Bool.not_eq_false, not_and, Classical.not_not, carV_iff hc] at h2
      exact ⟨rfl, h1, h2.1.1, h2.1.2, h2.2⟩
theorem assign_is {c : Cfg} {x : CallV} {n : Int} (hc : checkV c = 0) (h1 : x.state = 1) (h2 : 1 ≤ n) (h3 : n ≤ c.cars) (h4 : x.kind = 3 → x.car = n) : assignV c x n = (⟨x.id, x.kind, x.src, x.dst, n, 2, x.owner, x.born⟩, 0) := by
  unfold assignV
  rw [if_neg (by simp [h1]), if_neg (by
    simp only [Bool.or_eq_true, Bool.not_eq_true', Bool.and_eq_true, beq_iff_eq, bne_iff_ne, ne_eq, not_or, Bool.not_eq_false, not_and, Classical.not_not, carV_iff hc]
    exact ⟨⟨h2, h3⟩, h4⟩)]
end Go.Proofs.Ytfhhfmkfkoemjaa.Ca
