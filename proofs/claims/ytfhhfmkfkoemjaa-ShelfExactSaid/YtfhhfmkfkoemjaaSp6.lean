/- Layer 6: plain laws of shelves. -/
import Derived.Test.YtfhhfmkfkoemjaaProg
import Derived.Below
import Derived.WalkKit
import Derived.KernelRfl
import Derived.RowKit3
import Derived.Deep.LoopGhost
import Derived.Deep.QuietTactic
import Derived.BigQuiet
import Derived.WideLaws
import Derived.Deep.DeepCutAuto
import Derived.Deep.CutBlock
import Derived.Lib.Hide
import Derived.Laws.BitsLemmas
import Derived.Laws.Bits64
import Derived.Laws.BitsAllLaws
import Derived.IntWalk
import Derived.Outline
import Derived.WalkSpells
import Derived.Test.YtfhhfmkfkoemjaaMem
import Derived.Test.YtfhhfmkfkoemjaaAw6
namespace Go.Proofs.Ytfhhfmkfkoemjaa.Si6
set_option linter.unusedVariables false
set_option linter.unusedSimpArgs false
open Go.RowKit Go.Proofs.Ytfhhfmkfkoemjaa.Mem

theorem keys_one {ps : List PairV} (hs : Sorted ps) {x y : PairV} (hx : x ∈ ps) (hy : y ∈ ps) (h : x.1 = y.1) : x = y := by
  obtain ⟨i, hi, rfl⟩ := List.getElem_of_mem hx
  obtain ⟨j, hj, rfl⟩ := List.getElem_of_mem hy
  rcases Nat.lt_trichotomy i j with h1 | h1 | h1
  · have := List.pairwise_iff_getElem.1 hs i j hi hj h1
    rw [h, ltK_irrefl] at this
    cases this
  · subst h1
    rfl
  · have := List.pairwise_iff_getElem.1 hs j i hj hi h1
    rw [h, ltK_irrefl] at this
    cases this
theorem isV_iff {ps : List PairV} (hs : Sorted ps) (k : KeyV) : isV k ps = true ↔ ∃ x ∈ ps, x.1 = k := by
  constructor
  · intro h
    obtain ⟨p, hp, hk, _⟩ := is_some h
    exact ⟨p, List.mem_of_getElem? hp, hk⟩
  · rintro ⟨x, hx, hk⟩
    cases h : isV k ps with
    | true => rfl
    | false => exact absurd hk (is_false_ne hs h x hx)
theorem get_is (k : KeyV) (ps : List PairV) : (getV k ps).2 = isV k ps := by
  unfold getV
  cases h : isV k ps with
  | false => simp
  | true =>
    obtain ⟨p, hp, _⟩ := is_some h
    simp [hp]
theorem get_filter {ps : List PairV} (hs : Sorted ps) (f : PairV → Bool) {p : PairV} (hp : p ∈ ps) : (getV p.1 (ps.filter f)).2 = f p := by
  rw [get_is, Bool.eq_iff_iff, isV_iff (sorted_keep hs f)]
  constructor
  · rintro ⟨x, hx, hk⟩
    obtain ⟨h1, h2⟩ := List.mem_filter.1 hx
    rw [keys_one hs h1 hp hk] at h2
    exact h2
  · intro h
    exact ⟨p, List.mem_filter.2 ⟨hp, h⟩, rfl⟩
theorem parts_sum (f : PairV → Bool) : ∀ ps : List PairV, (ps.filter f).length + (ps.filter fun p => !f p).length = ps.length
  | [] => rfl
  | p :: ps => by
    have := parts_sum f ps
    cases h : f p <;> simp [List.filter_cons, h] <;> omega
theorem pos_ins {ps : List PairV} (hs : Sorted ps) (k : KeyV) (v : Int) (h : isV k ps = false) : posV k (insAt ps (posV k ps) (k, v)) = posV k ps := by
  obtain ⟨h1, h2⟩ := sorted_pos hs k
  refine count_at _ _ _ (by simp [insAt]; have := pos_le k ps; omega) ?_ ?_
  · intro x hx
    rw [insAt, List.take_append_of_le_length (by rw [List.length_take]; have := pos_le k ps; omega), List.take_take, Nat.min_self] at hx
    exact h1 x hx
  · intro x hx
    rw [insAt, List.drop_append, List.drop_of_length_le (by rw [List.length_take]; omega), List.nil_append, List.length_take, Nat.min_eq_left (pos_le k ps), Nat.sub_self, List.drop_zero] at hx
    rcases List.mem_cons.1 hx with rfl | hx
    · exact ltK_irrefl _
    · exact h2 x hx
theorem is_ins {ps : List PairV} (hs : Sorted ps) (k : KeyV) (v : Int) (h : isV k ps = false) : isV k (insAt ps (posV k ps) (k, v)) = true :=
  (isV_iff (sorted_ins hs v h) k).2 ⟨(k, v), by simp [insAt], rfl⟩
theorem without_ins {ps : List PairV} (hs : Sorted ps) (k : KeyV) (v : Int) (h : isV k ps = false) : withoutV k (insAt ps (posV k ps) (k, v)) = ps := by
  unfold withoutV
  rw [if_pos (is_ins hs k v h), pos_ins hs k v h]
  have hl : (ps.take (posV k ps)).length = posV k ps := by rw [List.length_take]; have := pos_le k ps; omega
  unfold delAt insAt
  rw [List.take_append_of_le_length (by omega), List.take_take, Nat.min_self, List.drop_append, List.drop_of_length_le (by omega), hl, show posV k ps + 1 - posV k ps = 1 by omega]
  simp
theorem without_less {ps : List PairV} (hs : Sorted ps) {k : KeyV} (v : Int) (h : isV k ps = true) : decide (withoutV k (ps.set (posV k ps) (k, v)) = ps) = false := by
  simp only [decide_eq_false_iff_not]
  intro e
  obtain ⟨_, _, _, hlt⟩ := is_some h
  have h1 : isV k (ps.set (posV k ps) (k, v)) = true := (isV_iff (sorted_set hs v h) k).2 ⟨(k, v), List.mem_set hlt _, rfl⟩
  have h2 := congrArg List.length e
  unfold withoutV at h2
  rw [if_pos h1] at h2
  obtain ⟨_, _, _, h3⟩ := is_some h1
  unfold delAt at h2
  simp at h2 h3
  omega
end Go.Proofs.Ytfhhfmkfkoemjaa.Si6
