/- Shelves, at one instance: a pair less; the order stays. -/
import Derived.Test.YtfhhfmkfkoemjaaProg
import Derived.Below
import Derived.WalkKit
import Derived.KernelRfl
import Derived.RowKit3
import Derived.Deep.LoopGhost
import Derived.Deep.QuietTactic
import Derived.BigQuiet
import Derived.WideLaws
import Derived.Deep.DeepCutAuto
import Derived.Deep.CutBlock
import Derived.Lib.Hide
import Derived.Laws.BitsLemmas
import Derived.Laws.Bits64
import Derived.Laws.BitsAllLaws
import Derived.IntWalk
import Derived.Outline
import Derived.WalkSpells
import Derived.Test.YtfhhfmkfkoemjaaMem
import Derived.Test.YtfhhfmkfkoemjaaSeWit
namespace Go.Proofs.Ytfhhfmkfkoemjaa.Se6
set_option linter.unusedVariables false
set_option linter.unusedSimpArgs false
open Go.RowKit Go.Proofs.Ytfhhfmkfkoemjaa.Mem

set_option maxRecDepth 20000
set_option maxHeartbeats 16000000

def withoutV (k : KeyV) (ps : List PairV) : List PairV := if isV k ps = true then delAt ps (posV k ps) else ps
theorem withC (room : Int) (a : Option Addr) (c : Nat) (ps : List PairV) (k : KeyV) (v : EntryV) (w : World) (h : (rS a c 4 (ps.map rowOf)).holds w) (hs : Sorted ps) (hb : ps.length ≤ 1000000) :
    Calls Try.prog 81 #[.agg #[.int .i64 room, .slice a ps.length c], .string k, .agg #[.int .i64 v.stamp, .string v.body, .string v.answer]] w fun e w' => ∃ a' c', e = .returned (.tuple #[.agg #[.int .i64 room, .slice a' (withV room k v ps).1.length c'], .bool (withV room k v ps).2]) ∧ Gives w w' [rS a c 4 (ps.map rowOf)] a' c' (withV room k v ps).1 := by
  rcases Bool.eq_false_or_eq_true (isV k ps) with q | q
  · rw [with_is q]
    refine (with1 room a c ps k v w h hs hb q).mono ?_
    rintro e w' ⟨a', c', rfl, hg⟩
    exact ⟨a', c', by simp, hg⟩
  · rcases Bool.eq_false_or_eq_true ((ps.length : Int) == room) with q2 | q2
    · rw [with_full q q2]
      exact with2 room a c ps k v w h hs hb q q2
    · rw [with_new q q2]
      exact with3 room a c ps k v w h hs hb q q2
/-! the order stays -/
theorem sorted_pos {ps : List PairV} (hs : Sorted ps) (k : KeyV) : (∀ x ∈ ps.take (posV k ps), ltK x.1 k = true) ∧ (∀ x ∈ ps.drop (posV k ps), ltK x.1 k = false) := by
  induction ps with
  | nil => simp
  | cons p ps ih =>
    have hs' := List.pairwise_cons.1 hs
    have ih' := ih hs'.2
    cases hp : ltK p.1 k with
    | true =>
      have e : posV k (p :: ps) = posV k ps + 1 := by simp [posV, List.countP_cons, hp]
      rw [e]
      refine ⟨fun x hx => ?_, fun x hx => ih'.2 x (by simpa using hx)⟩
      rw [List.take_succ_cons] at hx
      rcases List.mem_cons.1 hx with rfl | hx
      · exact hp
      · exact ih'.1 x hx
    | false =>
      have h0 : ∀ x ∈ p :: ps, ltK x.1 k = false := by
        intro x hx
        rcases List.mem_cons.1 hx with rfl | hx
        · exact hp
        · cases hc : ltK x.1 k with
          | false => rfl
          | true =>
            have := ltK_trans (hs'.1 x hx) hc
            rw [hp] at this
            cases this
      have e : posV k (p :: ps) = 0 := by
        unfold posV
        rw [List.countP_eq_zero]
        intro x hx
        simp [h0 x hx]
      rw [e]
      exact ⟨by simp, by simpa using h0⟩
theorem is_false_ne {ps : List PairV} (hs : Sorted ps) {k : KeyV} (h : isV k ps = false) : ∀ x ∈ ps, x.1 ≠ k := by
  intro x hx hk
  obtain ⟨i, hi, rfl⟩ := List.getElem_of_mem hx
  obtain ⟨h1, h2⟩ := sorted_pos hs k
  rcases Nat.lt_trichotomy i (posV k ps) with h3 | h3 | h3
  · have := h1 ps[i] (List.mem_take_iff_getElem.2 ⟨i, by omega, rfl⟩)
    rw [hk, ltK_irrefl] at this
    cases this
  · unfold isV at h
    rw [← h3, List.getElem?_eq_getElem hi] at h
    simp only [hk] at h
    rw [(cmp_eq k k).2 rfl] at h
    cases h
  · have hp := List.pairwise_iff_getElem.1 hs (posV k ps) i (by omega) hi h3
    have := h2 ps[posV k ps] (List.mem_drop_iff_getElem.2 ⟨0, by omega, by simp⟩)
    rw [hk] at hp
    rw [this] at hp
    cases hp
theorem sorted_set {ps : List PairV} (hs : Sorted ps) {k : KeyV} (v : EntryV) (h : isV k ps = true) : Sorted (ps.set (posV k ps) (k, v)) := by
  obtain ⟨p, hp, hk, hi⟩ := is_some h
  have e : (ps.set (posV k ps) (k, v)).map (·.1) = ps.map (·.1) := by
    rw [List.map_set]
    apply List.ext_getElem?
    intro j
    rw [List.getElem?_set]
    split
    · rename_i hj
      subst hj
      rw [if_pos (by simpa using hi), List.getElem?_map, hp]
      simp [hk]
    · rfl
  unfold Sorted at *
  rw [← List.pairwise_map (f := fun p : PairV => p.1) (R := fun a b => ltK a b = true)] at *
  rw [e]
  exact hs
theorem sorted_ins {ps : List PairV} (hs : Sorted ps) {k : KeyV} (v : EntryV) (h : isV k ps = false) : Sorted (insAt ps (posV k ps) (k, v)) := by
  obtain ⟨h1, h2⟩ := sorted_pos hs k
  have hne := is_false_ne hs h
  unfold Sorted insAt at *
  rw [List.pairwise_append, List.pairwise_cons]
  refine ⟨hs.sublist (List.take_sublist _ _), ⟨fun x hx => ltK_total (h2 x hx) (hne x (List.mem_of_mem_drop hx)), hs.sublist (List.drop_sublist _ _)⟩, fun x hx y hy => ?_⟩
  rcases List.mem_cons.1 hy with rfl | hy
  · exact h1 x hx
  · exact ltK_trans (h1 x hx) (ltK_total (h2 y hy) (hne y (List.mem_of_mem_drop hy)))
theorem sorted_with {ps : List PairV} (hs : Sorted ps) (room : Int) (k : KeyV) (v : EntryV) : Sorted (withV room k v ps).1 := by
  unfold withV
  split
  · rename_i h
    exact sorted_set hs v h
  · rename_i h
    split
    · exact hs
    · exact sorted_ins hs v (by simpa using h)
theorem sorted_without {ps : List PairV} (hs : Sorted ps) (k : KeyV) : Sorted (withoutV k ps) := by
  unfold withoutV
  split
  · unfold delAt
    exact hs.sublist (by
      conv => rhs; rw [← List.take_append_drop (posV k ps) ps]
      exact List.Sublist.append (List.Sublist.refl _) (List.drop_sublist_drop_left _ (by omega)))
  · exact hs
theorem sorted_keep {ps : List PairV} (hs : Sorted ps) (f : PairV → Bool) : Sorted (ps.filter f) := hs.sublist List.filter_sublist

end Go.Proofs.Ytfhhfmkfkoemjaa.Se6
