/- Joints, in plain words: however bytes are cut. -/
import Derived.Test.YtfjkcegdodpgdaaProg
import Derived.Below
import Derived.WalkKit
import Derived.KernelRfl
import Derived.RowKit3
import Derived.Deep.LoopGhost
import Derived.Deep.QuietTactic
import Derived.BigQuiet
import Derived.WideLaws
import Derived.Deep.DeepCutAuto
import Derived.Deep.CutBlock
import Derived.Lib.Hide
import Derived.Laws.BitsLemmas
import Derived.Laws.Bits64
import Derived.Laws.BitsAllLaws
import Derived.IntWalk
import Derived.Outline
import Derived.WalkSpells
import Derived.Test.YtfjkcegdodpgdaaMem
import Derived.Test.YtfjkcegdodpgdaaJo1
namespace Go.Proofs.Ytfjkcegdodpgdaa.Jo
open Go.RowKit Go.Proofs.Ytfjkcegdodpgdaa.Mem Go.Proofs.Ytfjkcegdodpgdaa.Pk Go.Proofs.Ytfjkcegdodpgdaa.Fr

theorem extract_app (a b : ByteArray) (i j : Nat) (h : j ≤ a.size) : (a ++ b).extract i j = a.extract i j := by
  have ea := str_nums a
  have eb := str_nums b
  rw [← ea, ← eb, ← str_append, extract_str, extract_str, List.take_append_of_le_length (by rw [nums_length]; exact h)]
theorem extract_tail (a b : ByteArray) (i : Nat) (h : i ≤ a.size) : (a ++ b).extract i (a ++ b).size = a.extract i a.size ++ b := by
  have ea := str_nums a
  have eb := str_nums b
  rw [← ea, ← eb, ← str_append, extract_str, extract_str, str_size, str_size, List.take_of_length_le (Nat.le_refl _), List.take_of_length_le (Nat.le_refl _), List.drop_append_of_le_length (by rw [nums_length]; exact h), str_append]
theorem nums_append (a b : ByteArray) : nums (a ++ b) = nums a ++ nums b := by simp [nums, ByteArray.data_append]
theorem be_app (a b : ByteArray) (h : 2 ≤ a.size) : be (a ++ b) 2 = be a 2 := by
  unfold be
  rw [nums_append, List.take_append_of_le_length (by rw [nums_length]; exact h)]
theorem next_ext (a b : ByteArray) (h : (nextV a).2.2 ≠ 2) : nextV (a ++ b) = nextV a := by
  have h2 : 2 ≤ a.size := by
    rcases Nat.lt_or_ge a.size 2 with h' | h'
    · unfold nextV at h
      rw [if_pos h'] at h
      exact absurd rfl h
    · exact h'
  unfold nextV at *
  rw [be_app a b h2, if_neg (show ¬ (a ++ b).size < 2 by rw [ByteArray.size_append]; omega), if_neg (show ¬ a.size < 2 by omega)]
  rw [if_neg (show ¬ a.size < 2 by omega)] at h
  by_cases h3 : be a 2 < 1 ∨ 2048 < be a 2
  · rw [if_pos h3, if_pos h3]
  · rw [if_neg h3] at h
    rw [if_neg h3, if_neg h3]
    by_cases h4 : a.size < be a 2 + 6
    · rw [if_pos h4] at h
      exact absurd rfl h
    · rw [if_neg h4, if_neg (show ¬ (a ++ b).size < be a 2 + 6 by rw [ByteArray.size_append]; omega), extract_app a b _ _ (by omega), extract_app a b _ _ (by omega), extract_app a b _ _ (by omega)]
theorem next_state (a : ByteArray) : (nextV a).2.2 = 1 ∨ (nextV a).2.2 = 2 ∨ (nextV a).2.2 = 3 := by
  unfold nextV
  split
  · exact .inr (.inl rfl)
  · split
    · exact .inr (.inr rfl)
    · split
      · exact .inr (.inl rfl)
      · split
        · exact .inl rfl
        · exact .inr (.inr rfl)
theorem cut_app (b : ByteArray) : ∀ (k : Nat) (a : ByteArray), a.size ≤ k →
    ((cutV a).2.2 = 3 ∧ cutV (a ++ b) = ((cutV a).1, (cutV a).2.1 ++ b, 3)) ∨ ((cutV a).2.2 = 2 ∧ cutV (a ++ b) = ((cutV a).1 ++ (cutV ((cutV a).2.1 ++ b)).1, (cutV ((cutV a).2.1 ++ b)).2))
  | k, a, hk => by
    rcases next_state a with h | h | h
    · have hw := next_whole a h
      have he := next_ext a b (by rw [h]; decide)
      have ht := extract_tail a b (nextV a).2.1 hw.2.1
      have hz : (a.extract (nextV a).2.1 a.size).size = a.size - (nextV a).2.1 := by rw [ByteArray.size_extract]; omega
      have e2 : cutV (a ++ b) = ((nextV a).1 :: (cutV (a.extract (nextV a).2.1 a.size ++ b)).1, (cutV (a.extract (nextV a).2.1 a.size ++ b)).2) := by
        rw [cutV_yes (a ++ b) (by rw [he]; exact h), he, ht]
      rw [e2, cutV_yes a h]
      match k, hk with
      | 0, hk => omega
      | k + 1, hk =>
        have ih := cut_app b k (a.extract (nextV a).2.1 a.size) (by omega)
        clear e2 ht hz he hw h hk
        generalize a.extract (nextV a).2.1 a.size = R at *
        generalize (nextV a).1 = x at *
        generalize cutV R = q at *
        obtain ⟨q1, q2, q3⟩ := q
        dsimp only at ih ⊢
        rcases ih with ⟨h1, h2⟩ | ⟨h1, h2⟩
        · refine .inl ⟨h1, ?_⟩
          rw [h2]
        · refine .inr ⟨h1, ?_⟩
          rw [h2]
          rfl
    · refine .inr ?_
      rw [cutV_no a (by rw [h]; decide)]
      exact ⟨h, rfl⟩
    · refine .inl ?_
      have he := next_ext a b (by rw [h]; decide)
      rw [cutV_no a (by rw [h]; decide), cutV_no (a ++ b) (by rw [he, h]; decide), he]
      exact ⟨h, by rw [h]⟩
theorem cut_rest : ∀ (k : Nat) (a : ByteArray), a.size ≤ k → (cutV a).2.1.size ≤ a.size
  | k, a, hk => by
    by_cases h : (nextV a).2.2 = 1
    · have hw := next_whole a h
      have hz : (a.extract (nextV a).2.1 a.size).size = a.size - (nextV a).2.1 := by rw [ByteArray.size_extract]; omega
      rw [cutV_yes a h]
      match k, hk with
      | 0, hk => omega
      | k + 1, hk =>
        have := cut_rest k (a.extract (nextV a).2.1 a.size) (by omega)
        exact Nat.le_trans this (by omega)
    · rw [cutV_no a h]
      exact Nat.le_refl _
theorem feed_bad (s : JSt) (c : ByteArray) (h : s.bad = true) : feedV s c = (s, [], false) := by unfold feedV; rw [if_pos h]
theorem feed_ok (s : JSt) (c : ByteArray) : (feedV s c).2.2 = !(feedV s c).1.bad := by
  unfold feedV
  split
  · rename_i h
    rw [h]
    rfl
  · split
    · rfl
    · rfl
theorem feed_add (s : JSt) (c d : ByteArray) : (feedV s (c ++ d)).1 = (feedV (feedV s c).1 d).1 ∧ (feedV s (c ++ d)).2.1 = (feedV s c).2.1 ++ (feedV (feedV s c).1 d).2.1 := by
  by_cases hb : s.bad = true
  · rw [feed_bad s _ hb, feed_bad s _ hb, feed_bad s _ hb]
    exact ⟨rfl, rfl⟩
  · have hb' : s.bad = false := by simpa using hb
    have hc := cut_app d (s.left ++ c).size (s.left ++ c) (Nat.le_refl _)
    rw [ByteArray.append_assoc] at hc
    rcases hc with ⟨h3, h⟩ | ⟨h2, h⟩
    · have e1 : feedV s c = (⟨⟨#[]⟩, true, s.seen + (cutV (s.left ++ c)).1.length⟩, (cutV (s.left ++ c)).1, false) := by unfold feedV; rw [if_neg hb, if_pos h3]
      have e2 : feedV s (c ++ d) = (⟨⟨#[]⟩, true, s.seen + (cutV (s.left ++ c)).1.length⟩, (cutV (s.left ++ c)).1, false) := by
        unfold feedV
        rw [if_neg hb, h]
        rfl
      rw [e2, e1, feed_bad _ d rfl]
      exact ⟨rfl, (List.append_nil _).symm⟩
    · have e1 : feedV s c = (⟨(cutV (s.left ++ c)).2.1, false, s.seen + (cutV (s.left ++ c)).1.length⟩, (cutV (s.left ++ c)).1, true) := by unfold feedV; rw [if_neg hb, if_neg (by omega)]
      rw [e1]
      unfold feedV
      rw [if_neg hb, h]
      dsimp only
      rw [if_neg (show ¬ (false = true) by decide)]
      split
      · exact ⟨by rw [List.length_append, ← Nat.add_assoc], rfl⟩
      · exact ⟨by rw [List.length_append, ← Nat.add_assoc], rfl⟩
theorem feed_size (s : JSt) (c : ByteArray) : (feedV s c).1.left.size ≤ s.left.size + c.size ∧ (feedV s c).1.seen ≤ s.seen + (s.left.size + c.size) ∧ (feedV s c).2.1.length ≤ s.left.size + c.size := by
  have h1 := cut_rest (s.left ++ c).size (s.left ++ c) (Nat.le_refl _)
  have h2 : (cutV (s.left ++ c)).1.length ≤ (s.left ++ c).size := cutN_len _ _
  rw [ByteArray.size_append] at h1 h2
  unfold feedV
  split
  · refine ⟨?_, ?_, Nat.zero_le _⟩ <;> dsimp only <;> omega
  · split
    · exact ⟨Nat.zero_le _, Nat.add_le_add_left h2 _, h2⟩
    · exact ⟨h1, Nat.add_le_add_left h2 _, h2⟩
end Go.Proofs.Ytfjkcegdodpgdaa.Jo
