/- Unlike bodies have unlike frames, and no frame begins another one: the walk of the statement. -/
import Derived.Test.YtpofjeenednjcaaProg
import Derived.Below
import Derived.WalkKit
import Derived.KernelRfl
import Derived.RowKit3
import Derived.Deep.LoopGhost
import Derived.Deep.QuietTactic
import Derived.BigQuiet
import Derived.WideLaws
import Derived.Deep.DeepCutAuto
import Derived.Deep.CutBlock
import Derived.Lib.Hide
import Derived.Laws.BitsLemmas
import Derived.Laws.Bits64
import Derived.Laws.BitsAllLaws
import Derived.IntWalk
import Derived.Outline
import Derived.WalkSpells
import Derived.Test.YtpofjeenednjcaaMem
import Derived.Test.YtpofjeenednjcaaFr2
namespace Go.Proofs.Ytpofjeenednjcaa.Fr
open Go.RowKit Go.Proofs.Ytpofjeenednjcaa.Mem Go.Proofs.Ytpofjeenednjcaa.Pk

theorem ofV_yes (s : ByteArray) (h : 1 ≤ s.size ∧ s.size ≤ 2048) : ofV s = (str (frm (nums s)), 0) := by unfold ofV; rw [if_pos h]
theorem ofV_no (s : ByteArray) (h : ¬ (1 ≤ s.size ∧ s.size ≤ 2048)) : ofV s = (⟨#[]⟩, 1) := by unfold ofV; rw [if_neg h]
theorem ofV_size (s : ByteArray) : (str (frm (nums s))).size = s.size + 6 := by rw [str_size, frm_len, nums_length]
theorem nums_inj {a b : ByteArray} (h : nums a = nums b) : a = b := by rw [← str_nums a, ← str_nums b, h]
theorem frames_cut (a b : ByteArray) (h : a ≠ b) (ha : a.size ≤ 2048) (hb : b.size ≤ 2048) (k : Nat) (h1 : k ≤ a.size + 6) (h2 : k ≤ b.size + 6) (hm : k = a.size + 6 ∨ k = b.size + 6) :
    (str (frm (nums a))).extract 0 k ≠ (str (frm (nums b))).extract 0 k := by
  intro e
  rw [extract_str, extract_str, List.drop_zero, List.drop_zero] at e
  have e2 := congrArg nums e
  rw [nums_str _ (fun c hc => frm_lt _ (nums_lt a) c (List.mem_of_mem_take hc)), nums_str _ (fun c hc => frm_lt _ (nums_lt b) c (List.mem_of_mem_take hc))] at e2
  exact h (nums_inj (frm_apart _ _ (by rw [nums_length]; exact ha) (by rw [nums_length]; exact hb) k (by omega) (by rw [nums_length]; exact h1) (by rw [nums_length]; exact h2) (by rw [nums_length, nums_length]; exact hm) e2))
theorem frames_ne (a b : ByteArray) (h : a ≠ b) (ha : a.size ≤ 2048) (hb : b.size ≤ 2048) : str (frm (nums a)) ≠ str (frm (nums b)) := by
  intro e
  rcases Nat.le_total a.size b.size with hl | hl
  · exact frames_cut a b h ha hb (a.size + 6) (by omega) (by omega) (.inl rfl) (by rw [e])
  · exact frames_cut a b h ha hb (b.size + 6) (by omega) (by omega) (.inr rfl) (by rw [e])
theorem apart_no (a b : ByteArray) (w : World) (h : ¬ (1 ≤ a.size ∧ a.size ≤ 2048) ∨ ¬ (1 ≤ b.size ∧ b.size ≤ 2048)) :
    Calls Try.prog 14 #[.string a, .string b] w fun e w' => e = .returned (.bool true) ∧ Below w.heap.size w w' := by
  have ka := Lib.hid (fun w' => frameOf a w')
  have kb := Lib.hid (fun w' => frameOf b w')
  have hd : ((ofV a).2 != 0) = true ∨ ((ofV a).2 != 0) = false ∧ ((ofV b).2 != 0) = true := by
    by_cases h1 : 1 ≤ a.size ∧ a.size ≤ 2048
    · rw [ofV_yes a h1, ofV_no b (by rcases h with h | h; exact absurd h1 h; exact h)]
      exact .inr ⟨rfl, rfl⟩
    · rw [ofV_no a h1]
      exact .inl rfl
  clear h
  generalize ofV a = q1 at *
  generalize ofV b = q2 at *
  obtain ⟨s, e1⟩ := q1
  obtain ⟨t, e2⟩ := q2
  dsimp only at hd
  rcases hd with hd | ⟨hd, hd2⟩
  all_goals
    go_enter Try.func14, Try.ntmps14
    go_wp2_with (first
      | (go_at_call 41; refine (awake _).mono ?_; rintro e w0 ⟨rfl, ho⟩)
      | (go_at_call 42; with_reducible refine (ka.out _).mono ?_; rintro e w1 ⟨rfl, hf1⟩)
      | (go_at_call 42; with_reducible refine (kb.out _).mono ?_; rintro e w2 ⟨rfl, hf2⟩))
    go_ret
    exact ⟨rfl, ((ho.trans hf1 (by simp)).trans hf2 (by simp)).to_below⟩
theorem apart_yes (a b : ByteArray) (w : World) (ha : 1 ≤ a.size ∧ a.size ≤ 2048) (hb : 1 ≤ b.size ∧ b.size ≤ 2048) :
    Calls Try.prog 14 #[.string a, .string b] w fun e w' => e = .returned (.bool true) ∧ Below w.heap.size w w' := by
  have ka := Lib.hid (fun w' => frameOf a w')
  have kb := Lib.hid (fun w' => frameOf b w')
  rw [ofV_yes a ha] at ka
  rw [ofV_yes b hb] at kb
  have za := ofV_size a
  have zb := ofV_size b
  have hna := nums_length a
  have hnb := nums_length b
  by_cases hab : a = b
  · subst hab
    have h1 := beq_yes (show a = a from rfl)
    have h2 := beq_yes (show str (frm (nums a)) = str (frm (nums a)) from rfl)
    clear hna hnb
    generalize str (frm (nums a)) = S at *
    go_enter Try.func14, Try.ntmps14
    go_wp2_with (first
      | (go_at_call 41; refine (awake _).mono ?_; rintro e w0 ⟨rfl, ho⟩)
      | (go_at_call 42; with_reducible refine (ka.out _).mono ?_; rintro e w1 ⟨rfl, hf1⟩; replace ho := ho.trans hf1 (by simp)))
    go_quiet (fail)
    go_wp2
    go_ret
    exact ⟨rfl, (ho.drewN _).to_below⟩
  · have h1 := beq_no hab
    have h2 := beq_no (frames_ne a b hab ha.2 hb.2)
    obtain ⟨p, hp⟩ : ∃ p, a.size + 6 = p := ⟨_, rfl⟩
    obtain ⟨q, hq⟩ : ∃ q, b.size + 6 = q := ⟨_, rfl⟩
    have hpa : ((p : Int) != (a.size : Int) + 6) = false := by rw [bne_eq_false_iff_eq]; omega
    rw [hp] at za
    rw [hq] at zb
    have h3 : decide (q < p) = false → (((str (frm (nums a))).extract 0 p).toList == ((str (frm (nums b))).extract 0 p).toList) = false := fun hd => beq_no (frames_cut a b hab ha.2 hb.2 p (by omega) (by have := of_decide_eq_false hd; omega) (.inl (by omega)))
    have h4 : decide (q < p) = true → (((str (frm (nums a))).extract 0 q).toList == ((str (frm (nums b))).extract 0 q).toList) = false := fun hd => beq_no (frames_cut a b hab ha.2 hb.2 q (by have := of_decide_eq_true hd; omega) (by omega) (.inr (by omega)))
    have hpz : p ≤ 3000 ∧ q ≤ 3000 := by omega
    obtain ⟨b1, b2⟩ := hpz
    clear hna hnb hab hp hq
    generalize str (frm (nums a)) = S at *
    generalize str (frm (nums b)) = T at *
    rcases Bool.eq_false_or_eq_true (decide (q < p)) with hlt | hlt
    · have h5 := h4 hlt
      have hlt2 : q < p := of_decide_eq_true hlt
      have m1 : (q : Int) ≤ (p : Int) := by have := of_decide_eq_true hlt; omega
      clear h3 h4 hlt
      go_enter Try.func14, Try.ntmps14
      go_wp2_with (first
        | (go_at_call 41; refine (awake _).mono ?_; rintro e w0 ⟨rfl, ho⟩)
        | (go_at_call 42; with_reducible refine (ka.out _).mono ?_; rintro e w1 ⟨rfl, hf1⟩)
        | (go_at_call 42; with_reducible refine (kb.out _).mono ?_; rintro e w2 ⟨rfl, hf2⟩))
      go_quiet (fail)
      go_wp2
      go_ret
      exact ⟨rfl, (((ho.trans hf1 (by simp)).trans hf2 (by simp)).drewN _).to_below⟩
    · have h5 := h3 hlt
      have hlt2 : ¬ q < p := of_decide_eq_false hlt
      have m1 : (p : Int) ≤ (q : Int) := by have := of_decide_eq_false hlt; omega
      clear h3 h4 hlt
      go_enter Try.func14, Try.ntmps14
      go_wp2_with (first
        | (go_at_call 41; refine (awake _).mono ?_; rintro e w0 ⟨rfl, ho⟩)
        | (go_at_call 42; with_reducible refine (ka.out _).mono ?_; rintro e w1 ⟨rfl, hf1⟩)
        | (go_at_call 42; with_reducible refine (kb.out _).mono ?_; rintro e w2 ⟨rfl, hf2⟩))
      go_quiet (fail)
      go_wp2
      go_ret
      exact ⟨rfl, (((ho.trans hf1 (by simp)).trans hf2 (by simp)).drewN _).to_below⟩
theorem frameApart (a b : ByteArray) (w : World) (_ : a.size ≤ 140737488351232) (_ : b.size ≤ 140737488351232) :
    Calls Try.prog 14 #[.string a, .string b] w fun e w' => e = .returned (.bool true) ∧ Below w.heap.size w w' := by
  by_cases ha : 1 ≤ a.size ∧ a.size ≤ 2048
  · by_cases hb : 1 ≤ b.size ∧ b.size ≤ 2048
    · exact apart_yes a b w ha hb
    · exact apart_no a b w (.inr hb)
  · exact apart_no a b w (.inl ha)
end Go.Proofs.Ytpofjeenednjcaa.Fr
