/- What was made a frame is read as it was: the walk of the statement. -/
import Derived.Test.YtfjkcegdodpgdaaProg
import Derived.Below
import Derived.WalkKit
import Derived.KernelRfl
import Derived.RowKit3
import Derived.Deep.LoopGhost
import Derived.Deep.QuietTactic
import Derived.BigQuiet
import Derived.WideLaws
import Derived.Deep.DeepCutAuto
import Derived.Deep.CutBlock
import Derived.Lib.Hide
import Derived.Laws.BitsLemmas
import Derived.Laws.Bits64
import Derived.Laws.BitsAllLaws
import Derived.IntWalk
import Derived.Outline
import Derived.WalkSpells
import Derived.Test.YtfjkcegdodpgdaaMem
import Derived.Test.YtfjkcegdodpgdaaFr3
namespace Go.Proofs.Ytfjkcegdodpgdaa.Fr
open Go.RowKit Go.Proofs.Ytfjkcegdodpgdaa.Mem Go.Proofs.Ytfjkcegdodpgdaa.Pk

theorem next_of (s r : ByteArray) (h : 1 ≤ s.size ∧ s.size ≤ 2048) : nextV (str (frm (nums s)) ++ r) = (s, s.size + 6, 1) := by
  have hn := next_frm (nums s) (nums r) (nums_lt s) (nums_lt r) (by rw [nums_length]; exact h.1) (by rw [nums_length]; exact h.2)
  rw [str_append, str_nums, str_nums, nums_length] at hn
  exact hn
theorem next_own (s : ByteArray) (h : 1 ≤ s.size ∧ s.size ≤ 2048) : nextV (str (frm (nums s))) = (s, s.size + 6, 1) := by
  have hn := next_frm (nums s) [] (nums_lt s) (by simp) (by rw [nums_length]; exact h.1) (by rw [nums_length]; exact h.2)
  rw [List.append_nil, str_nums, nums_length] at hn
  exact hn
theorem next_cut (s : ByteArray) (h : 1 ≤ s.size ∧ s.size ≤ 2048) (k : Nat) (hk : k < s.size + 6) : nextV ((str (frm (nums s))).extract 0 k) = (⟨#[]⟩, 0, 2) := by
  rw [extract_str, List.drop_zero]
  exact next_take (nums s) (nums_lt s) (by rw [nums_length]; exact h.1) (by rw [nums_length]; exact h.2) k (by rw [nums_length]; exact hk)
set_option maxHeartbeats 1600000 in
theorem back_main (s b : ByteArray) (c : Int) (w : World) (hb : b.size ≤ 1024) (h : 1 ≤ s.size ∧ s.size ≤ 2048) :
    Calls Try.prog 4 #[.string s, .string b, .int .i64 c] w fun e w' => e = .returned (.bool true) ∧ Below w.heap.size w w' := by
  have d1 : decide ((1024 : Int) < (b.size : Int)) = false := decide_eq_false (by omega)
  have kf := Lib.hid (fun w' => frameOf s w')
  rw [ofV_yes s h] at kf
  have hz := ofV_size s
  have k1 := Lib.hid (fun w' => next (str (frm (nums s)) ++ b) (by rw [ByteArray.size_append]; omega) w')
  rw [next_of s b h] at k1
  obtain ⟨m, hm, hmn⟩ := mod_upto c (s.size + 5) (by omega)
  have k2 := Lib.hid (fun w' => next ((str (frm (nums s))).extract 0 m) (by rw [ByteArray.size_extract]; omega) w')
  rw [next_cut s h m (by omega)] at k2
  have k3 := Lib.hid (fun w' => body (str (frm (nums s))) (by omega) w')
  have hbv : bodyV (str (frm (nums s))) = (s, 0) := by unfold bodyV; rw [next_own s h, if_pos ⟨rfl, hz.symm⟩]
  rw [hbv] at k3
  clear hbv
  have hq := beq_yes (show s = s from rfl)
  obtain ⟨z, hzz⟩ : ∃ z, s.size + 6 = z := ⟨_, rfl⟩
  rw [hzz] at hz k1
  rw [show ((s.size + 5 : Nat) : Int) + 1 = (z : Int) by omega] at hm
  have hz2 : (str (frm (nums s))).size + b.size ≤ 9223372036854775807 := by omega
  have m1 : (m : Int) ≤ (z : Int) := by omega
  have hz7 : 7 ≤ z ∧ z ≤ 3000 := by omega
  obtain ⟨z7, z8⟩ := hz7
  clear hzz
  generalize str (frm (nums s)) = S at *
  go_enter Try.func4, Try.ntmps4
  go_wp2_with (first
    | (go_at_call 11; refine (awake _).mono ?_; rintro e w1 ⟨rfl, ho1⟩)
    | (go_at_call 12; refine (kf.out _).mono ?_; rintro e w2 ⟨rfl, ho2⟩)
    | (go_at_call 14; with_reducible refine (k1.out _).mono ?_; rintro e w3 ⟨rfl, ho3⟩)
    | (go_at_call 14; with_reducible refine (k2.out _).mono ?_; rintro e w4 ⟨rfl, ho4⟩)
    | (go_at_call 16; refine (k3.out _).mono ?_; rintro e w5 ⟨rfl, ho5⟩))
  go_ret
  exact ⟨rfl, ((((ho1.trans ho2 (by simp)).trans ho3 (by simp)).trans ho4 (by simp)).trans ho5 (by simp)).to_below⟩
theorem frameBack (s b : ByteArray) (c : Int) (w : World) (_ : s.size ≤ 140737488351232) (_ : b.size ≤ 140737488351232) (_ : (Lit.int .i64 c).wf = true) :
    Calls Try.prog 4 #[.string s, .string b, .int .i64 c] w fun e w' => e = .returned (.bool true) ∧ Below w.heap.size w w' := by
  by_cases hb : b.size ≤ 1024
  · have d1 : decide ((1024 : Int) < (b.size : Int)) = false := decide_eq_false (by omega)
    by_cases h : 1 ≤ s.size ∧ s.size ≤ 2048
    · exact back_main s b c w hb h
    · have kf := Lib.hid (fun w' => frameOf s w')
      rw [ofV_no s h] at kf
      have hd : ((s.size : Int) == 0) = true ∨ ((s.size : Int) == 0) = false ∧ decide ((2048 : Int) < (s.size : Int)) = true := by
        by_cases h1 : s.size = 0
        · exact .inl (by rw [h1]; rfl)
        · exact .inr ⟨by rw [beq_eq_false_iff_ne]; omega, decide_eq_true (by omega)⟩
      clear h
      rcases hd with hd | ⟨hd, hd2⟩
      all_goals
        go_enter Try.func4, Try.ntmps4
        go_wp2_with (first
          | (go_at_call 11; refine (awake _).mono ?_; rintro e w1 ⟨rfl, ho1⟩)
          | (go_at_call 12; refine (kf.out _).mono ?_; rintro e w2 ⟨rfl, ho2⟩))
        go_ret
        exact ⟨rfl, (ho1.trans ho2 (by simp)).to_below⟩
  · have d1 : decide ((1024 : Int) < (b.size : Int)) = true := decide_eq_true (by omega)
    go_enter Try.func4, Try.ntmps4
    go_wp2_with (go_at_call 11; refine (awake _).mono ?_; rintro e w1 ⟨rfl, ho1⟩)
    go_ret
    exact ⟨rfl, ho1.to_below⟩
end Go.Proofs.Ytfjkcegdodpgdaa.Fr
