/- Frames are the document's: the walk of the statement. -/
import Derived.Test.YtfjkcegdodpgdaaProg
import Derived.Below
import Derived.WalkKit
import Derived.KernelRfl
import Derived.RowKit3
import Derived.Deep.LoopGhost
import Derived.Deep.QuietTactic
import Derived.BigQuiet
import Derived.WideLaws
import Derived.Deep.DeepCutAuto
import Derived.Deep.CutBlock
import Derived.Lib.Hide
import Derived.Laws.BitsLemmas
import Derived.Laws.Bits64
import Derived.Laws.BitsAllLaws
import Derived.IntWalk
import Derived.Outline
import Derived.WalkSpells
import Derived.Test.YtfjkcegdodpgdaaMem
import Derived.Test.YtfjkcegdodpgdaaFr3
namespace Go.Proofs.Ytfjkcegdodpgdaa.Fr
open Go.RowKit Go.Proofs.Ytfjkcegdodpgdaa.Mem Go.Proofs.Ytfjkcegdodpgdaa.Pk

set_option maxHeartbeats 1600000 in
theorem exact_main (b s : ByteArray) (w : World) (hb : b.size ≤ 4096) (hs : s.size ≤ 4096) :
    Calls Try.prog 3 #[.string b, .string s] w fun e w' => e = .returned (.bool true) ∧ Below w.heap.size w w' := by
  have d1 : decide ((4096 : Int) < (b.size : Int)) = false := decide_eq_false (by omega)
  have d2 : decide ((4096 : Int) < (s.size : Int)) = false := decide_eq_false (by omega)
  have k1 := Lib.hid (fun w' => frameOf b w')
  have k2 := Lib.hid (fun w' => refOf b w')
  have k3 := Lib.hid (fun w' => next s (by omega) w')
  have k4 := Lib.hid (fun w' => refNext s (by omega) w')
  have k5 := Lib.hid (fun w' => body s (by omega) w')
  have hof : (ofV b).2 = 0 ∨ (ofV b).2 = 1 := by
    unfold ofV
    split
    · exact .inl rfl
    · exact .inr rfl
  have hbv : bodyV s = if (nextV s).2.2 = 1 ∧ (nextV s).2.1 = s.size then ((nextV s).1, 0) else (⟨#[]⟩, 4) := rfl
  generalize bodyV s = q3 at *
  generalize ofV b = q1 at *
  generalize nextV s = q2 at *
  obtain ⟨f, e⟩ := q1
  obtain ⟨a, n, t⟩ := q2
  obtain ⟨c, g⟩ := q3
  dsimp only at hof hbv
  have r1 := beq_yes (show f = f from rfl)
  have r2 := beq_yes (show a = a from rfl)
  have hc : (((t : Int) == 1) = true ∧ ((n : Int) == (s.size : Int)) = true ∧ c = a ∧ g = 0) ∨ ((((t : Int) == 1) = false ∨ ((t : Int) == 1) = true ∧ ((n : Int) == (s.size : Int)) = false) ∧ c = ⟨#[]⟩ ∧ g = 4) := by
    by_cases h : t = 1 ∧ n = s.size
    · rw [if_pos h] at hbv
      injection hbv with h1 h2
      exact .inl ⟨by rw [beq_iff_eq]; omega, by rw [beq_iff_eq]; omega, h1, h2⟩
    · rw [if_neg h] at hbv
      injection hbv with h1 h2
      refine .inr ⟨?_, h1, h2⟩
      by_cases ht : t = 1
      · exact .inr ⟨by rw [beq_iff_eq]; omega, by rw [beq_eq_false_iff_ne]; omega⟩
      · exact .inl (by rw [beq_eq_false_iff_ne]; omega)
  clear hbv
  rcases hof with rfl | rfl <;> rcases hc with ⟨c1, c2, rfl, rfl⟩ | ⟨c1 | ⟨c1, c2⟩, rfl, rfl⟩
  all_goals
    go_enter Try.func3, Try.ntmps3
    go_wp2_with (first
      | (go_at_call 11; refine (awake _).mono ?_; rintro e w1 ⟨rfl, ho1⟩)
      | (go_at_call 12; refine (k1.out _).mono ?_; rintro e w2 ⟨rfl, ho2⟩)
      | (go_at_call 13; refine (k2.out _).mono ?_; rintro e w3 ⟨rfl, ho3⟩)
      | (go_at_call 14; refine (k3.out _).mono ?_; rintro e w4 ⟨rfl, ho4⟩)
      | (go_at_call 15; refine (k4.out _).mono ?_; rintro e w5 ⟨rfl, ho5⟩)
      | (go_at_call 16; refine (k5.out _).mono ?_; rintro e w6 ⟨rfl, ho6⟩))
    go_ret
    exact ⟨rfl, (((((ho1.trans ho2 (by simp)).trans ho3 (by simp)).trans ho4 (by simp)).trans ho5 (by simp)).trans ho6 (by simp)).to_below⟩
theorem frameExact (b s : ByteArray) (w : World) (_ : b.size ≤ 140737488351232) (_ : s.size ≤ 140737488351232) :
    Calls Try.prog 3 #[.string b, .string s] w fun e w' => e = .returned (.bool true) ∧ Below w.heap.size w w' := by
  by_cases hb : b.size ≤ 4096
  · by_cases hs : s.size ≤ 4096
    · exact exact_main b s w hb hs
    · have d1 : decide ((4096 : Int) < (b.size : Int)) = false := decide_eq_false (by omega)
      have d2 : decide ((4096 : Int) < (s.size : Int)) = true := decide_eq_true (by omega)
      go_enter Try.func3, Try.ntmps3
      go_wp2_with (go_at_call 11; refine (awake _).mono ?_; rintro e w1 ⟨rfl, ho1⟩)
      go_ret
      exact ⟨rfl, ho1.to_below⟩
  · have d1 : decide ((4096 : Int) < (b.size : Int)) = true := decide_eq_true (by omega)
    go_enter Try.func3, Try.ntmps3
    go_wp2_with (go_at_call 11; refine (awake _).mono ?_; rintro e w1 ⟨rfl, ho1⟩)
    go_ret
    exact ⟨rfl, ho1.to_below⟩
end Go.Proofs.Ytfjkcegdodpgdaa.Fr
