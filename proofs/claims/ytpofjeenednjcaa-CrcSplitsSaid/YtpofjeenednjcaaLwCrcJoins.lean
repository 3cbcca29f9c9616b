/- Of every two texts the sum of both together is that which their sums and the second one's length tell: the walk of the statement. -/
import Derived.Test.YtpofjeenednjcaaProg
import Derived.Below
import Derived.WalkKit
import Derived.KernelRfl
import Derived.RowKit3
import Derived.Deep.LoopGhost
import Derived.Deep.QuietTactic
import Derived.BigQuiet
import Derived.WideLaws
import Derived.Deep.DeepCutAuto
import Derived.Deep.CutBlock
import Derived.Lib.Hide
import Derived.Laws.BitsLemmas
import Derived.Laws.Bits64
import Derived.Laws.BitsAllLaws
import Derived.IntWalk
import Derived.Outline
import Derived.Test.YtpofjeenednjcaaMem
import Derived.Test.YtpofjeenednjcaaCrcA
namespace Go.Proofs.Ytpofjeenednjcaa.CrcF
open Go.RowKit Go.Proofs.Ytpofjeenednjcaa Go.Proofs.Ytpofjeenednjcaa.Mem

theorem join_s (a b : ByteArray) (hb : b.size ≤ 140737488351232) (w : World) :
    Calls Try.prog 20 #[.int .u32 ((Crc.crc (nums a) : Nat) : Int), .int .u32 ((Crc.crc (nums b) : Nat) : Int), .int .i64 (b.size : Nat)] w fun e w' => e = .returned (.int .u32 ((Crc.crc (nums (a ++ b)) : Nat) : Int)) ∧ w = w' := by
  have h := join (nums a) (nums b) (nums_lt a) (nums_lt b) (by rw [nums_length]; exact hb) w
  rw [nums_length, ← nums_append] at h
  exact h
set_option maxHeartbeats 400000 in
theorem crcJoins_walk (a b : ByteArray) (n other : Int) (w : World) (wa : a.size ≤ 140737488351232) (wb : b.size ≤ 140737488351232) (_wn : (Lit.int .i64 n).wf = true) (_wo : (Lit.int .u32 other).wf = true) :
    Calls Try.prog 4 #[.string a, .string b, .int .i64 n, .int .u32 other] w fun e w' => e = .returned (.bool true) ∧ Below w.heap.size w w' := by
  by_cases ha : a.size ≤ 4096
  · by_cases hb : b.size ≤ 4096
    · have z2 : (a ++ b).size ≤ 140737488351232 := by simp [ByteArray.size_append]; omega
      by_cases hn : n < 1
      · have hd : decide (n < 1) = true := decide_eq_true hn
        go_enter Try.func4, Try.ntmps4
        go_wp2_with (first
          | (go_at_call 15; refine (awake _).mono ?_; rintro e w' ⟨rfl, ho⟩)
          | (go_at_call 16; first | ((with_reducible refine (of_new1 a wa _ _ (by simp)).mono ?_); rintro e w' ⟨rfl, rfl⟩) | ((with_reducible refine (of_new1 b wb _ _ (by simp)).mono ?_); rintro e w' ⟨rfl, rfl⟩))
          | (go_at_call 17; refine (ref_of (a ++ b) z2 _).mono ?_; rintro e w' ⟨rfl, rfl⟩)
          | (go_at_call 20; first | ((with_reducible refine (join_s a b wb _).mono ?_); rintro e w' ⟨rfl, rfl⟩) | ((with_reducible refine (join_no _ other n hn _).mono ?_); rintro e w' ⟨rfl, rfl⟩)))
        go_ret
        exact ⟨rfl, ((((ho.alloc _).alloc _).alloc _).alloc _).to_below⟩
      · have hd : decide (n < 1) = false := decide_eq_false hn
        go_enter Try.func4, Try.ntmps4
        go_wp2_with (first
          | (go_at_call 15; refine (awake _).mono ?_; rintro e w' ⟨rfl, ho⟩)
          | (go_at_call 16; first | ((with_reducible refine (of_new1 a wa _ _ (by simp)).mono ?_); rintro e w' ⟨rfl, rfl⟩) | ((with_reducible refine (of_new1 b wb _ _ (by simp)).mono ?_); rintro e w' ⟨rfl, rfl⟩))
          | (go_at_call 17; refine (ref_of (a ++ b) z2 _).mono ?_; rintro e w' ⟨rfl, rfl⟩)
          | (go_at_call 20; (with_reducible refine (join_s a b wb _).mono ?_); rintro e w' ⟨rfl, rfl⟩))
        go_ret
        exact ⟨rfl, ((ho.alloc _).alloc _).to_below⟩
    · have hd : decide (4096 < b.size) = true := decide_eq_true (by omega)
      go_enter Try.func4, Try.ntmps4
      go_wp2_with (go_at_call 15; refine (awake _).mono ?_; rintro e w' ⟨rfl, ho⟩)
      go_ret
      exact ⟨rfl, ho.to_below⟩
  · have hd : decide (4096 < a.size) = true := decide_eq_true (by omega)
    go_enter Try.func4, Try.ntmps4
    go_wp2_with (go_at_call 15; refine (awake _).mono ?_; rintro e w' ⟨rfl, ho⟩)
    go_ret
    exact ⟨rfl, ho.to_below⟩
end Go.Proofs.Ytpofjeenednjcaa.CrcF
