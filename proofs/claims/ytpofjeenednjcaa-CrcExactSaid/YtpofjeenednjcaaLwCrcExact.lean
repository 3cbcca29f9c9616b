/- Of every row of texts the sum, and that of more, are the document's: the walk of the statement. -/
import Derived.Test.YtpofjeenednjcaaProg
import Derived.Below
import Derived.WalkKit
import Derived.KernelRfl
import Derived.RowKit3
import Derived.Deep.LoopGhost
import Derived.Deep.QuietTactic
import Derived.BigQuiet
import Derived.WideLaws
import Derived.Deep.DeepCutAuto
import Derived.Deep.CutBlock
import Derived.Lib.Hide
import Derived.Laws.BitsLemmas
import Derived.Laws.Bits64
import Derived.Laws.BitsAllLaws
import Derived.IntWalk
import Derived.Outline
import Derived.Test.YtpofjeenednjcaaMem
import Derived.Test.YtpofjeenednjcaaCrcA
namespace Go.Proofs.Ytpofjeenednjcaa.CrcF
open Go.RowKit Go.Proofs.Ytpofjeenednjcaa Go.Proofs.Ytpofjeenednjcaa.Mem

theorem of_new3j (s t u : ByteArray) (hs : s.size ≤ 140737488351232) (ht : t.size ≤ 140737488351232) (hu : u.size ≤ 140737488351232) (n : Nat) (w : World) (hn : n = w.heap.size) :
    Calls Try.prog 16 #[.slice (some ⟨n, 0, none⟩) 3 3] (w.alloc (.cells #[.string s, .string t, .string u] 9)) fun e w' => e = .returned (.int .u32 ((Crc.crc (nums (s ++ t ++ u)) : Nat) : Int)) ∧ w.alloc (.cells #[.string s, .string t, .string u] 9) = w' := by
  rw [nums_append, nums_append]
  exact of_new3 s t u hs ht hu n w hn
theorem more_j (a b : ByteArray) (hb : b.size ≤ 140737488351232) (w : World) :
    Calls Try.prog 18 #[.int .u32 ((Crc.crc (nums a) : Nat) : Int), .string b] w fun e w' => e = .returned (.int .u32 ((Crc.crc (nums (a ++ b)) : Nat) : Int)) ∧ w = w' := by
  rw [nums_append, ← Crc.more_crc]
  exact more _ b (Crc.crc_lt _ (nums_lt a)) hb w
theorem crcExact_walk (a b c : ByteArray) (sum : Int) (w : World) (wa : a.size ≤ 140737488351232) (wb : b.size ≤ 140737488351232) (wc : c.size ≤ 140737488351232) (_ws : (Lit.int .u32 sum).wf = true) :
    Calls Try.prog 3 #[.string a, .string b, .string c, .int .u32 sum] w fun e w' => e = .returned (.bool true) ∧ Below w.heap.size w w' := by
  by_cases ha : a.size ≤ 4096
  · by_cases hb : b.size ≤ 4096
    · by_cases hc : c.size ≤ 4096
      · have z3 : (a ++ b ++ c).size ≤ 140737488351232 := by simp [ByteArray.size_append]; omega
        have z2 : (a ++ b).size ≤ 140737488351232 := by simp [ByteArray.size_append]; omega
        go_enter Try.func3, Try.ntmps3
        go_wp2_with (first
          | (go_at_call 15; refine (awake _).mono ?_; rintro e w' ⟨rfl, ho⟩)
          | (go_at_call 16; first | ((with_reducible refine (of_new3j a b c wa wb wc _ _ (by simp)).mono ?_); rintro e w' ⟨rfl, rfl⟩) | ((with_reducible refine (of_new1 a wa _ _ (by simp)).mono ?_); rintro e w' ⟨rfl, rfl⟩))
          | (go_at_call 18; refine (more_j a b wb _).mono ?_; rintro e w' ⟨rfl, rfl⟩)
          | (go_at_call 17; first | ((with_reducible refine (ref_of (a ++ b ++ c) z3 _).mono ?_); rintro e w' ⟨rfl, rfl⟩) | ((with_reducible refine (ref_of (a ++ b) z2 _).mono ?_); rintro e w' ⟨rfl, rfl⟩) | ((with_reducible refine (ref_of c wc _).mono ?_); rintro e w' ⟨rfl, rfl⟩))
          | (go_at_call 19; refine (is_any c sum wc _).mono ?_; rintro e w' ⟨rfl, ho2⟩))
        go_ret
        exact ⟨rfl, (((ho.alloc _).alloc _).trans ho2 (by simp)).to_below⟩
      · have hd : decide (4096 < c.size) = true := decide_eq_true (by omega)
        go_enter Try.func3, Try.ntmps3
        go_wp2_with (go_at_call 15; refine (awake _).mono ?_; rintro e w' ⟨rfl, ho⟩)
        go_ret
        exact ⟨rfl, ho.to_below⟩
    · have hd : decide (4096 < b.size) = true := decide_eq_true (by omega)
      go_enter Try.func3, Try.ntmps3
      go_wp2_with (go_at_call 15; refine (awake _).mono ?_; rintro e w' ⟨rfl, ho⟩)
      go_ret
      exact ⟨rfl, ho.to_below⟩
  · have hd : decide (4096 < a.size) = true := decide_eq_true (by omega)
    go_enter Try.func3, Try.ntmps3
    go_wp2_with (go_at_call 15; refine (awake _).mono ?_; rintro e w' ⟨rfl, ho⟩)
    go_ret
    exact ⟨rfl, ho.to_below⟩
end Go.Proofs.Ytpofjeenednjcaa.CrcF
