/- Contracts of the functions of layer 1 and of its reference: they come to the plain sums of CrcMath. -/
import Derived.Test.YthflkhalipkdgaaProg
import Derived.Below
import Derived.WalkKit
import Derived.KernelRfl
import Derived.RowKit3
import Derived.Deep.LoopGhost
import Derived.Deep.QuietTactic
import Derived.BigQuiet
import Derived.WideLaws
import Derived.Deep.DeepCutAuto
import Derived.Deep.CutBlock
import Derived.Lib.Hide
import Derived.Laws.BitsLemmas
import Derived.Laws.Bits64
import Derived.Laws.BitsAllLaws
import Derived.IntWalk
import Derived.Outline
import Derived.WalkSpells
import Derived.Test.YthflkhalipkdgaaMem
import Derived.Test.YthflkhalipkdgaaCrcMath
namespace Go.Proofs.Ythflkhalipkdgaa.CrcF
set_option maxRecDepth 20000
set_option linter.unusedVariables false
set_option linter.unusedSimpArgs false
open Go.RowKit Go.Proofs.Ythflkhalipkdgaa Go.Proofs.Ythflkhalipkdgaa.Mem

theorem ret_int {k : IntKind} {a b : Int} (h : a = b) : Ending.returned (.int k a) = .returned (.int k b) := by rw [h]
theorem ret_bool {a b : Bool} (h : a = b) : Ending.returned (.bool a) = .returned (.bool b) := by rw [h]
theorem xorC {a b : Nat} (h : a < 4294967296) (hb : b < 4294967296) : bits .xor .u32 (a : Int) (b : Int) = ((a ^^^ b : Nat) : Int) := u32_xor_nat a b h hb
theorem and1 {a : Nat} (h : a < 4294967296) : bits .and .u32 (a : Int) 1 = ((a % 2 : Nat) : Int) := by
  have := u32_and_nat a 1 h (by decide)
  rw [Nat.and_one_is_mod] at this
  exact this
theorem X_odd {r : Nat} (h : r < 4294967296) (ho : r % 2 = 1) : bits .xor .u32 ((r : Int) / 2) 3988292384 = ((Crc.X r : Nat) : Int) := by
  unfold Crc.X
  rw [if_pos ho, show (r : Int) / 2 = ((r / 2 : Nat) : Int) by omega]
  exact xorC (by omega) (b := 3988292384) (by decide)
theorem X_even {r : Nat} (ho : ¬ r % 2 = 1) : (r : Int) / 2 = ((Crc.X r : Nat) : Int) := by
  unfold Crc.X
  rw [if_neg ho, show (r : Int) / 2 = ((r / 2 : Nat) : Int) by omega, Nat.xor_zero]

theorem step (r c : Nat) (hr : r < 4294967296) (hc : c < 256) (w : World) :
    Calls Try.prog 100 #[.int .u32 r, .int .u8 c] w fun e w' => e = .returned (.int .u32 ((Crc.stepN r c : Nat) : Int)) ∧ w = w' := by
  have hx : r ^^^ c < 4294967296 := Crc.xor_lt hr (by omega)
  have H0 := Lib.hid (show bits .xor .u32 (r : Int) (c : Int) = ((r ^^^ c : Nat) : Int) from xorC hr (by omega))
  go_enter Try.func100, Try.ntmps100
  go_wp2
  go_loop [0, 10] (fun t i => ∃ k : Nat, k ≤ 8 ∧ i = .int .i64 k ∧ t = .int .u32 ((Crc.Xn k (r ^^^ c) : Nat) : Int)) (fun _ i => 8 - (intOf i).toNat)
  case atStart => exact ⟨0, Nat.zero_le _, rfl, by rw [H0.out]; rfl⟩
  case round =>
    obtain ⟨k, hk, rfl, rfl⟩ := hrel
    have hs := Lib.hid (Crc.Xn_succ k (r ^^^ c))
    have hlt := Crc.Xn_lt k hx
    generalize hg : Crc.Xn k (r ^^^ c) = x at *
    have Hg := Lib.hid hg
    clear hg
    by_cases hk8 : k < 8
    · by_cases ho : x % 2 = 1
      · have ht : (bits .and .u32 (x : Int) 1 == 1) = true := by rw [and1 hlt, ho]; rfl
        have HX := Lib.hid (X_odd hlt ho)
        clear ho
        go_wp2
        go_round
        case rel => exact ⟨k + 1, by omega, by go_num, by rw [hs.out, HX.out]⟩
        case measure => simp [intOf]; omega
      · have ht : (bits .and .u32 (x : Int) 1 == 1) = false := by rw [and1 hlt, beq_eq_false_iff_ne]; omega
        have HX := Lib.hid (X_even ho)
        clear ho
        go_wp2
        go_round
        case rel => exact ⟨k + 1, by omega, by go_num, by rw [hs.out, HX.out]⟩
        case measure => simp [intOf]; omega
    · obtain rfl : k = 8 := by omega
      go_wp2
      go_ret
      exact ⟨ret_int (by rw [← Hg.out]; rfl), rfl⟩

/-- the bytes of a text, as numbers -/
def nums (s : ByteArray) : List Nat := s.data.toList.map UInt8.toNat
theorem nums_lt (s : ByteArray) : ∀ c ∈ nums s, c < 256 := by
  intro c hc
  obtain ⟨x, _, rfl⟩ := List.mem_map.mp hc
  exact x.toNat_lt
theorem nums_length (s : ByteArray) : (nums s).length = s.size := by simp [nums]
theorem nums_append (s t : ByteArray) : nums (s ++ t) = nums s ++ nums t := by simp [nums, ByteArray.data_append]
theorem nums_take (s : ByteArray) (k : Nat) (h : k < s.size) : (nums s).take (k + 1) = (nums s).take k ++ [s[k].toNat] := by
  rw [List.take_succ_eq_append_getElem (by rw [nums_length]; exact h)]
  simp [nums]
  rfl

theorem more (sum : Nat) (s : ByteArray) (hr : sum < 4294967296) (hs : s.size ≤ 140737488351232) (w : World) :
    Calls Try.prog 99 #[.int .u32 sum, .string s] w fun e w' => e = .returned (.int .u32 ((Crc.more sum (nums s) : Nat) : Int)) ∧ w = w' := by
  have hx : sum ^^^ Crc.ones < 4294967296 := Crc.xor_lt hr (by decide)
  have H0 := Lib.hid (show bits .xor .u32 (sum : Int) 4294967295 = ((sum ^^^ Crc.ones : Nat) : Int) from xorC hr (b := Crc.ones) (by decide))
  go_enter Try.func99, Try.ntmps99
  go_wp2
  go_loop [5, 11] (fun t i => ∃ k : Nat, k ≤ s.size ∧ i = .int .i64 k ∧ t = .int .u32 ((Crc.run (sum ^^^ Crc.ones) ((nums s).take k) : Nat) : Int)) (fun _ i => s.size - (intOf i).toNat)
  case atStart => exact ⟨0, Nat.zero_le _, rfl, by rw [H0.out]; rfl⟩
  case round =>
    obtain ⟨k, hk, rfl, rfl⟩ := hrel
    have hlt := Crc.run_lt ((nums s).take k) hx (fun c hc => nums_lt s c (List.mem_of_mem_take hc))
    by_cases hks : k < s.size
    · have hs' := Lib.hid (show Crc.run (sum ^^^ Crc.ones) ((nums s).take (k + 1)) = Crc.stepN (Crc.run (sum ^^^ Crc.ones) ((nums s).take k)) s[k].toNat by
        rw [nums_take s k hks, Crc.run_append]; rfl)
      have hb := s[k].toNat_lt
      go_wp2_with (go_at_call 100; refine (step _ _ hlt hb _).mono ?_; rintro e w' ⟨rfl, rfl⟩)
      go_round
      case rel => exact ⟨k + 1, by omega, by go_num, by rw [hs'.out]⟩
      case measure => simp [intOf]; omega
    · obtain rfl : k = s.size := by omega
      have H1 := Lib.hid (show bits .xor .u32 ((Crc.run (sum ^^^ Crc.ones) ((nums s).take s.size) : Nat) : Int) 4294967295 = ((Crc.more sum (nums s) : Nat) : Int) by
        rw [List.take_of_length_le (by rw [nums_length]; omega)] at hlt ⊢
        exact xorC hlt (b := Crc.ones) (by decide))
      go_wp2
      go_ret
      exact ⟨ret_int H1.out, rfl⟩

theorem power_lt : ∀ (j n out base : Nat), out < 4294967296 → base < 4294967296 → Crc.pow j n out base < 4294967296
  | 0, _, _, _, h, _ => h
  | j + 1, n, out, base, h, hb => by
    simp only [Crc.pow]
    split
    · exact h
    · refine power_lt j _ _ _ ?_ (Crc.times_lt 32 _ _ 0 hb (by decide))
      split
      · exact Crc.times_lt 32 _ _ 0 hb (by decide)
      · exact h
theorem tim_lt {a b : Nat} (hb : b < 4294967296) : Crc.tim a b < 4294967296 := Crc.times_lt 32 a b 0 hb (by decide)
end Go.Proofs.Ythflkhalipkdgaa.CrcF
