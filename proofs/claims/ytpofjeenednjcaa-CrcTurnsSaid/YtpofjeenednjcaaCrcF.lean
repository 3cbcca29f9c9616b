/- Contracts of the functions of layer 1 and of its reference: they come to the plain sums of CrcMath. -/
import Derived.Test.YtpofjeenednjcaaProg
import Derived.Below
import Derived.WalkKit
import Derived.KernelRfl
import Derived.RowKit3
import Derived.Deep.LoopGhost
import Derived.Deep.QuietTactic
import Derived.BigQuiet
import Derived.WideLaws
import Derived.Deep.DeepCutAuto
import Derived.Deep.CutBlock
import Derived.Lib.Hide
import Derived.Laws.BitsLemmas
import Derived.Laws.Bits64
import Derived.Laws.BitsAllLaws
import Derived.IntWalk
import Derived.Outline
import Derived.WalkSpells
import Derived.Test.YtpofjeenednjcaaMem
import Derived.Test.YtpofjeenednjcaaCrcMath
namespace Go.Proofs.Ytpofjeenednjcaa.CrcF
open Go.RowKit Go.Proofs.Ytpofjeenednjcaa Go.Proofs.Ytpofjeenednjcaa.Mem

theorem ret_int {k : IntKind} {a b : Int} (h : a = b) : Ending.returned (.int k a) = .returned (.int k b) := by rw [h]
theorem ret_bool {a b : Bool} (h : a = b) : Ending.returned (.bool a) = .returned (.bool b) := by rw [h]
theorem xorC {a b : Nat} (h : a < 4294967296) (hb : b < 4294967296) : bits .xor .u32 (a : Int) (b : Int) = ((a ^^^ b : Nat) : Int) := u32_xor_nat a b h hb
theorem and1 {a : Nat} (h : a < 4294967296) : bits .and .u32 (a : Int) 1 = ((a % 2 : Nat) : Int) := by
  have := u32_and_nat a 1 h (by decide)
  rw [Nat.and_one_is_mod] at this
  exact this
theorem X_odd {r : Nat} (h : r < 4294967296) (ho : r % 2 = 1) : bits .xor .u32 ((r : Int) / 2) 3988292384 = ((Crc.X r : Nat) : Int) := by
  unfold Crc.X
  rw [if_pos ho, show (r : Int) / 2 = ((r / 2 : Nat) : Int) by omega]
  exact xorC (by omega) (b := 3988292384) (by decide)
theorem X_even {r : Nat} (ho : ¬ r % 2 = 1) : (r : Int) / 2 = ((Crc.X r : Nat) : Int) := by
  unfold Crc.X
  rw [if_neg ho, show (r : Int) / 2 = ((r / 2 : Nat) : Int) by omega, Nat.xor_zero]

theorem step (r c : Nat) (hr : r < 4294967296) (hc : c < 256) (w : World) :
    Calls Try.prog 44 #[.int .u32 r, .int .u8 c] w fun e w' => e = .returned (.int .u32 ((Crc.stepN r c : Nat) : Int)) ∧ w = w' := by
  have hx : r ^^^ c < 4294967296 := Crc.xor_lt hr (by omega)
  have H0 := Lib.hid (show bits .xor .u32 (r : Int) (c : Int) = ((r ^^^ c : Nat) : Int) from xorC hr (by omega))
  go_enter Try.func44, Try.ntmps44
  go_wp2
  go_loop [0, 10] (fun t i => ∃ k : Nat, k ≤ 8 ∧ i = .int .i64 k ∧ t = .int .u32 ((Crc.Xn k (r ^^^ c) : Nat) : Int)) (fun _ i => 8 - (intOf i).toNat)
  case atStart => exact ⟨0, Nat.zero_le _, rfl, by rw [H0.out]; rfl⟩
  case round =>
    obtain ⟨k, hk, rfl, rfl⟩ := hrel
    have hs := Lib.hid (Crc.Xn_succ k (r ^^^ c))
    have hlt := Crc.Xn_lt k hx
    generalize hg : Crc.Xn k (r ^^^ c) = x at *
    have Hg := Lib.hid hg
    clear hg
    by_cases hk8 : k < 8
    · by_cases ho : x % 2 = 1
      · have ht : (bits .and .u32 (x : Int) 1 == 1) = true := by rw [and1 hlt, ho]; rfl
        have HX := Lib.hid (X_odd hlt ho)
        clear ho
        go_wp2
        go_round
        case rel => exact ⟨k + 1, by omega, by go_num, by rw [hs.out, HX.out]⟩
        case measure => simp [intOf]; omega
      · have ht : (bits .and .u32 (x : Int) 1 == 1) = false := by rw [and1 hlt, beq_eq_false_iff_ne]; omega
        have HX := Lib.hid (X_even ho)
        clear ho
        go_wp2
        go_round
        case rel => exact ⟨k + 1, by omega, by go_num, by rw [hs.out, HX.out]⟩
        case measure => simp [intOf]; omega
    · obtain rfl : k = 8 := by omega
      go_wp2
      go_ret
      exact ⟨ret_int (by rw [← Hg.out]; rfl), rfl⟩

/-- the bytes of a text, as numbers -/
def nums (s : ByteArray) : List Nat := s.data.toList.map UInt8.toNat
theorem nums_lt (s : ByteArray) : ∀ c ∈ nums s, c < 256 := by
  intro c hc
  obtain ⟨x, _, rfl⟩ := List.mem_map.mp hc
  exact x.toNat_lt
theorem nums_length (s : ByteArray) : (nums s).length = s.size := by simp [nums]
theorem nums_append (s t : ByteArray) : nums (s ++ t) = nums s ++ nums t := by simp [nums, ByteArray.data_append]
theorem nums_take (s : ByteArray) (k : Nat) (h : k < s.size) : (nums s).take (k + 1) = (nums s).take k ++ [s[k].toNat] := by
  rw [List.take_succ_eq_append_getElem (by rw [nums_length]; exact h)]
  simp [nums]
  rfl

theorem more (sum : Nat) (s : ByteArray) (hr : sum < 4294967296) (hs : s.size ≤ 140737488351232) (w : World) :
    Calls Try.prog 18 #[.int .u32 sum, .string s] w fun e w' => e = .returned (.int .u32 ((Crc.more sum (nums s) : Nat) : Int)) ∧ w = w' := by
  have hx : sum ^^^ Crc.ones < 4294967296 := Crc.xor_lt hr (by decide)
  have H0 := Lib.hid (show bits .xor .u32 (sum : Int) 4294967295 = ((sum ^^^ Crc.ones : Nat) : Int) from xorC hr (b := Crc.ones) (by decide))
  go_enter Try.func18, Try.ntmps18
  go_wp2
  go_loop [5, 11] (fun t i => ∃ k : Nat, k ≤ s.size ∧ i = .int .i64 k ∧ t = .int .u32 ((Crc.run (sum ^^^ Crc.ones) ((nums s).take k) : Nat) : Int)) (fun _ i => s.size - (intOf i).toNat)
  case atStart => exact ⟨0, Nat.zero_le _, rfl, by rw [H0.out]; rfl⟩
  case round =>
    obtain ⟨k, hk, rfl, rfl⟩ := hrel
    have hlt := Crc.run_lt ((nums s).take k) hx (fun c hc => nums_lt s c (List.mem_of_mem_take hc))
    by_cases hks : k < s.size
    · have hs' := Lib.hid (show Crc.run (sum ^^^ Crc.ones) ((nums s).take (k + 1)) = Crc.stepN (Crc.run (sum ^^^ Crc.ones) ((nums s).take k)) s[k].toNat by
        rw [nums_take s k hks, Crc.run_append]; rfl)
      have hb := s[k].toNat_lt
      go_wp2_with (go_at_call 44; refine (step _ _ hlt hb _).mono ?_; rintro e w' ⟨rfl, rfl⟩)
      go_round
      case rel => exact ⟨k + 1, by omega, by go_num, by rw [hs'.out]⟩
      case measure => simp [intOf]; omega
    · obtain rfl : k = s.size := by omega
      have H1 := Lib.hid (show bits .xor .u32 ((Crc.run (sum ^^^ Crc.ones) ((nums s).take s.size) : Nat) : Int) 4294967295 = ((Crc.more sum (nums s) : Nat) : Int) by
        rw [List.take_of_length_le (by rw [nums_length]; omega)] at hlt ⊢
        exact xorC hlt (b := Crc.ones) (by decide))
      go_wp2
      go_ret
      exact ⟨ret_int H1.out, rfl⟩

theorem power_lt : ∀ (j n out base : Nat), out < 4294967296 → base < 4294967296 → Crc.pow j n out base < 4294967296
  | 0, _, _, _, h, _ => h
  | j + 1, n, out, base, h, hb => by
    simp only [Crc.pow]
    split
    · exact h
    · refine power_lt j _ _ _ ?_ (Crc.times_lt 32 _ _ 0 hb (by decide))
      split
      · exact Crc.times_lt 32 _ _ 0 hb (by decide)
      · exact h
theorem tim_lt {a b : Nat} (hb : b < 4294967296) : Crc.tim a b < 4294967296 := Crc.times_lt 32 a b 0 hb (by decide)
theorem times (a b : Nat) (ha : a < 4294967296) (hb : b < 4294967296) (w : World) :
    Calls Try.prog 45 #[.int .u32 a, .int .u32 b] w fun e w' => e = .returned (.int .u32 ((Crc.tim a b : Nat) : Int)) ∧ w = w' := by
  go_enter Try.func45, Try.ntmps45
  go_wp2
  go_loop [1, 5, 8] (fun vb t i => ∃ (k x o : Nat), k ≤ 32 ∧ x < 4294967296 ∧ o < 4294967296 ∧ Crc.times (32 - k) a x o = Crc.tim a b ∧ i = .int .i64 k ∧ vb = .int .u32 x ∧ t = .int .u32 o) (fun _ _ i => 32 - (intOf i).toNat)
  case atStart => exact ⟨0, b, 0, Nat.zero_le _, hb, by decide, rfl, rfl, rfl, rfl⟩
  case round =>
    obtain ⟨k, x, o, hk, hxl, hol, ht, rfl, rfl, rfl⟩ := hrel
    have HT := Lib.hid ht
    clear ht
    by_cases hk32 : k < 32
    · have hA := Lib.hid (show bits .and .u32 ((a : Int) / 2 ^ (31 - k)) 1 = ((a / 2 ^ (31 - k) % 2 : Nat) : Int) by
        have hd : a / 2 ^ (31 - k) < 4294967296 := Nat.lt_of_le_of_lt (Nat.div_le_self _ _) ha
        rw [show ((a : Int) / 2 ^ (31 - k)) = ((a / 2 ^ (31 - k) : Nat) : Int) by simp, and1 hd])
      have hB := Lib.hid (and1 hxl)
      have HO := Lib.hid (fun h : x % 2 = 1 => X_odd hxl h)
      have HE := Lib.hid (fun h : ¬ x % 2 = 1 => X_even h)
      have HX := Lib.hid (xorC hol hxl)
      have hT := Lib.hid (show Crc.times (32 - (k + 1)) a (Crc.X x) (if a / 2 ^ (31 - k) % 2 = 1 then o ^^^ x else o) = Crc.tim a b by
        rw [← HT.out, show 32 - k = (31 - k) + 1 by omega, show 32 - (k + 1) = 31 - k by omega]; rfl)
      have hX := Crc.X_lt hxl
      have hY := Crc.xor_lt hol hxl
      go_wp2
      all_goals
        rename_i _ h1 h2
        rw [hA.out] at h1
        rw [hB.out] at h2
        simp only [beq_iff_eq, beq_eq_false_iff_ne, ne_eq] at h1 h2
        have h2' : (x % 2 = 1) ∨ ¬ (x % 2 = 1) := Decidable.em _
        first
          | (have hT' := hT.out
             rw [if_pos (by omega)] at hT'
             refine ⟨⟨k + 1, Crc.X x, o ^^^ x, by omega, hX, hY, hT', by go_num, ?_, by rw [HX.out]⟩, by simp [intOf]; omega⟩)
          | (have hT' := hT.out
             rw [if_neg (by omega)] at hT'
             refine ⟨⟨k + 1, Crc.X x, o, by omega, hX, hol, hT', by go_num, ?_, rfl⟩, by simp [intOf]; omega⟩)
        first
          | rw [HO.out (by omega)]
          | rw [HE.out (by omega)]
    · obtain rfl : k = 32 := by omega
      go_wp2
      go_ret
      exact ⟨ret_int (by rw [← HT.out]; rfl), rfl⟩

theorem power (n : Nat) (hn : n ≤ 140737488351232) (w : World) :
    Calls Try.prog 46 #[.int .i64 n] w fun e w' => e = .returned (.int .u32 ((Crc.pow 48 n Crc.unit 8388608 : Nat) : Int)) ∧ w = w' := by
  go_enter Try.func46, Try.ntmps46
  go_wp2
  go_loop [0, 3, 4] (fun vn vo vb => ∃ (j m o b : Nat), m < 2 ^ j ∧ m ≤ 140737488351232 ∧ o < 4294967296 ∧ b < 4294967296 ∧ Hid (Crc.pow j m o b = Crc.pow 48 n Crc.unit 8388608) ∧ vn = .int .i64 m ∧ vo = .int .u32 o ∧ vb = .int .u32 b) (fun vn _ _ => (intOf vn).toNat)
  case atStart => exact ⟨48, n, 2147483648, 8388608, by omega, hn, by decide, by decide, Lib.hid rfl, rfl, rfl, rfl⟩
  case round =>
    obtain ⟨j, m, o, b, hm, hm2, ho, hb, HP, rfl, rfl, rfl⟩ := hrel
    by_cases hz : m = 0
    · subst hz
      have hP : o = Crc.pow 48 n Crc.unit 8388608 := by
        rw [← HP.out]
        cases j <;> rfl
      have HP2 := Lib.hid hP
      clear hP
      go_wp2
      go_ret
      exact ⟨ret_int (by rw [← HP2.out]), rfl⟩
    · have hj : 1 ≤ j := by
        rcases Nat.eq_zero_or_pos j with rfl | h
        · simp at hm; omega
        · exact h
      obtain ⟨i, rfl⟩ : ∃ i, j = i + 1 := ⟨j - 1, by omega⟩
      have hpos : 0 < (m : Int) := by omega
      have hea := Lib.hid (show bits .and .i64 (m : Int) 1 = ((m % 2 : Nat) : Int) by
        have := bits_mask .i64 48 (by decide) (by intro m h0 h1; rw [IntKind.wrap_i64]; omega) 1 (by decide) (m : Int) (by omega) (by omega)
        simpa using this)
      have HQ := Lib.hid (show Crc.pow i (m / 2) (if m % 2 = 1 then Crc.tim o b else o) (Crc.tim b b) = Crc.pow 48 n Crc.unit 8388608 by
        rw [← HP.out]; simp only [Crc.pow]; rw [if_neg hz])
      have hm' : m / 2 < 2 ^ i := by rw [Nat.pow_succ] at hm; omega
      have h1 : Crc.tim o b < 4294967296 := tim_lt hb
      have h2 : Crc.tim b b < 4294967296 := tim_lt hb
      have he : (m : Int) / 2 = ((m / 2 : Nat) : Int) := by omega
      have HE := Lib.hid he
      clear he
      by_cases ho2 : m % 2 = 1
      · have ht : (bits .and .i64 (m : Int) 1 == 1) = true := by rw [hea.out, ho2]; rfl
        have HR := Lib.hid (show Crc.pow i (m / 2) (Crc.tim o b) (Crc.tim b b) = Crc.pow 48 n Crc.unit 8388608 by rw [← HQ.out, if_pos ho2])
        clear ho2
        go_wp2_with (go_at_call 45; refine (times _ _ (by assumption) (by assumption) _).mono ?_; rintro e w' ⟨rfl, rfl⟩)
        go_round
        case rel => exact ⟨i, m / 2, _, _, hm', by omega, h1, h2, HR, by rw [HE.out], rfl, rfl⟩
        case measure => simp [intOf]; omega
      · have ht : (bits .and .i64 (m : Int) 1 == 1) = false := by rw [hea.out, beq_eq_false_iff_ne]; omega
        have HR := Lib.hid (show Crc.pow i (m / 2) o (Crc.tim b b) = Crc.pow 48 n Crc.unit 8388608 by rw [← HQ.out, if_neg ho2])
        clear ho2
        go_wp2_with (go_at_call 45; refine (times _ _ (by assumption) (by assumption) _).mono ?_; rintro e w' ⟨rfl, rfl⟩)
        go_round
        case rel => exact ⟨i, m / 2, _, _, hm', by omega, ho, h2, HR, by rw [HE.out], rfl, rfl⟩
        case measure => simp [intOf]; omega

/-- Join: a number less than one leaves the first -/
theorem join_no (a b n : Int) (hn : n < 1) (w : World) :
    Calls Try.prog 20 #[.int .u32 a, .int .u32 b, .int .i64 n] w fun e w' => e = .returned (.int .u32 a) ∧ w = w' := by
  have hd : decide (n < 1) = true := decide_eq_true hn
  go_enter Try.func20, Try.ntmps20
  go_wp2
  go_ret
  exact ⟨rfl, rfl⟩
theorem join_any (a b n : Nat) (ha : a < 4294967296) (hb : b < 4294967296) (hn : n ≤ 140737488351232) (w : World) :
    Calls Try.prog 20 #[.int .u32 a, .int .u32 b, .int .i64 n] w fun e w' => e = .returned (.int .u32 ((if n = 0 then a else Crc.tim a (Crc.pow 48 n Crc.unit 8388608) ^^^ b : Nat) : Int)) ∧ w = w' := by
  by_cases h : n = 0
  · subst h
    exact (join_no a b 0 (by omega) w).mono fun e w' hh => by simpa using hh
  · rw [if_neg h]
    have hd : decide ((n : Int) < 1) = false := decide_eq_false (by omega)
    have hp : Crc.pow 48 n Crc.unit 8388608 < 4294967296 := power_lt _ _ _ _ (by decide) (by decide)
    have HX := Lib.hid (xorC (tim_lt (a := a) hp) hb)
    go_enter Try.func20, Try.ntmps20
    go_wp2_with (first | (go_at_call 46; refine (power _ hn _).mono ?_; rintro e w' ⟨rfl, rfl⟩) | (go_at_call 45; refine (times _ _ ha hp _).mono ?_; rintro e w' ⟨rfl, rfl⟩))
    go_ret
    exact ⟨ret_int HX.out, rfl⟩
theorem join (a b : List Nat) (ha : ∀ c ∈ a, c < 256) (hb : ∀ c ∈ b, c < 256) (hl : b.length ≤ 140737488351232) (w : World) :
    Calls Try.prog 20 #[.int .u32 (Crc.crc a : Nat), .int .u32 (Crc.crc b : Nat), .int .i64 (b.length : Nat)] w fun e w' => e = .returned (.int .u32 ((Crc.crc (a ++ b) : Nat) : Int)) ∧ w = w' := by
  have h := join_any (Crc.crc a) (Crc.crc b) b.length (Crc.crc_lt a ha) (Crc.crc_lt b hb) hl w
  have e : (if b.length = 0 then Crc.crc a else Crc.tim (Crc.crc a) (Crc.pow 48 b.length Crc.unit 8388608) ^^^ Crc.crc b) = Crc.crc (a ++ b) := by
    by_cases hz : b.length = 0
    · rw [if_pos hz]
      have : b = [] := by simpa using hz
      rw [this, List.append_nil]
    · rw [if_neg hz]
      have := Crc.join a b 48 ha (by omega)
      rw [Crc.unit8] at this
      exact this
  rw [e] at h
  exact h
end Go.Proofs.Ytpofjeenednjcaa.CrcF
