/- Contracts of the functions of layer 2 that read. -/
import Derived.Test.YthflkhalipkdgaaProg
import Derived.Below
import Derived.WalkKit
import Derived.KernelRfl
import Derived.RowKit3
import Derived.Deep.LoopGhost
import Derived.Deep.QuietTactic
import Derived.BigQuiet
import Derived.WideLaws
import Derived.Deep.DeepCutAuto
import Derived.Deep.CutBlock
import Derived.Lib.Hide
import Derived.Laws.BitsLemmas
import Derived.Laws.Bits64
import Derived.Laws.BitsAllLaws
import Derived.IntWalk
import Derived.Outline
import Derived.WalkSpells
import Derived.Test.YthflkhalipkdgaaMem
namespace Go.Proofs.Ythflkhalipkdgaa.Pk
set_option maxRecDepth 20000
set_option linter.unusedVariables false
set_option linter.unusedSimpArgs false
open Go.RowKit Go.Proofs.Ythflkhalipkdgaa.Mem

theorem ret_bool {a b : Bool} (h : a = b) : Ending.returned (.bool a) = .returned (.bool b) := by rw [h]
theorem ret_int {k : IntKind} {a b : Int} (h : a = b) : Ending.returned (.int k a) = .returned (.int k b) := by rw [h]

theorem ret2 {k : IntKind} {a b : Int} {c d : Bool} (h : a = b) (h' : c = d) : Ending.returned (.tuple #[.int k a, .bool c]) = .returned (.tuple #[.int k b, .bool d]) := by rw [h, h']

def wide (w : Int) : Bool := w == 1 || w == 2 || w == 4 || w == 8

theorem isWide (n : Int) (w : World) : Calls Try.prog 81 #[.int .i64 n] w fun e w' => e = .returned (.bool (wide n)) ∧ w = w' := by
  go_enter Try.func81, Try.ntmps81
  go_wp2
  all_goals (go_ret; refine ⟨ret_bool ?_, rfl⟩; unfold wide; simp_all)

/-- a reader: what is left, whether it is bad -/
def InAt (w : World) (b : Nat) (s : ByteArray) (bad : Bool) : Prop := Blk w b #[.string s, .bool bad] 116

theorem inBad (b : Nat) (s : ByteArray) (bad : Bool) (w : World) (h : InAt w b s bad) :
    Calls Try.prog 85 #[.pointer (some ⟨b, 0, none⟩)] w fun e w' => e = .returned (.bool bad) ∧ w = w' := by
  have h1 := Blk.cell h 1 _ rfl
  clear h
  go_enter Try.func85, Try.ntmps85
  go_wp2
  go_ret
  exact ⟨rfl, rfl⟩
theorem inBad_nil (w : World) :
    Calls Try.prog 85 #[.pointer none] w fun e w' => e = .returned (.bool true) ∧ w = w' := by
  go_enter Try.func85, Try.ntmps85
  go_wp2
  go_ret
  exact ⟨rfl, rfl⟩
def inLeftV (s : ByteArray) (bad : Bool) : Int := if bad then 0 else s.size
theorem inLeft (b : Nat) (s : ByteArray) (bad : Bool) (w : World) (h : InAt w b s bad) :
    Calls Try.prog 98 #[.pointer (some ⟨b, 0, none⟩)] w fun e w' => e = .returned (.int .i64 (inLeftV s bad)) ∧ w = w' := by
  have h0 := Blk.cell h 0 _ rfl
  cases bad
  all_goals
    go_enter Try.func98, Try.ntmps98
    go_wp2_with (go_at_call 85; refine (inBad b s _ _ h).mono ?_; rintro e w' ⟨rfl, rfl⟩)
    go_ret
    exact ⟨rfl, rfl⟩
theorem inLeft_nil (w : World) :
    Calls Try.prog 98 #[.pointer none] w fun e w' => e = .returned (.int .i64 0) ∧ w = w' := by
  go_enter Try.func98, Try.ntmps98
  go_wp2_with (go_at_call 85; refine (inBad_nil _).mono ?_; rintro e w' ⟨rfl, rfl⟩)
  go_ret
  exact ⟨rfl, rfl⟩
theorem inEnd (b : Nat) (s : ByteArray) (bad : Bool) (w : World) (h : InAt w b s bad) :
    Calls Try.prog 44 #[.pointer (some ⟨b, 0, none⟩)] w fun e w' => e = .returned (.bool (!bad && s.toList.isEmpty)) ∧ w = w' := by
  have h0 := Blk.cell h 0 _ rfl
  cases bad
  all_goals
    go_enter Try.func44, Try.ntmps44
    go_wp2_with (go_at_call 85; refine (inBad b s _ _ h).mono ?_; rintro e w' ⟨rfl, rfl⟩)
    go_ret
    exact ⟨ret_bool (by simp), rfl⟩
theorem inEnd_nil (w : World) :
    Calls Try.prog 44 #[.pointer none] w fun e w' => e = .returned (.bool false) ∧ w = w' := by
  go_enter Try.func44, Try.ntmps44
  go_wp2_with (go_at_call 85; refine (inBad_nil _).mono ?_; rintro e w' ⟨rfl, rfl⟩)
  go_ret
  exact ⟨rfl, rfl⟩
theorem inSpoil (b : Nat) (s : ByteArray) (bad : Bool) (w : World) (h : InAt w b s bad) :
    Calls Try.prog 84 #[.pointer (some ⟨b, 0, none⟩)] w fun e w' => e = .returned (.tuple #[]) ∧ InAt w' b s true ∧ Off [b] w w' := by
  have h1 := Blk.cell h 1 _ rfl
  have h2 := Blk.free h 1
  have H := Lib.hid h
  clear h
  go_enter Try.func84, Try.ntmps84
  go_wp2
  go_end0
  exact ⟨rfl, Blk.set H.out 1 _, (Off.refl _ _).setCell _ _ (by simp)⟩
theorem inSpoil_nil (w : World) :
    Calls Try.prog 84 #[.pointer none] w fun e w' => e = .returned (.tuple #[]) ∧ w = w' := by
  go_enter Try.func84, Try.ntmps84
  go_wp2
  go_end0
  exact ⟨rfl, rfl⟩

/-- the first bytes as a number, the highest first -/
def beL (l : List Nat) : Nat := l.foldl (fun n c => n * 256 + c) 0
def nums (s : ByteArray) : List Nat := s.data.toList.map UInt8.toNat
def be (s : ByteArray) (k : Nat) : Nat := beL ((nums s).take k)
theorem nums_length (s : ByteArray) : (nums s).length = s.size := by simp [nums]
theorem beL_snoc (l : List Nat) (c : Nat) : beL (l ++ [c]) = beL l * 256 + c := by simp [beL]
theorem be_succ (s : ByteArray) (k : Nat) (h : k < s.size) : be s (k + 1) = be s k * 256 + s[k].toNat := by
  unfold be
  rw [List.take_succ_eq_append_getElem (by rw [nums_length]; exact h), beL_snoc]
  simp [nums]
  rfl
theorem be_lt (s : ByteArray) : ∀ k, k ≤ s.size → be s k < 256 ^ k
  | 0, _ => by simp [be, beL]
  | k + 1, h => by
    rw [be_succ s k (by omega), Nat.pow_succ]
    have := be_lt s k (by omega)
    have := s[k].toNat_lt
    omega
theorem be_lt8 (s : ByteArray) (k : Nat) (h : k ≤ s.size) (h8 : k ≤ 8) : be s k < 18446744073709551616 :=
  Nat.lt_of_lt_of_le (be_lt s k h) (Nat.le_trans (Nat.pow_le_pow_right (by decide) h8) (by decide))
theorem wide_le {n : Nat} (h : wide n = true) : n ≤ 8 := by unfold wide at h; simp at h; omega
/-- one byte more, as the code reckons it -/
theorem be_step (s : ByteArray) (k : Nat) (h : k < s.size) (h8 : k < 8) :
    bits BinOp.or IntKind.u64 (IntKind.u64.wrap (↑(be s k) * 256)) (IntKind.u64.wrap ↑s[k].toNat) = ((be s (k + 1) : Nat) : Int) := by
  have h1 := be_lt s k (by omega)
  have h2 : be s k < 72057594037927936 := Nat.lt_of_lt_of_le h1 (Nat.le_trans (Nat.pow_le_pow_right (by decide) (show k ≤ 7 by omega)) (by decide))
  have h3 := s[k].toNat_lt
  rw [IntKind.wrap_u64, IntKind.wrap_u64, show (↑(be s k) * 256 : Int) % 18446744073709551616 = (be s k : Int) * 256 by omega, show ((s[k].toNat : Nat) : Int) % 18446744073709551616 = (s[k].toNat : Int) by omega]
  rw [bits_join .u64 64 (by decide) (by intro n h0 h1; rw [IntKind.wrap_u64]; omega) 8 _ _ (by omega) (by omega) (by omega) (by omega) (by omega) (by omega), be_succ s k h]
  omega

theorem inLook_no1 (b : Nat) (w : World) (n : Int) (hn : wide n = false) :
    Calls Try.prog 83 #[.pointer (some ⟨b, 0, none⟩), .int .i64 n] w fun e w' => e = .returned (.tuple #[.int .i64 0, .bool false]) ∧ w = w' := by
  go_enter Try.func83, Try.ntmps83
  go_wp2_with (go_at_call 81; refine (isWide _ _).mono ?_; rintro e w' ⟨rfl, rfl⟩)
  go_ret2
  exact ⟨rfl, rfl⟩
theorem inLook_no2 (b : Nat) (s : ByteArray) (bad : Bool) (w : World) (n : Int) (h : InAt w b s bad) (hn : wide n = true) (hl : inLeftV s bad < n) :
    Calls Try.prog 83 #[.pointer (some ⟨b, 0, none⟩), .int .i64 n] w fun e w' => e = .returned (.tuple #[.int .i64 0, .bool false]) ∧ w = w' := by
  have hl' : decide (inLeftV s bad < n) = true := decide_eq_true hl
  go_enter Try.func83, Try.ntmps83
  go_wp2_with (first | (go_at_call 81; refine (isWide _ _).mono ?_; rintro e w' ⟨rfl, rfl⟩) | (go_at_call 98; refine (inLeft b s _ _ h).mono ?_; rintro e w' ⟨rfl, rfl⟩))
  go_ret2
  exact ⟨rfl, rfl⟩
theorem inLook_yes (b : Nat) (s : ByteArray) (w : World) (n : Nat) (h : InAt w b s false) (hn : wide n = true) (hl : n ≤ s.size) :
    Calls Try.prog 83 #[.pointer (some ⟨b, 0, none⟩), .int .i64 n] w fun e w' => e = .returned (.tuple #[.int .i64 (wrap64 (be s n)), .bool (decide (be s n < 9223372036854775808))]) ∧ w = w' := by
  have hl' : decide (inLeftV s false < n) = false := decide_eq_false (by unfold inLeftV; simp; omega)
  go_enter Try.func83, Try.ntmps83
  go_wp2_with (first | (go_at_call 81; refine (isWide _ _).mono ?_; rintro e w' ⟨rfl, rfl⟩) | (go_at_call 98; refine (inLeft b s _ _ h).mono ?_; rintro e w' ⟨rfl, rfl⟩))
  go_loop [6, 18] (fun t i => ∃ k : Nat, k ≤ n ∧ i = .int .i64 k ∧ t = .int .u64 (be s k)) (fun _ i => n - (intOf i).toNat)
  case atStart => exact ⟨0, Nat.zero_le _, rfl, rfl⟩
  case round =>
    have h8 := wide_le hn
    obtain ⟨k, hk, rfl, rfl⟩ := hrel
    by_cases hlt : k < n
    · have h0 := Blk.cell h 0 _ rfl
      have HB := Lib.hid (be_step s k (by omega) (by omega))
      go_wp2
      go_round
      case rel => exact ⟨k + 1, by omega, by go_num, by rw [HB.out]⟩
      case measure => simp [intOf]; omega
    · obtain rfl : n = k := by omega
      have HB := be_lt8 s n hl h8
      go_wp2
      go_ret2
      exact ⟨ret2 rfl (by rw [Bool.eq_iff_iff]; simp; omega), rfl⟩
end Go.Proofs.Ythflkhalipkdgaa.Pk
