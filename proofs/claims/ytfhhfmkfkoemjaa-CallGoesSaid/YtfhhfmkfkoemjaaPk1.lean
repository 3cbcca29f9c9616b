/- Contracts of the functions of layer 2 that read. -/
import Derived.Test.YtfhhfmkfkoemjaaProg
import Derived.Below
import Derived.WalkKit
import Derived.KernelRfl
import Derived.RowKit3
import Derived.Deep.LoopGhost
import Derived.Deep.QuietTactic
import Derived.BigQuiet
import Derived.WideLaws
import Derived.Deep.DeepCutAuto
import Derived.Deep.CutBlock
import Derived.Lib.Hide
import Derived.Laws.BitsLemmas
import Derived.Laws.Bits64
import Derived.Laws.BitsAllLaws
import Derived.IntWalk
import Derived.Outline
import Derived.WalkSpells
import Derived.Test.YtfhhfmkfkoemjaaMem
namespace Go.Proofs.Ytfhhfmkfkoemjaa.Pk
set_option linter.unusedVariables false
set_option linter.unusedSimpArgs false
open Go.RowKit Go.Proofs.Ytfhhfmkfkoemjaa.Mem

theorem ret_bool {a b : Bool} (h : a = b) : Ending.returned (.bool a) = .returned (.bool b) := by rw [h]
theorem ret_int {k : IntKind} {a b : Int} (h : a = b) : Ending.returned (.int k a) = .returned (.int k b) := by rw [h]

theorem ret2 {k : IntKind} {a b : Int} {c d : Bool} (h : a = b) (h' : c = d) : Ending.returned (.tuple #[.int k a, .bool c]) = .returned (.tuple #[.int k b, .bool d]) := by rw [h, h']

def wide (w : Int) : Bool := w == 1 || w == 2 || w == 4 || w == 8

theorem isWide (n : Int) (w : World) : Calls Try.prog 121 #[.int .i64 n] w fun e w' => e = .returned (.bool (wide n)) ∧ w = w' := by
  go_enter Try.func121, Try.ntmps121
  go_wp2
  all_goals (go_ret; refine ⟨ret_bool ?_, rfl⟩; unfold wide; simp_all)

def inLeftV (s : ByteArray) (bad : Bool) : Int := if bad then 0 else s.size
/-- the first bytes as a number, the highest first -/
def beL (l : List Nat) : Nat := l.foldl (fun n c => n * 256 + c) 0
def nums (s : ByteArray) : List Nat := s.data.toList.map UInt8.toNat
def be (s : ByteArray) (k : Nat) : Nat := beL ((nums s).take k)
theorem nums_length (s : ByteArray) : (nums s).length = s.size := by simp [nums]
theorem beL_snoc (l : List Nat) (c : Nat) : beL (l ++ [c]) = beL l * 256 + c := by simp [beL]
theorem be_succ (s : ByteArray) (k : Nat) (h : k < s.size) : be s (k + 1) = be s k * 256 + s[k].toNat := by
  unfold be
  rw [List.take_succ_eq_append_getElem (by rw [nums_length]; exact h), beL_snoc]
  simp [nums]
  rfl
theorem be_lt (s : ByteArray) : ∀ k, k ≤ s.size → be s k < 256 ^ k
  | 0, _ => by simp [be, beL]
  | k + 1, h => by
    rw [be_succ s k (by omega), Nat.pow_succ]
    have := be_lt s k (by omega)
    have := s[k].toNat_lt
    omega
theorem be_lt8 (s : ByteArray) (k : Nat) (h : k ≤ s.size) (h8 : k ≤ 8) : be s k < 18446744073709551616 :=
  Nat.lt_of_lt_of_le (be_lt s k h) (Nat.le_trans (Nat.pow_le_pow_right (by decide) h8) (by decide))
theorem wide_le {n : Nat} (h : wide n = true) : n ≤ 8 := by unfold wide at h; simp at h; omega
/-- one byte more, as the code reckons it -/
theorem be_step (s : ByteArray) (k : Nat) (h : k < s.size) (h8 : k < 8) :
    bits BinOp.or IntKind.u64 (IntKind.u64.wrap (↑(be s k) * 256)) (IntKind.u64.wrap ↑s[k].toNat) = ((be s (k + 1) : Nat) : Int) := by
  have h1 := be_lt s k (by omega)
  have h2 : be s k < 72057594037927936 := Nat.lt_of_lt_of_le h1 (Nat.le_trans (Nat.pow_le_pow_right (by decide) (show k ≤ 7 by omega)) (by decide))
  have h3 := s[k].toNat_lt
  rw [IntKind.wrap_u64, IntKind.wrap_u64, show (↑(be s k) * 256 : Int) % 18446744073709551616 = (be s k : Int) * 256 by omega, show ((s[k].toNat : Nat) : Int) % 18446744073709551616 = (s[k].toNat : Int) by omega]
  rw [bits_join .u64 64 (by decide) (by intro n h0 h1; rw [IntKind.wrap_u64]; omega) 8 _ _ (by omega) (by omega) (by omega) (by omega) (by omega) (by omega), be_succ s k h]
  omega

end Go.Proofs.Ytfhhfmkfkoemjaa.Pk
