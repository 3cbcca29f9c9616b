/- What was written reads back. -/
import Derived.Test.YtpofjeenednjcaaProg
import Derived.Below
import Derived.WalkKit
import Derived.KernelRfl
import Derived.RowKit3
import Derived.Deep.LoopGhost
import Derived.Deep.QuietTactic
import Derived.BigQuiet
import Derived.WideLaws
import Derived.Deep.DeepCutAuto
import Derived.Deep.CutBlock
import Derived.Lib.Hide
import Derived.Laws.BitsLemmas
import Derived.Laws.Bits64
import Derived.Laws.BitsAllLaws
import Derived.IntWalk
import Derived.Outline
import Derived.WalkSpells
import Derived.Test.YtpofjeenednjcaaMem
import Derived.Test.YtpofjeenednjcaaPk7
namespace Go.Proofs.Ytpofjeenednjcaa.Pk
open Go.RowKit Go.Proofs.Ytpofjeenednjcaa.Mem

theorem beL_beB : ∀ (k n : Nat), beL (beB k n) = n % 256 ^ k
  | 0, n => by simp [beB, beL, Nat.mod_one]
  | k + 1, n => by
    rw [beB, beL_snoc, beL_beB k (n / 256), Nat.pow_succ, Nat.mul_comm (256 ^ k) 256, Nat.mod_mul]
    omega
theorem str_extract_tail (a b : List Nat) (n : Nat) (hn : a.length = n) (m : Nat) (hm : m = (str (a ++ b)).size) : (str (a ++ b)).extract n m = str b := by
  subst hn
  subst hm
  apply ByteArray.ext
  rw [ByteArray.data_extract, str_size]
  apply Array.ext'
  simp [str]
  rw [List.take_of_length_le (by simp)]
theorem str_extract_mid (a b c : List Nat) (n m : Nat) (hn : a.length = n) (hm : a.length + b.length = m) : (str (a ++ b ++ c)).extract n m = str b := by
  subst hn
  subst hm
  apply ByteArray.ext
  rw [ByteArray.data_extract]
  apply Array.ext'
  simp [str]
theorem be_str (k n : Nat) (r : List Nat) (hr : ∀ c ∈ r, c < 256) : be (str (beB k n ++ r)) k = n % 256 ^ k := by
  unfold be
  rw [nums_str _ (by intro c hc; rcases List.mem_append.1 hc with h | h; exact beB_lt k n c h; exact hr c h), List.take_left' (beB_length k n), beL_beB]
theorem fits_lt {wd : Nat} {n : Nat} (hw : wide wd = true) (hf : fitsV wd n = true) (hn : n < 9223372036854775808) : n < 256 ^ wd := by
  unfold fitsV at hf
  have := wide_cases hw
  rcases this with e | e | e | e
  all_goals
    obtain rfl : wd = _ := by exact Int.ofNat_inj.1 e
    simp at hf
    simp only [Nat.reducePow]
    omega
/-- a number that was written is read -/
theorem inNum_back (wd n : Nat) (r : List Nat) (hr : ∀ c ∈ r, c < 256) (hw : wide wd = true) (hf : fitsV wd n = true) (hn : n < 9223372036854775808) :
    inNumV (str (beB wd n ++ r)) false wd = (n, str r, false) := by
  have h1 : be (str (beB wd n ++ r)) wd = n := by rw [be_str wd n r hr, Nat.mod_eq_of_lt (fits_lt hw hf hn)]
  have hl : wd ≤ (str (beB wd n ++ r)).size := by rw [str_size, List.length_append, beB_length]; omega
  unfold inNumV
  rw [show (wd : Int).toNat = wd from rfl, if_pos ⟨rfl, hw, by omega, by rw [h1]; exact hn⟩, h1, str_extract_tail _ _ wd (beB_length _ _) _ rfl]
/-- a text that was written is read -/
theorem inText_back (s : ByteArray) (r : List Nat) (hr : ∀ c ∈ r, c < 256) (most : Int) (hs : s.size ≤ 65535) (hm : (s.size : Int) ≤ most) :
    inTextV (str (beB 2 s.size ++ nums s ++ r)) false most = (s, str r, false) := by
  have h1 : be (str (beB 2 s.size ++ nums s ++ r)) 2 = s.size := by
    rw [List.append_assoc, be_str 2 s.size _ (by intro c hc; rcases List.mem_append.1 hc with h | h; exact nums_lt s c h; exact hr c h)]
    omega
  have hl : (str (beB 2 s.size ++ nums s ++ r)).size = 2 + s.size + r.length := by rw [str_size]; simp [beB_length, nums_length]; omega
  unfold inTextV
  rw [h1, if_pos ⟨rfl, by omega, hm, by omega⟩, str_extract_mid _ _ _ 2 _ (beB_length _ _) (by rw [beB_length, nums_length]), str_extract_tail _ _ _ (by rw [List.length_append, beB_length, nums_length]) _ rfl, str_nums]
end Go.Proofs.Ytpofjeenednjcaa.Pk
