/- Contracts of the references of layer 2: texts, and what is read. -/
import Derived.Test.YtloemjhhedkhiaaProg
import Derived.Below
import Derived.WalkKit
import Derived.KernelRfl
import Derived.RowKit3
import Derived.Deep.LoopGhost
import Derived.Deep.QuietTactic
import Derived.BigQuiet
import Derived.WideLaws
import Derived.Deep.DeepCutAuto
import Derived.Deep.CutBlock
import Derived.Lib.Hide
import Derived.Laws.BitsLemmas
import Derived.Laws.Bits64
import Derived.Laws.BitsAllLaws
import Derived.IntWalk
import Derived.Outline
import Derived.WalkSpells
import Derived.Test.YtloemjhhedkhiaaMem
import Derived.Test.YtloemjhhedkhiaaPk5
namespace Go.Proofs.Ytloemjhhedkhiaa.Pk
set_option linter.unusedVariables false
set_option linter.unusedSimpArgs false
open Go.RowKit Go.Proofs.Ytloemjhhedkhiaa.Mem

def refTextV (s : ByteArray) : ByteArray × Bool := if s.size ≤ 65535 then (str (beB 2 s.size) ++ s, true) else (⟨#[]⟩, false)
/-- the reference's reader -/
def RefInAt (w : World) (b : Nat) (s : ByteArray) (bad : Bool) : Prop := Blk w b #[.string s, .bool bad] 96

theorem refIn_spoil_bad (b : Nat) (s : ByteArray) (n : Int) (w : World) (h : RefInAt w b s true) :
    Calls Try.prog 44 #[.pointer (some ⟨b, 0, none⟩), .int .i64 n] w fun e w' => e = .returned (.int .i64 0) ∧ RefInAt w' b s true ∧ Off [b] w w' := by
  have h0 := Blk.cell h 0 _ rfl
  have h1 := Blk.cell h 1 _ rfl
  have hf := Blk.free h 1
  have H := Lib.hid h
  clear h
  go_enter Try.func44, Try.ntmps44
  go_wp2
  go_ret
  exact ⟨rfl, Blk.set H.out 1 _, (Off.refl _ _).setCell _ _ (by simp)⟩
theorem refIn_spoil_wide (b : Nat) (s : ByteArray) (n : Int) (w : World) (h : RefInAt w b s false) (hn : wide n = false) :
    Calls Try.prog 44 #[.pointer (some ⟨b, 0, none⟩), .int .i64 n] w fun e w' => e = .returned (.int .i64 0) ∧ RefInAt w' b s true ∧ Off [b] w w' := by
  have h0 := Blk.cell h 0 _ rfl
  have h1 := Blk.cell h 1 _ rfl
  have hf := Blk.free h 1
  have H := Lib.hid h
  clear h
  unfold wide at hn
  simp at hn
  obtain ⟨⟨⟨h1, h2⟩, h4⟩, h8⟩ := hn
  have e1 : (n != 1) = true := by simpa using h1
  have e2 : (n != 2) = true := by simpa using h2
  have e4 : (n != 4) = true := by simpa using h4
  have e8 : (n != 8) = true := by simpa using h8
  clear h1 h2 h4 h8
  have h1 := Blk.cell H.out 1 _ rfl
  go_enter Try.func44, Try.ntmps44
  go_wp2
  go_ret
  exact ⟨rfl, Blk.set H.out 1 _, (Off.refl _ _).setCell _ _ (by simp)⟩
theorem refIn_spoil_short (b : Nat) (s : ByteArray) (n : Nat) (w : World) (h : RefInAt w b s false) (hn : wide n = true) (hl : s.size < n) :
    Calls Try.prog 44 #[.pointer (some ⟨b, 0, none⟩), .int .i64 n] w fun e w' => e = .returned (.int .i64 0) ∧ RefInAt w' b s true ∧ Off [b] w w' := by
  have h0 := Blk.cell h 0 _ rfl
  have h1 := Blk.cell h 1 _ rfl
  have hf := Blk.free h 1
  have H := Lib.hid h
  clear h
  have hd : decide (s.size < n) = true := decide_eq_true hl
  have hcs : ((n : Int) != 1) = false ∨ (((n : Int) != 1) = true ∧ ((n : Int) != 2) = false) ∨ (((n : Int) != 1) = true ∧ ((n : Int) != 2) = true ∧ ((n : Int) != 4) = false) ∨ (((n : Int) != 1) = true ∧ ((n : Int) != 2) = true ∧ ((n : Int) != 4) = true ∧ ((n : Int) != 8) = false) := by
    have := wide_cases hn
    simp
    omega
  rcases hcs with e1 | ⟨e1, e2⟩ | ⟨e1, e2, e4⟩ | ⟨e1, e2, e4, e8⟩
  all_goals
    go_enter Try.func44, Try.ntmps44
    go_wp2
    go_ret
    exact ⟨rfl, Blk.set H.out 1 _, (Off.refl _ _).setCell _ _ (by simp)⟩
/-- the highest of eight bytes says whether they are too great -/
theorem be_high (s : ByteArray) (k : Nat) (h : k < s.size) : be s (k + 1) / 256 ^ k = s[0].toNat := by
  induction k with
  | zero => rw [be_succ s 0 h]; simp [be, beL]
  | succ k ih =>
    rw [be_succ s (k + 1) h, Nat.pow_succ, Nat.mul_comm (256 ^ k), ← Nat.div_div_eq_div_mul]
    have := s[k + 1].toNat_lt
    rw [show (be s (k + 1) * 256 + s[k + 1].toNat) / 256 = be s (k + 1) by omega]
    exact ih (by omega)
theorem be_eight (s : ByteArray) (h : 8 ≤ s.size) : be s 8 < 9223372036854775808 ↔ s[0].toNat ≤ 127 := by
  have : be s 8 / 256 ^ 7 = s[0].toNat := be_high s 7 (by omega)
  rw [← this]
  omega
theorem refIn_spoil_great (b : Nat) (s : ByteArray) (w : World) (h : RefInAt w b s false) (hl : 8 ≤ s.size) (hg : 127 < s[0].toNat) :
    Calls Try.prog 44 #[.pointer (some ⟨b, 0, none⟩), .int .i64 8] w fun e w' => e = .returned (.int .i64 0) ∧ RefInAt w' b s true ∧ Off [b] w w' := by
  have h0 := Blk.cell h 0 _ rfl
  have h1 := Blk.cell h 1 _ rfl
  have hf := Blk.free h 1
  have H := Lib.hid h
  clear h
  have hd : decide ((s.size : Int) < 8) = false := decide_eq_false (by omega)
  have hd2 : decide ((127 : Int) < (s[0].toNat : Int)) = true := decide_eq_true (by omega)
  have hz : 0 < s.size := by omega
  go_enter Try.func44, Try.ntmps44
  go_wp2
  go_ret
  exact ⟨rfl, Blk.set H.out 1 _, (Off.refl _ _).setCell _ _ (by simp)⟩
theorem be_mono (s : ByteArray) (n : Nat) (h : n ≤ s.size) : ∀ d k, k + d = n → be s k ≤ be s n
  | 0, k, e => by simp at e; rw [e]; exact Nat.le_refl _
  | d + 1, k, e => by
    have h1 := be_mono s n h d (k + 1) (by omega)
    have h2 := be_succ s k (by omega)
    omega
theorem refIn_yes (b : Nat) (s : ByteArray) (n : Nat) (w : World) (h : RefInAt w b s false) (hn : wide n = true) (hl : n ≤ s.size) (hb : be s n < 9223372036854775808) :
    Calls Try.prog 44 #[.pointer (some ⟨b, 0, none⟩), .int .i64 n] w fun e w' => e = .returned (.int .i64 (be s n)) ∧ RefInAt w' b (s.extract n s.size) false ∧ Off [b] w w' := by
  have h8 := wide_le hn
  have h0 := Blk.cell h 0 _ rfl
  have h1 := Blk.cell h 1 _ rfl
  have hf := Blk.free h 0
  have H := Lib.hid h
  clear h
  have hd : decide (s.size < n) = false := decide_eq_false (by omega)
  have hcs : (((n : Int) != 1) = false ∧ ((n : Int) == 8) = false) ∨ (((n : Int) != 1) = true ∧ ((n : Int) != 2) = false ∧ ((n : Int) == 8) = false) ∨ (((n : Int) != 1) = true ∧ ((n : Int) != 2) = true ∧ ((n : Int) != 4) = false ∧ ((n : Int) == 8) = false) ∨ (((n : Int) != 1) = true ∧ ((n : Int) != 2) = true ∧ ((n : Int) != 4) = true ∧ ((n : Int) != 8) = false ∧ ((n : Int) == 8) = true) := by
    have := wide_cases hn
    simp
    omega
  have hz : 0 < s.size := by
    have := wide_cases hn
    omega
  have hg : ((n : Int) == 8) = true → decide ((127 : Int) < (s[0].toNat : Int)) = false := by
    intro h
    have e : (n : Int) = 8 := by simpa using h
    obtain rfl : n = 8 := by omega
    have := (be_eight s hl).mp hb
    exact decide_eq_false (by omega)
  rcases hcs with ⟨e1, g⟩ | ⟨e1, e2, g⟩ | ⟨e1, e2, e4, g⟩ | ⟨e1, e2, e4, e8, g⟩
  all_goals
    have hg' : ((n : Int) == 8) = false ∨ decide ((127 : Int) < (s[0].toNat : Int)) = false := by
      rcases Bool.eq_false_or_eq_true ((n : Int) == 8) with q | q
      · exact .inr (hg q)
      · exact .inl q
    clear hg
    first
      | (have hg2 : decide ((127 : Int) < (s[0].toNat : Int)) = false := by
           rcases hg' with q | q
           · rw [q] at g; cases g
           · exact q)
      | skip
    clear hg'
    go_enter Try.func44, Try.ntmps44
    go_wp2
    go_loop [5, 6] (fun t i => ∃ k : Nat, k ≤ n ∧ i = .int .i64 k ∧ t = .int .i64 (be s k)) (fun _ i => n - (intOf i).toNat)
    case atStart => exact ⟨0, Nat.zero_le _, rfl, rfl⟩
    case round =>
      obtain ⟨k, hk, rfl, rfl⟩ := hrel
      by_cases hlt : k < n
      · have hks : k < s.size := by omega
        have HS := Lib.hid (be_succ s k hks)
        have hbk : be s k ≤ 36028797018963967 := by
          have h1 := be_mono s n hl (n - (k + 1)) (k + 1) (by omega)
          have h2 := be_succ s k hks
          omega
        have hc := s[k].toNat_lt
        go_wp2
        go_round
        case rel => exact ⟨k + 1, by omega, by go_num, by rw [HS.out]; go_num⟩
        case measure => simp [intOf]; omega
      · obtain rfl : k = n := by omega
        go_wp2
        go_ret
        exact ⟨rfl, Blk.set H.out 0 _, (Off.refl _ _).setCell _ _ (by simp)⟩
theorem refIn (b : Nat) (s : ByteArray) (bad : Bool) (w : World) (n : Int) (h : RefInAt w b s bad) :
    Calls Try.prog 44 #[.pointer (some ⟨b, 0, none⟩), .int .i64 n] w fun e w' => e = .returned (.int .i64 ((inNumV s bad n).1 : Nat)) ∧ RefInAt w' b (inNumV s bad n).2.1 (inNumV s bad n).2.2 ∧ Off [b] w w' := by
  unfold inNumV
  cases bad
  · by_cases hn : wide n = true
    · obtain ⟨m, rfl⟩ : ∃ m : Nat, n = (m : Int) := ⟨n.toNat, by have := wide_cases hn; omega⟩
      by_cases hl : m ≤ s.size
      · by_cases hb : be s m < 9223372036854775808
        · rw [if_pos ⟨rfl, hn, by omega, hb⟩]
          exact refIn_yes b s m w h hn hl hb
        · rw [if_neg (by intro hh; exact hb hh.2.2.2)]
          have e8 : m = 8 := by
            rcases wide_cases hn with e | e | e | e
            · have := be_lt s m hl; obtain rfl : m = 1 := by omega
              omega
            · have := be_lt s m hl; obtain rfl : m = 2 := by omega
              omega
            · have := be_lt s m hl; obtain rfl : m = 4 := by omega
              omega
            · omega
          subst e8
          exact refIn_spoil_great b s w h hl (by have := be_eight s hl; omega)
      · rw [if_neg (by intro hh; have := hh.2.2.1; omega)]
        exact refIn_spoil_short b s m w h hn (by omega)
    · rw [if_neg (by intro hh; exact hn hh.2.1)]
      exact refIn_spoil_wide b s n w h (by simpa using hn)
  · rw [if_neg (by simp)]
    exact refIn_spoil_bad b s n w h

theorem extract2a (s : ByteArray) (n : Nat) (h : n + 2 ≤ s.size) : (s.extract 2 s.size).extract 0 n = s.extract 2 (2 + n) := by
  rw [ByteArray.extract_extract]
  congr 1
  omega
theorem extract2b (s : ByteArray) (n : Nat) : (s.extract 2 s.size).extract n (s.extract 2 s.size).size = s.extract (2 + n) s.size := by
  rw [ByteArray.extract_extract]
  congr 1
  simp [ByteArray.size_extract]
  omega
end Go.Proofs.Ytloemjhhedkhiaa.Pk
