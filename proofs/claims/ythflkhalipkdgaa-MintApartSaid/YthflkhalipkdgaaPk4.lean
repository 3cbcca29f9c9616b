/- Contracts of the functions of layer 2: numbers and texts that are read. -/
import Derived.Test.YthflkhalipkdgaaProg
import Derived.Below
import Derived.WalkKit
import Derived.KernelRfl
import Derived.RowKit3
import Derived.Deep.LoopGhost
import Derived.Deep.QuietTactic
import Derived.BigQuiet
import Derived.WideLaws
import Derived.Deep.DeepCutAuto
import Derived.Deep.CutBlock
import Derived.Lib.Hide
import Derived.Laws.BitsLemmas
import Derived.Laws.Bits64
import Derived.Laws.BitsAllLaws
import Derived.IntWalk
import Derived.Outline
import Derived.WalkSpells
import Derived.Test.YthflkhalipkdgaaMem
import Derived.Test.YthflkhalipkdgaaPk1
namespace Go.Proofs.Ythflkhalipkdgaa.Pk
set_option maxRecDepth 20000
set_option linter.unusedVariables false
set_option linter.unusedSimpArgs false
open Go.RowKit Go.Proofs.Ythflkhalipkdgaa.Mem

/-- the next number: it, what is left, whether it is bad -/
def inNumV (s : ByteArray) (bad : Bool) (n : Int) : Nat × ByteArray × Bool :=
  if bad = false ∧ wide n = true ∧ n ≤ s.size ∧ be s n.toNat < 9223372036854775808 then (be s n.toNat, s.extract n.toNat s.size, false) else (0, s, true)
def inTextV (s : ByteArray) (bad : Bool) (most : Int) : ByteArray × ByteArray × Bool :=
  if bad = false ∧ 2 ≤ s.size ∧ (be s 2 : Int) ≤ most ∧ be s 2 + 2 ≤ s.size then (s.extract 2 (2 + be s 2), s.extract (2 + be s 2) s.size, false) else (⟨#[]⟩, s, true)

theorem inLook_nil (n : Int) (w : World) :
    Calls Try.prog 83 #[.pointer none, .int .i64 n] w fun e w' => e = .returned (.tuple #[.int .i64 0, .bool false]) ∧ w = w' := by
  by_cases hn : wide n = true
  · have hd : decide (0 < n) = true := decide_eq_true (by unfold wide at hn; simp at hn; omega)
    go_enter Try.func83, Try.ntmps83
    go_wp2_with (first | (go_at_call 81; refine (isWide _ _).mono ?_; rintro e w' ⟨rfl, rfl⟩) | (go_at_call 98; refine (inLeft_nil _).mono ?_; rintro e w' ⟨rfl, rfl⟩))
    go_ret2
    exact ⟨rfl, rfl⟩
  · have hf : wide n = false := by simpa using hn
    go_enter Try.func83, Try.ntmps83
    go_wp2_with (go_at_call 81; refine (isWide _ _).mono ?_; rintro e w' ⟨rfl, rfl⟩)
    go_ret2
    exact ⟨rfl, rfl⟩
theorem inNum_nil (n : Int) (w : World) :
    Calls Try.prog 43 #[.pointer none, .int .i64 n] w fun e w' => e = .returned (.int .i64 0) ∧ w = w' := by
  go_enter Try.func43, Try.ntmps43
  go_wp2_with (first | (go_at_call 83; refine (inLook_nil _ _).mono ?_; rintro e w' ⟨rfl, rfl⟩) | (go_at_call 84; refine (inSpoil_nil _).mono ?_; rintro e w' ⟨rfl, rfl⟩))
  go_ret
  exact ⟨rfl, rfl⟩
theorem inNum_no (b : Nat) (s : ByteArray) (bad : Bool) (w : World) (n : Int) (h : InAt w b s bad)
    (hl : Calls Try.prog 83 #[.pointer (some ⟨b, 0, none⟩), .int .i64 n] w fun e w' => e = .returned (.tuple #[.int .i64 0, .bool false]) ∧ w = w') :
    Calls Try.prog 43 #[.pointer (some ⟨b, 0, none⟩), .int .i64 n] w fun e w' => e = .returned (.int .i64 0) ∧ InAt w' b s true ∧ Off [b] w w' := by
  have H := Lib.hid hl
  clear hl
  go_enter Try.func43, Try.ntmps43
  go_wp2_with (first | (go_at_call 83; refine H.out.mono ?_; rintro e w' ⟨rfl, rfl⟩) | (go_at_call 84; refine (inSpoil b s bad _ h).mono ?_; rintro e w' ⟨rfl, h1, h2⟩))
  go_ret
  exact ⟨rfl, h1, h2⟩
theorem inNum_no2 (b : Nat) (s : ByteArray) (w : World) (n : Nat) (h : InAt w b s false) (hn : wide n = true) (hl : n ≤ s.size) (hb : 9223372036854775808 ≤ be s n) :
    Calls Try.prog 43 #[.pointer (some ⟨b, 0, none⟩), .int .i64 n] w fun e w' => e = .returned (.int .i64 0) ∧ InAt w' b s true ∧ Off [b] w w' := by
  have hd : decide (be s n < 9223372036854775808) = false := decide_eq_false (by omega)
  have hl := inLook_yes b s w n h hn hl
  rw [hd] at hl
  have H := Lib.hid hl
  clear hl hd
  go_enter Try.func43, Try.ntmps43
  go_wp2_with (first | (go_at_call 83; refine H.out.mono ?_; rintro e w' ⟨rfl, rfl⟩) | (go_at_call 84; refine (inSpoil b s false _ h).mono ?_; rintro e w' ⟨rfl, h1, h2⟩))
  go_ret
  exact ⟨rfl, h1, h2⟩
theorem wrap_small {n : Nat} (h : n < 9223372036854775808) : wrap64 (n : Int) = (n : Int) := by unfold wrap64; omega
theorem inNum_yes (b : Nat) (s : ByteArray) (w : World) (n : Nat) (h : InAt w b s false) (hn : wide n = true) (hl : n ≤ s.size) (hb : be s n < 9223372036854775808) :
    Calls Try.prog 43 #[.pointer (some ⟨b, 0, none⟩), .int .i64 n] w fun e w' => e = .returned (.int .i64 (be s n)) ∧ InAt w' b (s.extract n s.size) false ∧ Off [b] w w' := by
  have hd : decide (be s n < 9223372036854775808) = true := decide_eq_true hb
  have hk := inLook_yes b s w n h hn hl
  rw [hd, wrap_small hb] at hk
  have H := Lib.hid hk
  have h0 := Blk.cell h 0 _ rfl
  have h2 := Blk.free h 0
  have HB := Lib.hid h
  clear hk hd h
  go_enter Try.func43, Try.ntmps43
  go_wp2_with (go_at_call 83; refine H.out.mono ?_; rintro e w' ⟨rfl, rfl⟩)
  go_ret
  exact ⟨rfl, Blk.set HB.out 0 _, (Off.refl _ _).setCell _ _ (by simp)⟩
theorem inNum (b : Nat) (s : ByteArray) (bad : Bool) (w : World) (n : Int) (h : InAt w b s bad) :
    Calls Try.prog 43 #[.pointer (some ⟨b, 0, none⟩), .int .i64 n] w fun e w' => e = .returned (.int .i64 ((inNumV s bad n).1 : Nat)) ∧ InAt w' b (inNumV s bad n).2.1 (inNumV s bad n).2.2 ∧ Off [b] w w' := by
  unfold inNumV
  by_cases hn : wide n = true
  · obtain ⟨m, rfl⟩ : ∃ m : Nat, n = (m : Int) := ⟨n.toNat, by unfold wide at hn; simp at hn; omega⟩
    cases bad
    · by_cases hl : m ≤ s.size
      · by_cases hb : be s m < 9223372036854775808
        · rw [if_pos ⟨rfl, hn, by omega, hb⟩]
          exact inNum_yes b s w m h hn hl hb
        · rw [if_neg (by intro hh; exact hb hh.2.2.2)]
          exact inNum_no2 b s w m h hn hl (by omega)
      · rw [if_neg (by intro hh; have := hh.2.2.1; omega)]
        exact inNum_no b s false w m h (inLook_no2 b s false w m h hn (by unfold inLeftV; simp; omega))
    · rw [if_neg (by simp)]
      exact inNum_no b s true w m h (inLook_no2 b s true w m h hn (by unfold wide at hn; simp at hn; unfold inLeftV; simp; omega))
  · rw [if_neg (by intro hh; exact hn hh.2.1)]
    exact inNum_no b s bad w n h (inLook_no1 b w n (by simpa using hn))

theorem be2_lt (s : ByteArray) (h : 2 ≤ s.size) : be s 2 < 65536 := be_lt s 2 h
theorem look2 (b : Nat) (s : ByteArray) (w : World) (h : InAt w b s false) (hl : 2 ≤ s.size) :
    Calls Try.prog 83 #[.pointer (some ⟨b, 0, none⟩), .int .i64 2] w fun e w' => e = .returned (.tuple #[.int .i64 (be s 2), .bool true]) ∧ w = w' := by
  have h1 := be2_lt s hl
  have hk := inLook_yes b s w 2 h rfl hl
  rw [wrap_small (by omega), show decide (be s 2 < 9223372036854775808) = true from decide_eq_true (by omega)] at hk
  exact hk
theorem inOf (s : ByteArray) (w : World) :
    Calls Try.prog 42 #[.string s] w fun e w' => ∃ b, e = .returned (.pointer (some ⟨b, 0, none⟩)) ∧ w.heap.size ≤ b ∧ InAt w' b s false ∧ Off [] w w' := by
  go_enter Try.func42, Try.ntmps42
  go_wp2
  go_ret
  exact ⟨w.heap.size, rfl, Nat.le_refl _, blk_new _ _ _, (Off.refl _ _).alloc _⟩
end Go.Proofs.Ythflkhalipkdgaa.Pk
