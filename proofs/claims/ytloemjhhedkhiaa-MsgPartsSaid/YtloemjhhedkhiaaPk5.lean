/- Contracts of the references of layer 2. -/
import Derived.Test.YtloemjhhedkhiaaProg
import Derived.Below
import Derived.WalkKit
import Derived.KernelRfl
import Derived.RowKit3
import Derived.Deep.LoopGhost
import Derived.Deep.QuietTactic
import Derived.BigQuiet
import Derived.WideLaws
import Derived.Deep.DeepCutAuto
import Derived.Deep.CutBlock
import Derived.Lib.Hide
import Derived.Laws.BitsLemmas
import Derived.Laws.Bits64
import Derived.Laws.BitsAllLaws
import Derived.IntWalk
import Derived.Outline
import Derived.WalkSpells
import Derived.Test.YtloemjhhedkhiaaMem
import Derived.OwnWalk
import Derived.Deep.OwnRows
import Derived.Laws.BytesArg
import Derived.Test.YtloemjhhedkhiaaPk3
import Derived.Test.YtloemjhhedkhiaaPk4
namespace Go.Proofs.Ytloemjhhedkhiaa.Pk
set_option linter.unusedVariables false
set_option linter.unusedSimpArgs false
open Go.RowKit Go.Proofs.Ytloemjhhedkhiaa.Mem

/-- a block of bytes -/
def bytesArr (l : List Nat) : Array Value := (bytesL l).toArray
theorem bytesArr_get (l : List Nat) (i : Nat) (h : i < l.length) : (bytesArr l)[i]? = some (.int .u8 ((l[i] : Nat) : Int)) := by simp [bytesArr, bytesL, h]
theorem bytesArr_set (l : List Nat) (i v : Nat) : (bytesArr l).setIfInBounds i (.int .u8 (v : Int)) = bytesArr (l.set i v) := by simp [bytesArr, bytesL, List.map_set]
theorem made_bytes (n : Nat) : madeCells #[.int .u8 0] n = bytesArr (List.replicate n 0) := by
  apply Array.ext
  · simp [madeCells, bytesArr, bytesL]
  · intro i h1 h2
    simp [madeCells, bytesArr, bytesL, Nat.mod_one]
theorem conv_blk {w : World} {b : Nat} {l : List Nat} (h : Blk w b (bytesArr l) 5) (n : Nat) (hn : l.length = n) :
    (convert 44 9 (.slice (some ⟨b, 0, none⟩) n n)).run Try.prog w = .ok (.string (str l)) w := by
  subst hn
  have h1 := run_convert_bytes_arg (P := Try.prog) w 44 5 Try.underlying44 Try.underlying5 b 0 l.length l.length (l.map fun c : Nat => (c : Int)) (by simp) (fun i hi => by
    rw [Nat.zero_add, h.cell i _ (bytesArr_get l i hi)]
    simp [hi]) 9 Try.underlying9
  rw [h1]
  simp [strOfNums, str, Function.comp_def]
theorem beB_cons : ∀ (k n : Nat), beB (k + 1) n = (n / 256 ^ k % 256) :: beB k n
  | 0, n => by simp [beB]
  | k + 1, n => by
    have h1 : beB (k + 1 + 1) n = beB (k + 1) (n / 256) ++ [n % 256] := rfl
    have h2 : beB (k + 1) n = beB k (n / 256) ++ [n % 256] := rfl
    rw [h1, beB_cons k (n / 256), h2, List.cons_append, Nat.div_div_eq_div_mul, Nat.pow_succ, Nat.mul_comm]
theorem set_drop (l : List Nat) (q v : Nat) (h : q < l.length) : (l.set q v).drop q = v :: l.drop (q + 1) := by
  rw [List.drop_eq_getElem_cons (by simpa using h), List.drop_set_of_lt (by omega)]
  simp

/-- the reference's number -/
def refNumV (wd n : Int) : ByteArray × Bool := if wide wd = true ∧ 0 ≤ n then (str (beB wd.toNat n.toNat), n.toNat / 256 ^ wd.toNat == 0) else (⟨#[]⟩, false)
theorem refNum_no (wd n : Int) (w : World) (h : wide wd = false ∨ n < 0) :
    Calls Try.prog 36 #[.int .i64 wd, .int .i64 n] w fun e w' => e = .returned (.tuple #[.string ⟨#[]⟩, .bool false]) ∧ w = w' := by
  by_cases hw : wide wd = true
  · have hn : n < 0 := by rcases h with h | h; rw [hw] at h; cases h; exact h
    have hd : decide (n < 0) = true := decide_eq_true hn
    rcases wide_cases hw with rfl | rfl | rfl | rfl
    all_goals
      go_enter Try.func36, Try.ntmps36
      go_wp2
      go_ret2
      exact ⟨rfl, rfl⟩
  · unfold wide at hw
    simp at hw
    obtain ⟨⟨⟨h1, h2⟩, h4⟩, h8⟩ := hw
    have e1 : (wd != 1) = true := by simpa using h1
    have e2 : (wd != 2) = true := by simpa using h2
    have e4 : (wd != 4) = true := by simpa using h4
    have e8 : (wd != 8) = true := by simpa using h8
    go_enter Try.func36, Try.ntmps36
    go_wp2
    go_ret2
    exact ⟨rfl, rfl⟩
set_option maxHeartbeats 800000 in
theorem refNum_yes (wd n : Nat) (w : World) (hw : wide wd = true) (hn63 : n < 9223372036854775808) :
    Calls Try.prog 36 #[.int .i64 wd, .int .i64 n] w fun e w' => e = .returned (.tuple #[.string (str (beB wd n)), .bool (n / 256 ^ wd == 0)]) ∧ Off [] w w' := by
  have h8 := wide_le hw
  have hd : decide ((n : Int) < 0) = false := decide_eq_false (by omega)
  have hmk := run_make_row' (P := Try.prog) 44 5 (.int .u8 0) 1 Try.underlying44 info_byte rfl .i64 .i64 wd (by omega) (by omega)
  have hpr : ((n / 256 ^ wd == 0) : Bool) = ((((n / 256 ^ wd : Nat) : Int)) == 0) := by
    generalize n / 256 ^ wd = x
    rw [Bool.eq_iff_iff, beq_iff_eq, beq_iff_eq]; omega
  rw [hpr]
  clear hpr
  have hcs : ((wd : Int) != 1) = false ∨ (((wd : Int) != 1) = true ∧ ((wd : Int) != 2) = false) ∨ (((wd : Int) != 1) = true ∧ ((wd : Int) != 2) = true ∧ ((wd : Int) != 4) = false) ∨ (((wd : Int) != 1) = true ∧ ((wd : Int) != 2) = true ∧ ((wd : Int) != 4) = true ∧ ((wd : Int) != 8) = false) := by
    have := wide_cases hw
    simp
    omega
  rcases hcs with e1 | ⟨e1, e2⟩ | ⟨e1, e2, e4⟩ | ⟨e1, e2, e4, e8⟩
  all_goals
    go_enter Try.func36, Try.ntmps36
    go_wp2
    go_loopw [1, 7] (fun vn vi wr => ∃ (r : Nat) (l : List Nat), r ≤ wd ∧ l.length = wd ∧ vi = .int .i64 ((r : Int) - 1) ∧ vn = .int .i64 ((n / 256 ^ (wd - r) : Nat) : Int) ∧ Hid (l.drop r = beB (wd - r) n) ∧ Blk wr w.heap.size (bytesArr l) 5 ∧ Off [] w wr)
      (fun _ vi _ => (intOf vi + 1).toNat)
    case atStart => exact ⟨wd, List.replicate wd 0, Nat.le_refl _, by simp, rfl, by simp, Lib.hid (by simp [beB]), by rw [← made_bytes]; exact blk_new _ _ _, (Off.refl _ _).alloc _⟩
    case round =>
      obtain ⟨r, l, hr, hl, rfl, rfl, HL, hb, ho⟩ := hrel
      rcases r with _ | q
      · rw [show (((0 : Nat) : Int) - 1) = -1 from rfl]
        have hcv := conv_blk hb wd hl
        have hl2 : l = beB wd n := by have := HL.out; simpa using this
        have HL2 := Lib.hid hl2
        clear hl2
        go_wp2
        go_ret2
        exact ⟨by rw [HL2.out]; rfl, ho⟩
      · rw [show (((q + 1 : Nat) : Int) - 1) = (q : Int) by omega]
        have hc := hb.cell q _ (bytesArr_get l q (by omega))
        have hf := hb.free q
        have HB := Lib.hid hb
        clear hb
        generalize l[q]'(by omega) = old at hc
        have HM := Lib.hid (show n / 256 ^ (wd - q) = n / 256 ^ (wd - (q + 1)) / 256 by
          rw [Nat.div_div_eq_div_mul, ← Nat.pow_succ, show wd - q = wd - (q + 1) + 1 by omega])
        have HC := Lib.hid (show beB (wd - q) n = (n / 256 ^ (wd - (q + 1)) % 256) :: beB (wd - (q + 1)) n by
          rw [show wd - q = wd - (q + 1) + 1 by omega, beB_cons])
        have hm63 : n / 256 ^ (wd - (q + 1)) < 9223372036854775808 := Nat.lt_of_le_of_lt (Nat.div_le_self _ _) hn63
        generalize n / 256 ^ (wd - (q + 1)) = m at *
        go_wp2
        go_roundw
        case rel =>
          refine ⟨q, l.set q (m % 256), by omega, by simpa using hl, rfl, by rw [HM.out]; go_num, ?_, ?_, ho.setCell _ _ (.inr (by simp))⟩
          · exact Lib.hid (by rw [set_drop l q _ (by omega), HL.out, HC.out])
          · have := HB.out.set q (.int .u8 ((m % 256 : Nat) : Int))
            rw [bytesArr_set] at this
            simpa using this
        case measure => simp [intOf] <;> omega
/-- the reference's number, whatever comes -/
theorem refNum (wd n : Int) (w : World) (hn : n < 9223372036854775808) :
    Calls Try.prog 36 #[.int .i64 wd, .int .i64 n] w fun e w' => e = .returned (.tuple #[.string (refNumV wd n).1, .bool (refNumV wd n).2]) ∧ Off [] w w' := by
  unfold refNumV
  by_cases h : wide wd = true ∧ 0 ≤ n
  · rw [if_pos h]
    obtain ⟨a, rfl⟩ : ∃ a : Nat, wd = (a : Int) := ⟨wd.toNat, by have := wide_cases h.1; omega⟩
    obtain ⟨b, rfl⟩ := Int.eq_ofNat_of_zero_le h.2
    exact refNum_yes a b w h.1 (by omega)
  · rw [if_neg h]
    refine (refNum_no wd n w ?_).mono fun e w' hh => ⟨hh.1, hh.2 ▸ Off.refl _ _⟩
    rcases Bool.eq_false_or_eq_true (wide wd) with h1 | h1
    · exact .inr (Int.lt_of_not_ge fun h2 => h ⟨h1, h2⟩)
    · exact .inl h1
end Go.Proofs.Ytloemjhhedkhiaa.Pk
