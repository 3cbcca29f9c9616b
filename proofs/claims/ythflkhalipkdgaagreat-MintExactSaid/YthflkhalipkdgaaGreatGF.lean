/- Fr1 FrM Fr2 Fr3 -/
import Derived.Test.YthflkhalipkdgaaGreatProg
import Derived.Below
import Derived.WalkKit
import Derived.KernelRfl
import Derived.RowKit3
import Derived.Deep.LoopGhost
import Derived.Deep.QuietTactic
import Derived.BigQuiet
import Derived.WideLaws
import Derived.Deep.DeepCutAuto
import Derived.Deep.CutBlock
import Derived.Lib.Hide
import Derived.Laws.BitsLemmas
import Derived.Laws.Bits64
import Derived.Laws.BitsAllLaws
import Derived.IntWalk
import Derived.Outline
import Derived.WalkSpells
import Derived.Test.YthflkhalipkdgaaGreatGA
import Derived.Laws.BytesArg
import Derived.RegionTactic
import Derived.Deep.RegionWith
import Derived.Deep.RegionHeld3
import Derived.Test.YthflkhalipkdgaaGreatGC
/- Contracts of layer 3: sums, bodies, frames. -/
namespace Go.Proofs.YthflkhalipkdgaaGreat.Fr
set_option maxRecDepth 20000
set_option linter.unusedVariables false
set_option linter.unusedSimpArgs false
open Go.RowKit Go.Proofs.YthflkhalipkdgaaGreat.Mem Go.Proofs.YthflkhalipkdgaaGreat.Pk

/-- a sum's bytes, the lowest first -/
def le4 (n : Nat) : List Nat := [n % 256, n / 256 % 256, n / 65536 % 256, n / 16777216 % 256]
def sumL (l : List Nat) : List Nat := le4 (Crc.crc l)
def sumV (s : ByteArray) : ByteArray := str (sumL (nums s))
theorem sumV_size (s : ByteArray) : (sumV s).size = 4 := by unfold sumV; rw [str_size]; rfl
def sumC (n k i : Nat) : Nat := if i < k then n / 256 ^ i % 256 else 0
def sumA (n k : Nat) : Array Value := #[.int .u8 (sumC n k 0 : Nat), .int .u8 (sumC n k 1 : Nat), .int .u8 (sumC n k 2 : Nat), .int .u8 (sumC n k 3 : Nat)]
theorem conv_arr {w : World} {b n : Nat} {t : TypeId} (h : Blk w b (sumA n 4) t) : (convert 83 9 (.slice (some ⟨b, 0, none⟩) 4 4)).run Tryz.prog w = .ok (.string (str (le4 n))) w := by
  have h1 := run_convert_bytes_arg (P := Tryz.prog) w 83 5 Tryz.underlying83 Tryz.underlying5 b 0 4 4 ((le4 n).map fun c : Nat => (c : Int)) (by simp [le4]) (fun i hi => by
    have hi' : i = 0 ∨ i = 1 ∨ i = 2 ∨ i = 3 := by omega
    rw [Nat.zero_add]
    rcases hi' with rfl | rfl | rfl | rfl
    · rw [h.cell 0 (.int .u8 (sumC n 4 0 : Nat)) rfl]; simp [le4, sumC]
    · rw [h.cell 1 (.int .u8 (sumC n 4 1 : Nat)) rfl]; simp [le4, sumC]
    · rw [h.cell 2 (.int .u8 (sumC n 4 2 : Nat)) rfl]; simp [le4, sumC]
    · rw [h.cell 3 (.int .u8 (sumC n 4 3 : Nat)) rfl]; simp [le4, sumC]) 9 Tryz.underlying9
  rw [h1]
  congr 2
  try simp [strOfNums, str, Function.comp_def]
theorem sumA_step (n k : Nat) (i : Nat) (hi : i = 0 ∨ i = 1 ∨ i = 2 ∨ i = 3) (hk : k = i) : (sumA n k).setIfInBounds k (.int .u8 ((n / 256 ^ k % 256 : Nat) : Int)) = sumA n (k + 1) := by
  subst hk
  rcases hi with rfl | rfl | rfl | rfl <;> simp [sumA, sumC]
theorem sum (s : ByteArray) (hs : s.size ≤ 140737488351232) (w : World) : Calls Tryz.prog 49 #[.string s] w fun e w' => e = .returned (.string (sumV s)) ∧ Off [] w w' := by
  have hk := CrcF.of_new1 s hs w.heap.size w rfl
  have hn : Crc.crc (CrcF.nums s) < 4294967296 := Crc.crc_lt _ (CrcF.nums_lt s)
  have HN := Lib.hid (show sumV s = str (le4 (Crc.crc (CrcF.nums s))) from rfl)
  generalize Crc.crc (CrcF.nums s) = n at *
  go_enter Tryz.func49, Tryz.ntmps49
  go_wp2_with (go_at_call 79; refine hk.mono ?_; rintro e w' ⟨rfl, rfl⟩)
  clear hk
  have hof0 : Off [] w ((w.alloc (.cells #[.string s] 9)).alloc (.cells #[.int .u8 0, .int .u8 0, .int .u8 0, .int .u8 0] 134)) := ((Off.refl _ w).alloc _).alloc _
  have HB := Lib.hid (show Blk ((w.alloc (.cells #[.string s] 9)).alloc (.cells #[.int .u8 0, .int .u8 0, .int .u8 0, .int .u8 0] 134)) (w.heap.size + 1) (sumA n 0) _ from blk_new' _ _ _ _ (by simp))
  generalize (w.alloc (.cells #[.string s] 9)).alloc (.cells #[.int .u8 0, .int .u8 0, .int .u8 0, .int .u8 0] 134) = wa at *
  go_loopw [9] (fun vi wr => ∃ k : Nat, k ≤ 4 ∧ vi = .int .i64 k ∧ Blk wr (w.heap.size + 1) (sumA n k) 134 ∧ Off [] w wr) (fun vi _ => 4 - (intOf vi).toNat)
  case atStart => exact ⟨0, by omega, rfl, HB.out, hof0⟩
  case round =>
    obtain ⟨k, hk, rfl, hB, hof⟩ := hrel
    clear HB
    by_cases hlt : k < 4
    · have hk4 : k = 0 ∨ k = 1 ∨ k = 2 ∨ k = 3 := by omega
      rcases hk4 with rfl | rfl | rfl | rfl
      all_goals
        have HB := Lib.hid hB
        have hf0 := hB.free 0
        have hf1 := hB.free 1
        have hf2 := hB.free 2
        have hf3 := hB.free 3
        have c0 := hB.cell 0 _ rfl
        have c1 := hB.cell 1 _ rfl
        have c2 := hB.cell 2 _ rfl
        have c3 := hB.cell 3 _ rfl
        clear hB
        go_wp2
        go_roundw
        case rel =>
          first
            | exact ⟨1, by omega, rfl, by have hs := HB.out.set 0 (.int .u8 ((n / 256 ^ 0 % 256 : Nat) : Int)); rw [sumA_step n 0 0 (by simp) rfl] at hs; simpa using hs, hof.setCell _ _ (.inr (by simp))⟩
            | exact ⟨2, by omega, rfl, by have hs := HB.out.set 1 (.int .u8 ((n / 256 ^ 1 % 256 : Nat) : Int)); rw [sumA_step n 1 1 (by simp) rfl] at hs; simpa using hs, hof.setCell _ _ (.inr (by simp))⟩
            | exact ⟨3, by omega, rfl, by have hs := HB.out.set 2 (.int .u8 ((n / 256 ^ 2 % 256 : Nat) : Int)); rw [sumA_step n 2 2 (by simp) rfl] at hs; simpa using hs, hof.setCell _ _ (.inr (by simp))⟩
            | exact ⟨4, by omega, rfl, by have hs := HB.out.set 3 (.int .u8 ((n / 256 ^ 3 % 256 : Nat) : Int)); rw [sumA_step n 3 3 (by simp) rfl] at hs; (have e4 : (n : Int) / 16777216 % 256 = (n : Int) / 16777216 := by omega); simpa [e4] using hs, hof.setCell _ _ (.inr (by simp))⟩
        case measure => simp [intOf]
    · obtain rfl : k = 4 := by omega
      have hcv := conv_arr hB
      go_wp2
      go_ret
      exact ⟨by rw [HN.out]; rfl, hof⟩
def isB (n : Int) : Bool := decide (1 ≤ n) && decide (n ≤ 2048)
theorem isBody (n : Int) (w : World) : Calls Tryz.prog 46 #[.int .i64 n] w fun e w' => e = .returned (.bool (isB n)) ∧ w = w' := by
  unfold isB
  by_cases h : 1 ≤ n
  · have hd : decide (1 ≤ n) = true := decide_eq_true h
    go_enter Tryz.func46, Tryz.ntmps46
    go_wp2
    go_ret
    exact ⟨ret_bool (by first | rfl | (rw [hd]; rfl)), rfl⟩
  · have hd : decide (1 ≤ n) = false := decide_eq_false h
    go_enter Tryz.func46, Tryz.ntmps46
    go_wp2
    go_ret
    exact ⟨ret_bool (by first | rfl | (rw [hd]; rfl)), rfl⟩
/-- a body's frame, as bytes -/
def frm (l : List Nat) : List Nat := beB 2 l.length ++ l ++ sumL (beB 2 l.length ++ l)
def ofV (s : ByteArray) : ByteArray × Int := if 1 ≤ s.size ∧ s.size ≤ 2048 then (str (frm (nums s)), 0) else (⟨#[]⟩, 1)
theorem ret_si {a b : ByteArray} {k : IntKind} {c d : Int} (h : a = b) (h' : c = d) : Ending.returned (.tuple #[.string a, .int k c]) = .returned (.tuple #[.string b, .int k d]) := by rw [h, h']
theorem sumV_str (l : List Nat) (h : ∀ c ∈ l, c < 256) : sumV (str l) = str (sumL l) := by unfold sumV; rw [nums_str l h]
theorem str_append (a b : List Nat) : str (a ++ b) = str a ++ str b := by
  apply ByteArray.ext
  simp [str, ByteArray.data_append]
theorem head_lt (s : ByteArray) : ∀ c ∈ beB 2 s.size ++ nums s, c < 256 := by
  intro c hc
  rcases List.mem_append.1 hc with h | h
  · exact beB_lt _ _ c h
  · exact nums_lt s c h
theorem frameOf (s : ByteArray) (w : World) : Calls Tryz.prog 35 #[.string s] w fun e w' => e = .returned (.tuple #[.string (ofV s).1, .int .i64 (ofV s).2]) ∧ Off [] w w' := by
  unfold ofV
  by_cases h : 1 ≤ s.size ∧ s.size ≤ 2048
  · rw [if_pos h]
    have hb := isBody s.size
    rw [show isB s.size = true by unfold isB; simp; omega] at hb
    have hz1 : (str (beB 2 s.size ++ nums s)).size = s.size + 2 := by rw [str_size, List.length_append, beB_length, nums_length]; omega
    have hv : str (beB 2 s.size ++ nums s) ++ sumV (str (beB 2 s.size ++ nums s)) = str (frm (nums s)) := by
      rw [sumV_str _ (head_lt s), ← str_append]
      unfold frm
      rw [nums_length]
    have hz2 := sumV_size (str (beB 2 s.size ++ nums s))
    have HV := Lib.hid hv
    clear hv
    have hzs : (str (beB 2 s.size ++ nums s)).size + (sumV (str (beB 2 s.size ++ nums s))).size ≤ 9223372036854775807 := by omega
    have hts := Lib.hid (fun w' => sum (str (beB 2 s.size ++ nums s)) (by omega) w')
    clear hz1 hz2
    go_enter Tryz.func35, Tryz.ntmps35
    go_wp2_with (first
      | (go_at_call 46; refine (hb _).mono ?_; rintro e w' ⟨rfl, rfl⟩)
      | (go_at_call 47; refine (outText_yes w.heap.size s _ [] _ (by omega) (by simp) (OutAt.newOut (w := w))).mono ?_; rintro e w1 ⟨rfl, v1, h1, hg1, hf1⟩; rw [List.nil_append] at h1; have hst := Lib.hid (outString w.heap.size v1 _ w1 h1))
      | (go_at_call 48; refine hst.out.mono ?_; rintro e w' ⟨rfl, rfl⟩)
      | (go_at_call 49; refine (hts.out _).mono ?_; rintro e w2 ⟨rfl, hf2⟩))
    go_ret2
    refine ⟨ret_si HV.out rfl, ?_⟩
    exact (((Off.refl [] w).alloc _).fresh hf1 (by simp [Value.ownBlock])).trans hf2 (by simp)
  · rw [if_neg h]
    have hb := isBody s.size
    rw [show isB s.size = false by unfold isB; rw [Bool.eq_false_iff]; simp; omega] at hb
    go_enter Tryz.func35, Tryz.ntmps35
    go_wp2_with (go_at_call 46; refine (hb _).mono ?_; rintro e w' ⟨rfl, rfl⟩)
    go_ret2
    exact ⟨rfl, Off.refl _ _⟩
end Go.Proofs.YthflkhalipkdgaaGreat.Fr

/- Frames, in plain words: what is made is read, what is turned is told. -/
namespace Go.Proofs.YthflkhalipkdgaaGreat.Fr
set_option maxRecDepth 20000
set_option linter.unusedVariables false
set_option linter.unusedSimpArgs false
open Go.RowKit Go.Proofs.YthflkhalipkdgaaGreat.Mem Go.Proofs.YthflkhalipkdgaaGreat.Pk

theorem beL_beB : ∀ (k n : Nat), beL (beB k n) = n % 256 ^ k
  | 0, n => by simp [beB, beL, Nat.mod_one]
  | k + 1, n => by
    rw [beB, beL_snoc, beL_beB k (n / 256), Nat.pow_succ, Nat.mul_comm (256 ^ k) 256, Nat.mod_mul]
    omega
/-- a frame's parts -/
def hd (l : List Nat) : List Nat := beB 2 l.length ++ l
theorem hd_lt (l : List Nat) (h : ∀ c ∈ l, c < 256) : ∀ c ∈ hd l, c < 256 := by
  intro c hc
  rcases List.mem_append.1 hc with h1 | h1
  · exact beB_lt _ _ c h1
  · exact h c h1
end Go.Proofs.YthflkhalipkdgaaGreat.Fr

/- Contracts of layer 3: cutting bytes into frames; its statements are awake. -/
namespace Go.Proofs.YthflkhalipkdgaaGreat.Fr
set_option maxRecDepth 20000
set_option linter.unusedVariables false
set_option linter.unusedSimpArgs false
open Go.RowKit Go.Proofs.YthflkhalipkdgaaGreat.Mem Go.Proofs.YthflkhalipkdgaaGreat.Pk

/-! the statements of layer 3 are awake -/
abbrev a1 : ByteArray := ⟨#[97]⟩
end Go.Proofs.YthflkhalipkdgaaGreat.Fr

/- Contracts of layer 3: one frame's body; the document's frames. -/
namespace Go.Proofs.YthflkhalipkdgaaGreat.Fr
set_option maxRecDepth 20000
set_option linter.unusedVariables false
set_option linter.unusedSimpArgs false
open Go.RowKit Go.Proofs.YthflkhalipkdgaaGreat.Mem Go.Proofs.YthflkhalipkdgaaGreat.Pk

theorem ofV_yes (s : ByteArray) (h : 1 ≤ s.size ∧ s.size ≤ 2048) : ofV s = (str (frm (nums s)), 0) := by unfold ofV; rw [if_pos h]
theorem ofV_no (s : ByteArray) (h : ¬ (1 ≤ s.size ∧ s.size ≤ 2048)) : ofV s = (⟨#[]⟩, 1) := by unfold ofV; rw [if_neg h]
theorem refNum_two (n : Nat) (h : n < 65536) : refNumV 2 (n : Int) = (str (beB 2 n), true) := by
  unfold refNumV
  rw [if_pos ⟨rfl, by omega⟩]
  refine Prod.ext rfl ?_
  simp
  omega
theorem ret_sb {a b : ByteArray} {c d : Bool} (h : a = b) (h' : c = d) : Ending.returned (.tuple #[.string a, .bool c]) = .returned (.tuple #[.string b, .bool d]) := by rw [h, h']
theorem conv4 {w : World} {b n : Nat} {t : TypeId} (h : Blk w b #[.int .u8 ((n % 256 : Nat) : Int), .int .u8 ((n / 256 % 256 : Nat) : Int), .int .u8 ((n / 65536 % 256 : Nat) : Int), .int .u8 ((n / 16777216 % 256 : Nat) : Int)] t) :
    (convert 83 9 (.slice (some ⟨b, 0, none⟩) 4 4)).run Tryz.prog w = .ok (.string (str (le4 n))) w := by
  refine conv_arr (t := t) ?_
  have e : sumA n 4 = #[.int .u8 ((n % 256 : Nat) : Int), .int .u8 ((n / 256 % 256 : Nat) : Int), .int .u8 ((n / 65536 % 256 : Nat) : Int), .int .u8 ((n / 16777216 % 256 : Nat) : Int)] := by simp [sumA, sumC]
  rw [e]
  exact h
theorem refOf (s : ByteArray) (w : World) : Calls Tryz.prog 41 #[.string s] w fun e w' => e = .returned (.tuple #[.string (ofV s).1, .bool ((ofV s).2 == 0)]) ∧ Off [] w w' := by
  by_cases h : 1 ≤ s.size ∧ s.size ≤ 2048
  · rw [ofV_yes s h]
    have d1 : decide ((s.size : Int) < 1) = false := decide_eq_false (by omega)
    have d2 : decide ((2048 : Int) < (s.size : Int)) = false := decide_eq_false (by omega)
    have hz0 : (str (beB 2 s.size)).size = 2 := by rw [str_size, beB_length]
    have hz1 : (str (beB 2 s.size) ++ s).size = s.size + 2 := by rw [ByteArray.size_append, hz0]; omega
    have e0 : str (beB 2 s.size) ++ s = str (hd (nums s)) := by
      rw [hd, str_append, str_nums, nums_length]
    have k1 := Lib.hid (fun w' => refNum 2 (s.size : Int) w' (by omega))
    rw [refNum_two s.size (by omega)] at k1
    have k2 := Lib.hid (fun w' => CrcF.ref_of (str (beB 2 s.size) ++ s) (by omega) w')
    have hn : Crc.crc (CrcF.nums (str (beB 2 s.size) ++ s)) < 4294967296 := Crc.crc_lt _ (CrcF.nums_lt _)
    have hv : str (beB 2 s.size) ++ s ++ str (le4 (Crc.crc (CrcF.nums (str (beB 2 s.size) ++ s)))) = str (frm (nums s)) := by
      rw [e0, show CrcF.nums (str (hd (nums s))) = nums (str (hd (nums s))) from rfl, nums_str _ (hd_lt _ (nums_lt s)), ← str_append]
      rfl
    have HV := Lib.hid hv
    have hz3 : (str (le4 (Crc.crc (CrcF.nums (str (beB 2 s.size) ++ s))))).size = 4 := by rw [str_size]; rfl
    generalize Crc.crc (CrcF.nums (str (beB 2 s.size) ++ s)) = n at *
    have hsz : (str (beB 2 s.size) ++ s).size + (str (le4 n)).size ≤ 9223372036854775807 := by omega
    clear e0 hv hz1 hz3
    generalize str (beB 2 s.size) = B at *
    have hsz0 : B.size + s.size ≤ 9223372036854775807 := by omega
    generalize hLE : str (le4 n) = LE at *
    have hcv : ∀ w' : World, (convert 83 9 (.slice (some ⟨w'.heap.size, 0, none⟩) 4 4)).run Tryz.prog (w'.alloc (.cells #[.int .u8 ((n : Int) % 256), .int .u8 ((n : Int) / 256 % 256), .int .u8 ((n : Int) / 65536 % 256), .int .u8 ((n : Int) / 16777216)] 5)) = .ok (.string LE) (w'.alloc (.cells #[.int .u8 ((n : Int) % 256), .int .u8 ((n : Int) / 256 % 256), .int .u8 ((n : Int) / 65536 % 256), .int .u8 ((n : Int) / 16777216)] 5)) := fun w' => by
      rw [← hLE, show (n : Int) % 256 = ((n % 256 : Nat) : Int) by omega, show (n : Int) / 256 % 256 = ((n / 256 % 256 : Nat) : Int) by omega, show (n : Int) / 65536 % 256 = ((n / 65536 % 256 : Nat) : Int) by omega, show (n : Int) / 16777216 = ((n / 16777216 % 256 : Nat) : Int) by omega]
      exact conv4 (blk_new' _ _ _ _ rfl)
    clear hLE
    go_enter Tryz.func41, Tryz.ntmps41
    go_wp2_with (first
      | (go_at_call 70; refine (k1.out _).mono ?_; rintro e w1 ⟨rfl, hf1⟩)
      | (go_at_call 71; refine (k2.out _).mono ?_; rintro e w2 ⟨rfl, rfl⟩))
    go_ret2
    exact ⟨ret_sb HV.out rfl, hf1.alloc _⟩
  · rw [ofV_no s h]
    have hd : decide ((s.size : Int) < 1) = true ∨ decide ((s.size : Int) < 1) = false ∧ decide ((2048 : Int) < (s.size : Int)) = true := by
      by_cases h1 : s.size < 1
      · exact .inl (decide_eq_true (by omega))
      · exact .inr ⟨decide_eq_false (by omega), decide_eq_true (by omega)⟩
    rcases hd with hd | ⟨hd, hd2⟩
    all_goals
      go_enter Tryz.func41, Tryz.ntmps41
      go_wp2
      go_ret2
      exact ⟨rfl, Off.refl _ _⟩
end Go.Proofs.YthflkhalipkdgaaGreat.Fr
