/- What is written and what the document says of it, in one word each. -/
import Derived.Test.YtpofjeenednjcaaProg
import Derived.Below
import Derived.WalkKit
import Derived.KernelRfl
import Derived.RowKit3
import Derived.Deep.LoopGhost
import Derived.Deep.QuietTactic
import Derived.BigQuiet
import Derived.WideLaws
import Derived.Deep.DeepCutAuto
import Derived.Deep.CutBlock
import Derived.Lib.Hide
import Derived.Laws.BitsLemmas
import Derived.Laws.Bits64
import Derived.Laws.BitsAllLaws
import Derived.IntWalk
import Derived.Outline
import Derived.WalkSpells
import Derived.Test.YtpofjeenednjcaaMem
import Derived.Test.YtpofjeenednjcaaPkB
namespace Go.Proofs.Ytpofjeenednjcaa.Pk
open Go.RowKit Go.Proofs.Ytpofjeenednjcaa.Mem

theorem str_append (a b : List Nat) : str (a ++ b) = str a ++ str b := by
  apply ByteArray.ext
  simp [str, ByteArray.data_append]
theorem fits_ref (wd n : Int) (hn : n < 9223372036854775808) : fitsV wd n = (refNumV wd n).2 := by
  unfold refNumV fitsV
  by_cases hw : wide wd = true
  · by_cases h0 : 0 ≤ n
    · rw [if_pos ⟨hw, h0⟩, hw, decide_eq_true h0]
      rcases wide_cases hw with rfl | rfl | rfl | rfl
      all_goals
        rw [Bool.eq_iff_iff]
        simp
        try omega
    · rw [if_neg (fun h => h0 h.2), decide_eq_false h0]
      simp
  · rw [if_neg (fun h => hw h.1)]
    simp [hw]
/-- two numbers -/
theorem outNum_two (b : Nat) (wd n m : Int) (g : Nat) (v : Value) (l : List Nat) (w : World) (hn : n < 9223372036854775808) (hm : m < 9223372036854775808) (hll : l.length ≤ 1099511627776)
    (ho : OutAt w b v l) (hg : Blk w g #[.int .i64 n, .int .i64 m] 3) (hgb : g ≠ b) (hgv : some g ≠ v.ownBlock) :
    Calls Try.prog 23 #[.pointer (some ⟨b, 0, none⟩), .int .i64 wd, .slice (some ⟨g, 0, none⟩) 2 2] w fun e w' => e = .returned (.bool ((refNumV wd n).2 && (refNumV wd m).2)) ∧
      ∃ v' l', OutAt w' b v' l' ∧ str l' = (if (refNumV wd n).2 && (refNumV wd m).2 then str l ++ (refNumV wd n).1 ++ (refNumV wd m).1 else str l) ∧ l'.length ≤ l.length + 16 ∧ Goes w v v' ∧ Off (b :: v.ownBlock.toList) w w' := by
  have hr : ∀ (i : Nat) (h : i < [n, m].length), w.cell? ((⟨g, 0, none⟩ : Addr).add i) = some (.int .i64 [n, m][i]) := fun i hi => by
    match i, hi with
    | 0, _ => exact hg.cell 0 _ rfl
    | 1, _ => exact hg.cell 1 _ rfl
  by_cases hw : wide wd = true
  · cases hf : [n, m].all (fitsV wd)
    · refine (outNum_no b wd ⟨g, 0, none⟩ [n, m] 2 w hw (by simp) hr hf).mono ?_
      rintro e w' ⟨rfl, rfl⟩
      have : ((refNumV wd n).2 && (refNumV wd m).2) = false := by
        rw [← fits_ref wd n hn, ← fits_ref wd m hm]
        simpa using hf
      rw [this]
      exact ⟨rfl, v, l, ho, rfl, by omega, Goes.refl _ _, Off.refl _ _⟩
    · obtain ⟨a, rfl⟩ : ∃ a : Nat, wd = (a : Int) := ⟨wd.toNat, by have := wide_cases hw; omega⟩
      refine (outNum_yes b a ⟨g, 0, none⟩ [n, m] 2 v l w hw (by simp) hll hr hf ho hgb hgv).mono ?_
      rintro e w' ⟨rfl, v', h1, h2, h3⟩
      have h8 := wide_le hw
      have hfit : fitsV a n = true ∧ fitsV a m = true := by simpa using hf
      have this : ((refNumV a n).2 && (refNumV a m).2) = true := by
        rw [← fits_ref a n hn, ← fits_ref a m hm]
        simpa using hf
      rw [this]
      have n0 : 0 ≤ n := by have := hfit.1; unfold fitsV at this; simp at this; exact this.1.2
      have m0 : 0 ≤ m := by have := hfit.2; unfold fitsV at this; simp at this; exact this.1.2
      refine ⟨rfl, v', _, h1, ?_, ?_, h2, h3⟩
      · unfold refNumV
        rw [if_pos rfl, if_pos ⟨hw, n0⟩, if_pos ⟨hw, m0⟩]
        simp [beBs, str_append, ByteArray.append_assoc]
      · simp [beBs_length]
        omega
  · have hf : wide wd = false := by simpa using hw
    refine (outNum_bad b wd _ w hf).mono ?_
    rintro e w' ⟨rfl, rfl⟩
    have : (refNumV wd n).2 = false := by unfold refNumV; rw [if_neg (fun h => hw h.1)]
    rw [this]
    exact ⟨rfl, v, l, ho, rfl, by omega, Goes.refl _ _, Off.refl _ _⟩
theorem refNumV_size (wd n : Int) : (refNumV wd n).1.size ≤ 8 := by
  unfold refNumV
  split
  · rename_i h
    have := wide_cases h.1
    show (str _).size ≤ 8
    rw [str_size, beB_length]
    omega
  · exact Nat.zero_le _
/-- a text -/
theorem outText_one (b : Nat) (s : ByteArray) (v : Value) (l : List Nat) (w : World) (hll : l.length ≤ 549755813888) (ho : OutAt w b v l) :
    Calls Try.prog 25 #[.pointer (some ⟨b, 0, none⟩), .string s] w fun e w' => e = .returned (.bool (refTextV s).2) ∧
      ∃ v' l', OutAt w' b v' l' ∧ str l' = (if (refTextV s).2 then str l ++ (refTextV s).1 else str l) ∧ l'.length ≤ l.length + (s.size + 2) ∧ Goes w v v' ∧ Off (b :: v.ownBlock.toList) w w' := by
  unfold refTextV
  by_cases hs : s.size ≤ 65535
  · rw [if_pos hs]
    refine (outText_yes b s v l w hs hll ho).mono ?_
    rintro e w' ⟨rfl, v', h1, h2, h3⟩
    refine ⟨rfl, v', _, h1, ?_, ?_, h2, h3⟩
    · simp [str_append, str_nums]
    · simp [beB_length, nums_length]
      omega
  · rw [if_neg hs]
    refine (outText_no b s w (by omega)).mono ?_
    rintro e w' ⟨rfl, rfl⟩
    exact ⟨rfl, v, l, ho, rfl, by omega, Goes.refl _ _, Off.refl _ _⟩
end Go.Proofs.Ytpofjeenednjcaa.Pk
