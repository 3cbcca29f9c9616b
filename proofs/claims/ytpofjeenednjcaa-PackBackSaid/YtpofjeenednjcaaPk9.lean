/- A deed, as it is written and read back. -/
import Derived.Test.YtpofjeenednjcaaProg
import Derived.Below
import Derived.WalkKit
import Derived.KernelRfl
import Derived.RowKit3
import Derived.Deep.LoopGhost
import Derived.Deep.QuietTactic
import Derived.BigQuiet
import Derived.WideLaws
import Derived.Deep.DeepCutAuto
import Derived.Deep.CutBlock
import Derived.Lib.Hide
import Derived.Laws.BitsLemmas
import Derived.Laws.Bits64
import Derived.Laws.BitsAllLaws
import Derived.IntWalk
import Derived.Outline
import Derived.WalkSpells
import Derived.Test.YtpofjeenednjcaaMem
import Derived.Test.YtpofjeenednjcaaPk8
import Derived.Test.YtpofjeenednjcaaMem2
import Derived.Test.YtpofjeenednjcaaOpenAct
namespace Go.Proofs.Ytpofjeenednjcaa.Pk
open Go.RowKit Go.Proofs.Ytpofjeenednjcaa.Mem

/-- one number's bytes, and whether it is written -/
def encN (wd n : Int) : List Nat × Bool := if wide wd && fitsV wd n then (beB wd.toNat n.toNat, true) else ([], false)
def encT (s : ByteArray) : List Nat × Bool := if s.size ≤ 65535 then (beB 2 s.size ++ nums s, true) else ([], false)
theorem encN_len (wd n : Int) : (encN wd n).1.length ≤ 8 := by
  unfold encN
  split
  · rename_i h
    have := wide_cases (by simp at h; exact h.1)
    show (beB _ _).length ≤ 8
    rw [beB_length]
    omega
  · simp
theorem encT_len (s : ByteArray) : (encT s).1.length ≤ s.size + 2 := by
  unfold encT
  split
  · simp [beB_length, nums_length]
    omega
  · simp
theorem encN_lt (wd n : Int) : ∀ c ∈ (encN wd n).1, c < 256 := by
  unfold encN
  split
  · exact beB_lt _ _
  · simp
theorem encT_lt (s : ByteArray) : ∀ c ∈ (encT s).1, c < 256 := by
  unfold encT
  split
  · intro c hc
    rcases List.mem_append.1 hc with h | h
    · exact beB_lt _ _ c h
    · exact nums_lt s c h
  · simp
theorem outNum_enc (b : Nat) (wd n : Int) (g : Nat) (v : Value) (l : List Nat) (w : World) (hll : l.length ≤ 1099511627776) (ho : OutAt w b v l) (hg : Blk w g #[.int .i64 n] 3) (hgf : g ∉ foot b v) :
    Calls Try.prog 23 #[.pointer (some ⟨b, 0, none⟩), .int .i64 wd, .slice (some ⟨g, 0, none⟩) 1 1] w fun e w' => e = .returned (.bool (encN wd n).2) ∧ ∃ v', OutAt w' b v' (l ++ (encN wd n).1) ∧ Goes w v v' ∧ Off (foot b v) w w' := by
  have hgb : g ≠ b := fun e => hgf (by simp [foot, e])
  have hgv : some g ≠ v.ownBlock := fun e => hgf (by simp [foot, ← e])
  have hr : ∀ (i : Nat) (h : i < [n].length), w.cell? ((⟨g, 0, none⟩ : Addr).add i) = some (.int .i64 [n][i]) := fun i hi => by
    obtain rfl : i = 0 := by simpa using hi
    exact hg.cell 0 _ rfl
  unfold encN
  by_cases hw : wide wd = true
  · cases hf : fitsV wd n
    · rw [if_neg (by simp)]
      refine (outNum_no b wd ⟨g, 0, none⟩ [n] 1 w hw (by simp) hr (by simp [hf])).mono ?_
      rintro e w' ⟨rfl, rfl⟩
      exact ⟨rfl, v, by simpa using ho, Goes.refl _ _, Off.refl _ _⟩
    · rw [if_pos (by simp [hw])]
      obtain ⟨a, rfl⟩ : ∃ a : Nat, wd = (a : Int) := ⟨wd.toNat, by have := wide_cases hw; omega⟩
      exact outNum_one b a n g v l w hw hll hf ho hg hgb hgv
  · rw [if_neg (by simp [hw])]
    refine (outNum_bad b wd _ w (by simpa using hw)).mono ?_
    rintro e w' ⟨rfl, rfl⟩
    exact ⟨rfl, v, by simpa using ho, Goes.refl _ _, Off.refl _ _⟩
theorem outText_enc (b : Nat) (s : ByteArray) (v : Value) (l : List Nat) (w : World) (hll : l.length ≤ 549755813888) (ho : OutAt w b v l) :
    Calls Try.prog 25 #[.pointer (some ⟨b, 0, none⟩), .string s] w fun e w' => e = .returned (.bool (encT s).2) ∧ ∃ v', OutAt w' b v' (l ++ (encT s).1) ∧ Goes w v v' ∧ Off (foot b v) w w' := by
  unfold encT
  by_cases hs : s.size ≤ 65535
  · rw [if_pos hs]
    have h := outText_yes b s v l w hs hll ho
    simpa [foot] using h
  · rw [if_neg hs]
    refine (outText_no b s w (by omega)).mono ?_
    rintro e w' ⟨rfl, rfl⟩
    exact ⟨rfl, v, by simpa using ho, Goes.refl _ _, Off.refl _ _⟩
/-- read back -/
theorem back_num (wd n : Int) (r : List Nat) (hr : ∀ c ∈ r, c < 256) (hn : n < 9223372036854775808) (h : (encN wd n).2 = true) : inNumV (str ((encN wd n).1 ++ r)) false wd = (n.toNat, str r, false) ∧ 0 ≤ n := by
  unfold encN at h ⊢
  split at h
  · rename_i hc
    rw [if_pos hc]
    simp only [Bool.and_eq_true] at hc
    obtain ⟨a, rfl⟩ : ∃ a : Nat, wd = (a : Int) := ⟨wd.toNat, by have := wide_cases hc.1; omega⟩
    have h0 : 0 ≤ n := by have := hc.2; unfold fitsV at this; simp at this; exact this.1.2
    obtain ⟨m, rfl⟩ := Int.eq_ofNat_of_zero_le h0
    exact ⟨inNum_back a m r hr hc.1 hc.2 (by omega), h0⟩
  · simp at h
theorem back_text (s : ByteArray) (r : List Nat) (hr : ∀ c ∈ r, c < 256) (most : Int) (hm : (s.size : Int) ≤ most) (h : (encT s).2 = true) : inTextV (str ((encT s).1 ++ r)) false most = (s, str r, false) := by
  unfold encT at h ⊢
  split at h
  · rename_i hc
    rw [if_pos hc]
    exact inText_back s r hr most hc hm
  · simp at h
end Go.Proofs.Ytpofjeenednjcaa.Pk
