/- The statements of layer 2 are awake; the rows of deeds that they are handed. -/
import Derived.Test.YtpofjeenednjcaaProg
import Derived.Below
import Derived.WalkKit
import Derived.KernelRfl
import Derived.RowKit3
import Derived.Deep.LoopGhost
import Derived.Deep.QuietTactic
import Derived.BigQuiet
import Derived.WideLaws
import Derived.Deep.DeepCutAuto
import Derived.Deep.CutBlock
import Derived.Lib.Hide
import Derived.Laws.BitsLemmas
import Derived.Laws.Bits64
import Derived.Laws.BitsAllLaws
import Derived.IntWalk
import Derived.Outline
import Derived.WalkSpells
import Derived.Test.YtpofjeenednjcaaMem
import Derived.Test.YtpofjeenednjcaaPk6
namespace Go.Proofs.Ytpofjeenednjcaa.Pk
open Go.RowKit Go.Proofs.Ytpofjeenednjcaa.Mem

/-- a deed -/
structure ActV where
  kind : Int
  wd : Int
  n : Int
  m : Int
  s : ByteArray
def actCells (a : ActV) : List Value := [.int .i64 a.kind, .int .i64 a.wd, .int .i64 a.n, .int .i64 a.m, .string a.s]
theorem str_nil : str [] = ⟨#[]⟩ := rfl
abbrev t6 : ByteArray := ⟨#[1, 2, 0, 2, 97, 98]⟩
abbrev ab : ByteArray := ⟨#[97, 98]⟩
theorem num258 : inNumV (str [1, 2, 0, 2, 97, 98]) false 2 = (258, ⟨#[0, 2, 97, 98]⟩, false) := by
  unfold inNumV
  rw [if_pos (by refine ⟨rfl, rfl, by decide, ?_⟩; decide +kernel)]
  rfl
theorem textab : inTextV ⟨#[0, 2, 97, 98]⟩ false 2 = (⟨#[97, 98]⟩, ⟨#[]⟩, false) := by
  unfold inTextV
  have h2 : be ⟨#[0, 2, 97, 98]⟩ 2 = 2 := by decide +kernel
  rw [h2, if_pos (by refine ⟨rfl, by decide, ?_, ?_⟩ <;> decide +kernel)]
  exact Prod.ext (by decide +kernel) (Prod.ext (by decide +kernel) rfl)
set_option maxHeartbeats 800000 in
theorem awake (w : World) : Calls Try.prog 21 #[] w fun e w' => e = .returned (.bool true) ∧ Off [] w w' := by
  have ho0 := OutAt.newOut (w := w)
  have ho1 := ho0.off (w' := (w.alloc (.cells #[.slice none 0 0] 42)).alloc (.cells #[.int .i64 258] 3)) ((Off.refl [] _).alloc _) (by simp) (by simp)
  have hn1 := blk_new (w.alloc (.cells #[.slice none 0 0] 42)) #[.int .i64 258] 3
  have HN := Lib.hid (outNum_one w.heap.size 2 258 (w.heap.size + 1) (.slice none 0 0) [] _ rfl (by simp) rfl ho1 (by simpa using hn1) (by omega) (by simp [Value.ownBlock]))
  clear ho0 ho1 hn1
  go_enter Try.func21, Try.ntmps21
  go_wp2_with (go_at_call 23; refine HN.out.mono ?_; rintro e w1 ⟨rfl, v1, ho1, hg1, hf1⟩)
  have ho1' : OutAt w1 w.heap.size v1 [1, 2] := ho1
  have hs1 : w.heap.size + 2 ≤ w1.heap.size := by have := hf1.size; simp at this; omega
  have hl1 : ∀ k, v1.ownBlock = some k → k < w1.heap.size := ho1.lt
  refine (outText_yes _ ab v1 [1, 2] _ (by decide) (by simp) ho1').mono ?_
  rintro e w2 ⟨rfl, v2, ho2, hg2, hf2⟩
  have ho2' : OutAt w2 w.heap.size v2 [1, 2, 0, 2, 97, 98] := ho2
  go_wp2_with fail
  refine (outString _ v2 _ _ ho2').mono ?_
  rintro e w2' ⟨rfl, rfl⟩
  go_wp2_with fail
  refine (inOf _ _).mono ?_
  rintro e w3 ⟨b, rfl, hb, hi3, hf3⟩
  have hbw : w.heap.size ≠ b := by have := hf2.size; have := hs1; omega
  have ho3 : OutAt w3 w.heap.size v2 [1, 2, 0, 2, 97, 98] := ho2'.off hf3 (by simp) (by simp)
  go_wp2_with fail
  have hk3 := inNum b _ false _ 2 hi3
  rw [num258] at hk3
  refine hk3.mono ?_
  clear hk3
  rintro e w4 ⟨rfl, hi4, hf4⟩
  have ho4 : OutAt w4 w.heap.size v2 [1, 2, 0, 2, 97, 98] := ho3.off hf4 (by simpa using hbw) (by intro k hk; have := ho2'.lt k hk; simp; omega)
  go_wp2_with fail
  have hk4 := inText b _ false _ 2 hi4 (by decide)
  rw [textab] at hk4
  refine hk4.mono ?_
  clear hk4
  rintro e w5 ⟨rfl, hi5, hf5⟩
  have ho5 : OutAt w5 w.heap.size v2 [1, 2, 0, 2, 97, 98] := ho4.off hf5 (by simpa using hbw) (by intro k hk; have := ho2'.lt k hk; simp; omega)
  go_wp2_with fail
  have hk5 := outString _ v2 _ _ ho5
  rw [show str [1, 2, 0, 2, 97, 98] = t6 from rfl] at hk5
  refine hk5.mono ?_
  clear hk5
  rintro e w5' ⟨rfl, rfl⟩
  go_wp2_with fail
  refine (inEnd b _ _ _ hi5).mono ?_
  rintro e w5' ⟨rfl, rfl⟩
  go_wp2_with fail
  refine (outNum_bad _ _ _ _ rfl).mono ?_
  rintro e w5' ⟨rfl, rfl⟩
  go_wp2_with fail
  refine (outLen _ v2 _ _ (ho5.off ((Off.refl [] _).alloc _) (by simp) (by simp))).mono ?_
  rintro e w5' ⟨rfl, rfl⟩
  go_wp2
  go_ret
  have hv1 := hg1.above (B := w.heap.size) (by simp [Value.ownBlock]) (by simp; omega)
  have q1 := (((Off.refl [] w).alloc _).alloc _).fresh hf1 (by simp [Value.ownBlock])
  have q2 := q1.fresh hf2 (by intro i hi; simp at hi; rcases hi with rfl | hi; exact Nat.le_refl _; exact hv1 i hi)
  have q3 := q2.fresh hf3 (by simp)
  have hb2 : w.heap.size ≤ b := by have := hf2.size; omega
  have q4 := q3.fresh hf4 (by simpa using hb2)
  have q5 := q4.fresh hf5 (by simpa using hb2)
  exact ⟨rfl, q5.alloc _⟩
end Go.Proofs.Ytpofjeenednjcaa.Pk
