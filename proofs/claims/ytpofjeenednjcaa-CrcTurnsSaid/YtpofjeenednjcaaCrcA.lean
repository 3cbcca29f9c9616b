/- The statements of layer 1 are awake: what is fixed by number. -/
import Derived.Test.YtpofjeenednjcaaProg
import Derived.Below
import Derived.WalkKit
import Derived.KernelRfl
import Derived.RowKit3
import Derived.Deep.LoopGhost
import Derived.Deep.QuietTactic
import Derived.BigQuiet
import Derived.WideLaws
import Derived.Deep.DeepCutAuto
import Derived.Deep.CutBlock
import Derived.Lib.Hide
import Derived.Laws.BitsLemmas
import Derived.Laws.Bits64
import Derived.Laws.BitsAllLaws
import Derived.IntWalk
import Derived.Outline
import Derived.WalkSpells
import Derived.Test.YtpofjeenednjcaaMem
import Derived.Test.YtpofjeenednjcaaCrcG
namespace Go.Proofs.Ytpofjeenednjcaa.CrcF
open Go.RowKit Go.Proofs.Ytpofjeenednjcaa Go.Proofs.Ytpofjeenednjcaa.Mem

abbrev s9 : ByteArray := ⟨#[49, 50, 51, 52, 53, 54, 55, 56, 57]⟩
abbrev s4 : ByteArray := ⟨#[49, 50, 51, 52]⟩
abbrev s5 : ByteArray := ⟨#[53, 54, 55, 56, 57]⟩
theorem join45 (w : World) : Calls Try.prog 20 #[.int .u32 ((Crc.crc (nums s4) : Nat) : Int), .int .u32 ((Crc.crc (nums s5) : Nat) : Int), .int .i64 5] w fun e w' => e = .returned (.int .u32 3421780262) ∧ w = w' := by
  have h := join (nums s4) (nums s5) (nums_lt _) (nums_lt _) (by decide) w
  rw [show Crc.crc (nums s4 ++ nums s5) = 3421780262 by decide +kernel, show (nums s5).length = 5 by decide] at h
  exact h
theorem more45 (w : World) : Calls Try.prog 18 #[.int .u32 ((Crc.crc (nums s4) : Nat) : Int), .string s5] w fun e w' => e = .returned (.int .u32 3421780262) ∧ w = w' := by
  have h := more (Crc.crc (nums s4)) s5 (by decide +kernel) (by decide) w
  rw [Crc.more_crc, show Crc.crc (nums s4 ++ nums s5) = 3421780262 by decide +kernel] at h
  exact h
theorem of9 (n : Nat) (w : World) (hn : n = w.heap.size) : Calls Try.prog 16 #[.slice (some ⟨n, 0, none⟩) 1 1] (w.alloc (.cells #[.string s9] 9)) fun e w' => e = .returned (.int .u32 3421780262) ∧ w.alloc (.cells #[.string s9] 9) = w' := by
  have h := of_new1 s9 (by decide) n w hn
  rw [show Crc.crc (nums s9) = 3421780262 by decide +kernel] at h
  exact h
theorem is0 (w : World) : Calls Try.prog 19 #[.string ⟨#[]⟩, .int .u32 0] w fun e w' => e = .returned (.bool true) ∧ Off [] w w' := by
  have h := is_any ⟨#[]⟩ 0 (by decide) w
  rw [show (((Crc.crc (nums ⟨#[]⟩) : Nat) : Int) == 0) = true by decide +kernel] at h
  exact h
theorem awake (w : World) : Calls Try.prog 15 #[] w fun e w' => e = .returned (.bool true) ∧ Off [] w w' := by
  go_enter Try.func15, Try.ntmps15
  go_wp2_with (first
    | (go_at_call 16; first | ((with_reducible refine (of9 _ _ (by simp)).mono ?_); rintro e w' ⟨rfl, rfl⟩) | ((with_reducible refine (of_nil _ _).mono ?_); rintro e w' ⟨rfl, rfl⟩) | ((with_reducible refine (of_new1 _ (by decide) _ _ (by simp)).mono ?_); rintro e w' ⟨rfl, rfl⟩))
    | (go_at_call 18; refine (more45 _).mono ?_; rintro e w' ⟨rfl, rfl⟩)
    | (go_at_call 20; refine (join45 _).mono ?_; rintro e w' ⟨rfl, rfl⟩)
    | (go_at_call 19; refine (is0 _).mono ?_; rintro e w' ⟨rfl, ho⟩))
  go_ret
  exact ⟨rfl, ((((((Off.refl _ _).alloc _).alloc _).trans ho (by simp)).alloc _).alloc _)⟩
end Go.Proofs.Ytpofjeenednjcaa.CrcF
