/- Whether a building can be: the walk. -/
import Derived.Test.YtnanihffljpdbaaProg
import Derived.Below
import Derived.WalkKit
import Derived.KernelRfl
import Derived.RowKit3
import Derived.Deep.LoopGhost
import Derived.Deep.QuietTactic
import Derived.BigQuiet
import Derived.WideLaws
import Derived.Deep.DeepCutAuto
import Derived.Deep.CutBlock
import Derived.Lib.Hide
import Derived.Laws.BitsLemmas
import Derived.Laws.Bits64
import Derived.Laws.BitsAllLaws
import Derived.IntWalk
import Derived.Outline
import Derived.WalkSpells
import Derived.Test.YtnanihffljpdbaaGA
import Derived.Test.YtnanihffljpdbaaSite0
namespace Go.Proofs.Ytnanihffljpdbaa.Si
set_option linter.unusedVariables false
set_option linter.unusedSimpArgs false
open Go.RowKit Go.Proofs.Ytnanihffljpdbaa.Mem

set_option maxRecDepth 20000 in
set_option maxHeartbeats 6400000 in
theorem check (c : Cfg) (w : World) : Calls Try.prog 41 #[c.val] w fun e w' => e = .returned (.int .i64 (checkV c)) ∧ Off [] w w' := by
  have hB0 := blk_new w c.cells 24
  have hT0 := blk_new (w.alloc (.cells c.cells 24)) tbl 121
  have hof0 : Off [] w ((w.alloc (.cells c.cells 24)).alloc (.cells tbl 121)) := ((Off.refl _ _).alloc _).alloc _
  have hB1 := hB0.alloc (.cells tbl 121)
  have H0 := Lib.hid (And.intro hB1 (And.intro hT0 hof0))
  have hk := numbers (w.alloc (.cells c.cells 24))
  have hsz : (w.alloc (.cells c.cells 24)).heap.size = w.heap.size + 1 := by simp
  rw [hsz] at hk H0
  have HK := Lib.hid hk
  clear hB0 hT0 hof0 hB1 hk hsz
  go_enter Try.func41, Try.ntmps41
  go_wp2_with (go_at_call 65; refine HK.out.mono ?_; rintro e w1 ⟨rfl, rfl⟩)
  generalize (w.alloc (.cells c.cells 24)).alloc (.cells tbl 121) = wz at *
  clear HK
  go_loopw [8] (fun vi wr => ∃ k : Nat, k ≤ 17 ∧ vi = .int .i64 k ∧ Hid (okTo c k) ∧ Blk wr w.heap.size c.cells 24 ∧ Blk wr (w.heap.size + 1) tbl 121 ∧ Off [] w wr) (fun vi _ => 17 - (intOf vi).toNat)
  case atStart => exact ⟨0, Nat.zero_le _, rfl, Lib.hid trivial, H0.out.1, H0.out.2.1, H0.out.2.2⟩
  case round =>
    obtain ⟨k, hk, rfl, hok, hB, hT, hof⟩ := hrel
    clear H0
    by_cases hlt : k < 17
    · have hcs : k = 0 ∨ k = 1 ∨ k = 2 ∨ k = 3 ∨ k = 4 ∨ k = 5 ∨ k = 6 ∨ k = 7 ∨ k = 8 ∨ k = 9 ∨ k = 10 ∨ k = 11 ∨ k = 12 ∨ k = 13 ∨ k = 14 ∨ k = 15 ∨ k = 16 := by omega
      rcases hcs with rfl | rfl | rfl | rfl | rfl | rfl | rfl | rfl | rfl | rfl | rfl | rfl | rfl | rfl | rfl | rfl | rfl
      · have t0 := hT.cell 0 (.string ⟨#[102, 108, 111, 111, 114, 115]⟩) rfl
        have t1 := hT.cell 1 (.func (.func 83) #[] #[]) rfl
        have t2 := hT.cell 2 (.int .i64 2) rfl
        have t3 := hT.cell 3 (.int .i64 32) rfl
        have tc := (hB.alloc (.cells #[.string ⟨#[102, 108, 111, 111, 114, 115]⟩, .func (.func 83) #[] #[], .int .i64 2, .int .i64 32] 121)).cell 0 (.int .i64 c.floors) rfl
        have H1 := Lib.hid (And.intro (hB.alloc (.cells #[.string ⟨#[102, 108, 111, 111, 114, 115]⟩, .func (.func 83) #[] #[], .int .i64 2, .int .i64 32] 121)) (And.intro (hT.alloc (.cells #[.string ⟨#[102, 108, 111, 111, 114, 115]⟩, .func (.func 83) #[] #[], .int .i64 2, .int .i64 32] 121)) (hof.alloc (.cells #[.string ⟨#[102, 108, 111, 111, 114, 115]⟩, .func (.func 83) #[] #[], .int .i64 2, .int .i64 32] 121))))
        have hno := Lib.hid (fun h => cfg_bad0 c h)
        clear hB hT hof
        go_wp2_with fail
        refine (num0 _ _).mono ?_
        rintro e w' ⟨rfl, rfl⟩
        clear t0 t1 t2 t3
        by_cases h1 : c.floors < 2
        · have d1 : decide (c.floors < 2) = true := decide_eq_true h1
          have hbad := Lib.hid (hno.out (.inl h1))
          go_wp2
          go_ret
          exact ⟨ret_v (checkV_bad hbad.out), H1.out.2.2⟩
        · have d1 : decide (c.floors < 2) = false := decide_eq_false h1
          by_cases h2 : 32 < c.floors
          · have d2 : decide (32 < c.floors) = true := decide_eq_true h2
            have hbad := Lib.hid (hno.out (.inr h2))
            go_wp2
            go_ret
            exact ⟨ret_v (checkV_bad hbad.out), H1.out.2.2⟩
          · have d2 : decide (32 < c.floors) = false := decide_eq_false h2
            have hok2 := Lib.hid (show okTo c 1 from ⟨hok.out, by omega, by omega⟩)
            go_wp2
            go_roundw
            case rel => exact ⟨1, by omega, rfl, hok2, H1.out.1, H1.out.2.1, H1.out.2.2⟩
            case measure => simp [intOf]
      · have t0 := hT.cell 4 (.string ⟨#[99, 97, 114, 115]⟩) rfl
        have t1 := hT.cell 5 (.func (.func 84) #[] #[]) rfl
        have t2 := hT.cell 6 (.int .i64 1) rfl
        have t3 := hT.cell 7 (.int .i64 4) rfl
        have tc := (hB.alloc (.cells #[.string ⟨#[99, 97, 114, 115]⟩, .func (.func 84) #[] #[], .int .i64 1, .int .i64 4] 121)).cell 1 (.int .i64 c.cars) rfl
        have H1 := Lib.hid (And.intro (hB.alloc (.cells #[.string ⟨#[99, 97, 114, 115]⟩, .func (.func 84) #[] #[], .int .i64 1, .int .i64 4] 121)) (And.intro (hT.alloc (.cells #[.string ⟨#[99, 97, 114, 115]⟩, .func (.func 84) #[] #[], .int .i64 1, .int .i64 4] 121)) (hof.alloc (.cells #[.string ⟨#[99, 97, 114, 115]⟩, .func (.func 84) #[] #[], .int .i64 1, .int .i64 4] 121))))
        have hno := Lib.hid (fun h => cfg_bad1 c h)
        clear hB hT hof
        go_wp2_with fail
        refine (num1 _ _).mono ?_
        rintro e w' ⟨rfl, rfl⟩
        clear t0 t1 t2 t3
        by_cases h1 : c.cars < 1
        · have d1 : decide (c.cars < 1) = true := decide_eq_true h1
          have hbad := Lib.hid (hno.out (.inl h1))
          go_wp2
          go_ret
          exact ⟨ret_v (checkV_bad hbad.out), H1.out.2.2⟩
        · have d1 : decide (c.cars < 1) = false := decide_eq_false h1
          by_cases h2 : 4 < c.cars
          · have d2 : decide (4 < c.cars) = true := decide_eq_true h2
            have hbad := Lib.hid (hno.out (.inr h2))
            go_wp2
            go_ret
            exact ⟨ret_v (checkV_bad hbad.out), H1.out.2.2⟩
          · have d2 : decide (4 < c.cars) = false := decide_eq_false h2
            have hok2 := Lib.hid (show okTo c 2 from ⟨hok.out, by omega, by omega⟩)
            go_wp2
            go_roundw
            case rel => exact ⟨2, by omega, rfl, hok2, H1.out.1, H1.out.2.1, H1.out.2.2⟩
            case measure => simp [intOf]
      · have t0 := hT.cell 8 (.string ⟨#[115, 101, 97, 116, 115]⟩) rfl
        have t1 := hT.cell 9 (.func (.func 85) #[] #[]) rfl
        have t2 := hT.cell 10 (.int .i64 1) rfl
        have t3 := hT.cell 11 (.int .i64 8) rfl
        have tc := (hB.alloc (.cells #[.string ⟨#[115, 101, 97, 116, 115]⟩, .func (.func 85) #[] #[], .int .i64 1, .int .i64 8] 121)).cell 2 (.int .i64 c.seats) rfl
        have H1 := Lib.hid (And.intro (hB.alloc (.cells #[.string ⟨#[115, 101, 97, 116, 115]⟩, .func (.func 85) #[] #[], .int .i64 1, .int .i64 8] 121)) (And.intro (hT.alloc (.cells #[.string ⟨#[115, 101, 97, 116, 115]⟩, .func (.func 85) #[] #[], .int .i64 1, .int .i64 8] 121)) (hof.alloc (.cells #[.string ⟨#[115, 101, 97, 116, 115]⟩, .func (.func 85) #[] #[], .int .i64 1, .int .i64 8] 121))))
        have hno := Lib.hid (fun h => cfg_bad2 c h)
        clear hB hT hof
        go_wp2_with fail
        refine (num2 _ _).mono ?_
        rintro e w' ⟨rfl, rfl⟩
        clear t0 t1 t2 t3
        by_cases h1 : c.seats < 1
        · have d1 : decide (c.seats < 1) = true := decide_eq_true h1
          have hbad := Lib.hid (hno.out (.inl h1))
          go_wp2
          go_ret
          exact ⟨ret_v (checkV_bad hbad.out), H1.out.2.2⟩
        · have d1 : decide (c.seats < 1) = false := decide_eq_false h1
          by_cases h2 : 8 < c.seats
          · have d2 : decide (8 < c.seats) = true := decide_eq_true h2
            have hbad := Lib.hid (hno.out (.inr h2))
            go_wp2
            go_ret
            exact ⟨ret_v (checkV_bad hbad.out), H1.out.2.2⟩
          · have d2 : decide (8 < c.seats) = false := decide_eq_false h2
            have hok2 := Lib.hid (show okTo c 3 from ⟨hok.out, by omega, by omega⟩)
            go_wp2
            go_roundw
            case rel => exact ⟨3, by omega, rfl, hok2, H1.out.1, H1.out.2.1, H1.out.2.2⟩
            case measure => simp [intOf]
      · have t0 := hT.cell 12 (.string ⟨#[99, 97, 108, 108, 115]⟩) rfl
        have t1 := hT.cell 13 (.func (.func 86) #[] #[]) rfl
        have t2 := hT.cell 14 (.int .i64 1) rfl
        have t3 := hT.cell 15 (.int .i64 64) rfl
        have tc := (hB.alloc (.cells #[.string ⟨#[99, 97, 108, 108, 115]⟩, .func (.func 86) #[] #[], .int .i64 1, .int .i64 64] 121)).cell 3 (.int .i64 c.calls) rfl
        have H1 := Lib.hid (And.intro (hB.alloc (.cells #[.string ⟨#[99, 97, 108, 108, 115]⟩, .func (.func 86) #[] #[], .int .i64 1, .int .i64 64] 121)) (And.intro (hT.alloc (.cells #[.string ⟨#[99, 97, 108, 108, 115]⟩, .func (.func 86) #[] #[], .int .i64 1, .int .i64 64] 121)) (hof.alloc (.cells #[.string ⟨#[99, 97, 108, 108, 115]⟩, .func (.func 86) #[] #[], .int .i64 1, .int .i64 64] 121))))
        have hno := Lib.hid (fun h => cfg_bad3 c h)
        clear hB hT hof
        go_wp2_with fail
        refine (num3 _ _).mono ?_
        rintro e w' ⟨rfl, rfl⟩
        clear t0 t1 t2 t3
        by_cases h1 : c.calls < 1
        · have d1 : decide (c.calls < 1) = true := decide_eq_true h1
          have hbad := Lib.hid (hno.out (.inl h1))
          go_wp2
          go_ret
          exact ⟨ret_v (checkV_bad hbad.out), H1.out.2.2⟩
        · have d1 : decide (c.calls < 1) = false := decide_eq_false h1
          by_cases h2 : 64 < c.calls
          · have d2 : decide (64 < c.calls) = true := decide_eq_true h2
            have hbad := Lib.hid (hno.out (.inr h2))
            go_wp2
            go_ret
            exact ⟨ret_v (checkV_bad hbad.out), H1.out.2.2⟩
          · have d2 : decide (64 < c.calls) = false := decide_eq_false h2
            have hok2 := Lib.hid (show okTo c 4 from ⟨hok.out, by omega, by omega⟩)
            go_wp2
            go_roundw
            case rel => exact ⟨4, by omega, rfl, hok2, H1.out.1, H1.out.2.1, H1.out.2.2⟩
            case measure => simp [intOf]
      · have t0 := hT.cell 16 (.string ⟨#[108, 105, 110, 101, 115]⟩) rfl
        have t1 := hT.cell 17 (.func (.func 87) #[] #[]) rfl
        have t2 := hT.cell 18 (.int .i64 1) rfl
        have t3 := hT.cell 19 (.int .i64 8) rfl
        have tc := (hB.alloc (.cells #[.string ⟨#[108, 105, 110, 101, 115]⟩, .func (.func 87) #[] #[], .int .i64 1, .int .i64 8] 121)).cell 4 (.int .i64 c.lines) rfl
        have H1 := Lib.hid (And.intro (hB.alloc (.cells #[.string ⟨#[108, 105, 110, 101, 115]⟩, .func (.func 87) #[] #[], .int .i64 1, .int .i64 8] 121)) (And.intro (hT.alloc (.cells #[.string ⟨#[108, 105, 110, 101, 115]⟩, .func (.func 87) #[] #[], .int .i64 1, .int .i64 8] 121)) (hof.alloc (.cells #[.string ⟨#[108, 105, 110, 101, 115]⟩, .func (.func 87) #[] #[], .int .i64 1, .int .i64 8] 121))))
        have hno := Lib.hid (fun h => cfg_bad4 c h)
        clear hB hT hof
        go_wp2_with fail
        refine (num4 _ _).mono ?_
        rintro e w' ⟨rfl, rfl⟩
        clear t0 t1 t2 t3
        by_cases h1 : c.lines < 1
        · have d1 : decide (c.lines < 1) = true := decide_eq_true h1
          have hbad := Lib.hid (hno.out (.inl h1))
          go_wp2
          go_ret
          exact ⟨ret_v (checkV_bad hbad.out), H1.out.2.2⟩
        · have d1 : decide (c.lines < 1) = false := decide_eq_false h1
          by_cases h2 : 8 < c.lines
          · have d2 : decide (8 < c.lines) = true := decide_eq_true h2
            have hbad := Lib.hid (hno.out (.inr h2))
            go_wp2
            go_ret
            exact ⟨ret_v (checkV_bad hbad.out), H1.out.2.2⟩
          · have d2 : decide (8 < c.lines) = false := decide_eq_false h2
            have hok2 := Lib.hid (show okTo c 5 from ⟨hok.out, by omega, by omega⟩)
            go_wp2
            go_roundw
            case rel => exact ⟨5, by omega, rfl, hok2, H1.out.1, H1.out.2.1, H1.out.2.2⟩
            case measure => simp [intOf]
      · have t0 := hT.cell 20 (.string ⟨#[107, 101, 121, 115]⟩) rfl
        have t1 := hT.cell 21 (.func (.func 88) #[] #[]) rfl
        have t2 := hT.cell 22 (.int .i64 1) rfl
        have t3 := hT.cell 23 (.int .i64 64) rfl
        have tc := (hB.alloc (.cells #[.string ⟨#[107, 101, 121, 115]⟩, .func (.func 88) #[] #[], .int .i64 1, .int .i64 64] 121)).cell 5 (.int .i64 c.keys) rfl
        have H1 := Lib.hid (And.intro (hB.alloc (.cells #[.string ⟨#[107, 101, 121, 115]⟩, .func (.func 88) #[] #[], .int .i64 1, .int .i64 64] 121)) (And.intro (hT.alloc (.cells #[.string ⟨#[107, 101, 121, 115]⟩, .func (.func 88) #[] #[], .int .i64 1, .int .i64 64] 121)) (hof.alloc (.cells #[.string ⟨#[107, 101, 121, 115]⟩, .func (.func 88) #[] #[], .int .i64 1, .int .i64 64] 121))))
        have hno := Lib.hid (fun h => cfg_bad5 c h)
        clear hB hT hof
        go_wp2_with fail
        refine (num5 _ _).mono ?_
        rintro e w' ⟨rfl, rfl⟩
        clear t0 t1 t2 t3
        by_cases h1 : c.keys < 1
        · have d1 : decide (c.keys < 1) = true := decide_eq_true h1
          have hbad := Lib.hid (hno.out (.inl h1))
          go_wp2
          go_ret
          exact ⟨ret_v (checkV_bad hbad.out), H1.out.2.2⟩
        · have d1 : decide (c.keys < 1) = false := decide_eq_false h1
          by_cases h2 : 64 < c.keys
          · have d2 : decide (64 < c.keys) = true := decide_eq_true h2
            have hbad := Lib.hid (hno.out (.inr h2))
            go_wp2
            go_ret
            exact ⟨ret_v (checkV_bad hbad.out), H1.out.2.2⟩
          · have d2 : decide (64 < c.keys) = false := decide_eq_false h2
            have hok2 := Lib.hid (show okTo c 6 from ⟨hok.out, by omega, by omega⟩)
            go_wp2
            go_roundw
            case rel => exact ⟨6, by omega, rfl, hok2, H1.out.1, H1.out.2.1, H1.out.2.2⟩
            case measure => simp [intOf]
      · have t0 := hT.cell 24 (.string ⟨#[119, 105, 110, 100, 111, 119]⟩) rfl
        have t1 := hT.cell 25 (.func (.func 89) #[] #[]) rfl
        have t2 := hT.cell 26 (.int .i64 1) rfl
        have t3 := hT.cell 27 (.int .i64 65536) rfl
        have tc := (hB.alloc (.cells #[.string ⟨#[119, 105, 110, 100, 111, 119]⟩, .func (.func 89) #[] #[], .int .i64 1, .int .i64 65536] 121)).cell 6 (.int .i64 c.window) rfl
        have H1 := Lib.hid (And.intro (hB.alloc (.cells #[.string ⟨#[119, 105, 110, 100, 111, 119]⟩, .func (.func 89) #[] #[], .int .i64 1, .int .i64 65536] 121)) (And.intro (hT.alloc (.cells #[.string ⟨#[119, 105, 110, 100, 111, 119]⟩, .func (.func 89) #[] #[], .int .i64 1, .int .i64 65536] 121)) (hof.alloc (.cells #[.string ⟨#[119, 105, 110, 100, 111, 119]⟩, .func (.func 89) #[] #[], .int .i64 1, .int .i64 65536] 121))))
        have hno := Lib.hid (fun h => cfg_bad6 c h)
        clear hB hT hof
        go_wp2_with fail
        refine (num6 _ _).mono ?_
        rintro e w' ⟨rfl, rfl⟩
        clear t0 t1 t2 t3
        by_cases h1 : c.window < 1
        · have d1 : decide (c.window < 1) = true := decide_eq_true h1
          have hbad := Lib.hid (hno.out (.inl h1))
          go_wp2
          go_ret
          exact ⟨ret_v (checkV_bad hbad.out), H1.out.2.2⟩
        · have d1 : decide (c.window < 1) = false := decide_eq_false h1
          by_cases h2 : 65536 < c.window
          · have d2 : decide (65536 < c.window) = true := decide_eq_true h2
            have hbad := Lib.hid (hno.out (.inr h2))
            go_wp2
            go_ret
            exact ⟨ret_v (checkV_bad hbad.out), H1.out.2.2⟩
          · have d2 : decide (65536 < c.window) = false := decide_eq_false h2
            have hok2 := Lib.hid (show okTo c 7 from ⟨hok.out, by omega, by omega⟩)
            go_wp2
            go_roundw
            case rel => exact ⟨7, by omega, rfl, hok2, H1.out.1, H1.out.2.1, H1.out.2.2⟩
            case measure => simp [intOf]
      · have t0 := hT.cell 28 (.string ⟨#[98, 117, 114, 115, 116]⟩) rfl
        have t1 := hT.cell 29 (.func (.func 90) #[] #[]) rfl
        have t2 := hT.cell 30 (.int .i64 1) rfl
        have t3 := hT.cell 31 (.int .i64 1024) rfl
        have tc := (hB.alloc (.cells #[.string ⟨#[98, 117, 114, 115, 116]⟩, .func (.func 90) #[] #[], .int .i64 1, .int .i64 1024] 121)).cell 7 (.int .i64 c.burst) rfl
        have H1 := Lib.hid (And.intro (hB.alloc (.cells #[.string ⟨#[98, 117, 114, 115, 116]⟩, .func (.func 90) #[] #[], .int .i64 1, .int .i64 1024] 121)) (And.intro (hT.alloc (.cells #[.string ⟨#[98, 117, 114, 115, 116]⟩, .func (.func 90) #[] #[], .int .i64 1, .int .i64 1024] 121)) (hof.alloc (.cells #[.string ⟨#[98, 117, 114, 115, 116]⟩, .func (.func 90) #[] #[], .int .i64 1, .int .i64 1024] 121))))
        have hno := Lib.hid (fun h => cfg_bad7 c h)
        clear hB hT hof
        go_wp2_with fail
        refine (num7 _ _).mono ?_
        rintro e w' ⟨rfl, rfl⟩
        clear t0 t1 t2 t3
        by_cases h1 : c.burst < 1
        · have d1 : decide (c.burst < 1) = true := decide_eq_true h1
          have hbad := Lib.hid (hno.out (.inl h1))
          go_wp2
          go_ret
          exact ⟨ret_v (checkV_bad hbad.out), H1.out.2.2⟩
        · have d1 : decide (c.burst < 1) = false := decide_eq_false h1
          by_cases h2 : 1024 < c.burst
          · have d2 : decide (1024 < c.burst) = true := decide_eq_true h2
            have hbad := Lib.hid (hno.out (.inr h2))
            go_wp2
            go_ret
            exact ⟨ret_v (checkV_bad hbad.out), H1.out.2.2⟩
          · have d2 : decide (1024 < c.burst) = false := decide_eq_false h2
            have hok2 := Lib.hid (show okTo c 8 from ⟨hok.out, by omega, by omega⟩)
            go_wp2
            go_roundw
            case rel => exact ⟨8, by omega, rfl, hok2, H1.out.1, H1.out.2.1, H1.out.2.2⟩
            case measure => simp [intOf]
      · have t0 := hT.cell 32 (.string ⟨#[114, 97, 116, 101]⟩) rfl
        have t1 := hT.cell 33 (.func (.func 91) #[] #[]) rfl
        have t2 := hT.cell 34 (.int .i64 1) rfl
        have t3 := hT.cell 35 (.int .i64 1024) rfl
        have tc := (hB.alloc (.cells #[.string ⟨#[114, 97, 116, 101]⟩, .func (.func 91) #[] #[], .int .i64 1, .int .i64 1024] 121)).cell 8 (.int .i64 c.rate) rfl
        have H1 := Lib.hid (And.intro (hB.alloc (.cells #[.string ⟨#[114, 97, 116, 101]⟩, .func (.func 91) #[] #[], .int .i64 1, .int .i64 1024] 121)) (And.intro (hT.alloc (.cells #[.string ⟨#[114, 97, 116, 101]⟩, .func (.func 91) #[] #[], .int .i64 1, .int .i64 1024] 121)) (hof.alloc (.cells #[.string ⟨#[114, 97, 116, 101]⟩, .func (.func 91) #[] #[], .int .i64 1, .int .i64 1024] 121))))
        have hno := Lib.hid (fun h => cfg_bad8 c h)
        clear hB hT hof
        go_wp2_with fail
        refine (num8 _ _).mono ?_
        rintro e w' ⟨rfl, rfl⟩
        clear t0 t1 t2 t3
        by_cases h1 : c.rate < 1
        · have d1 : decide (c.rate < 1) = true := decide_eq_true h1
          have hbad := Lib.hid (hno.out (.inl h1))
          go_wp2
          go_ret
          exact ⟨ret_v (checkV_bad hbad.out), H1.out.2.2⟩
        · have d1 : decide (c.rate < 1) = false := decide_eq_false h1
          by_cases h2 : 1024 < c.rate
          · have d2 : decide (1024 < c.rate) = true := decide_eq_true h2
            have hbad := Lib.hid (hno.out (.inr h2))
            go_wp2
            go_ret
            exact ⟨ret_v (checkV_bad hbad.out), H1.out.2.2⟩
          · have d2 : decide (1024 < c.rate) = false := decide_eq_false h2
            have hok2 := Lib.hid (show okTo c 9 from ⟨hok.out, by omega, by omega⟩)
            go_wp2
            go_roundw
            case rel => exact ⟨9, by omega, rfl, hok2, H1.out.1, H1.out.2.1, H1.out.2.2⟩
            case measure => simp [intOf]
      · have t0 := hT.cell 36 (.string ⟨#[105, 100, 108, 101]⟩) rfl
        have t1 := hT.cell 37 (.func (.func 92) #[] #[]) rfl
        have t2 := hT.cell 38 (.int .i64 1) rfl
        have t3 := hT.cell 39 (.int .i64 65536) rfl
        have tc := (hB.alloc (.cells #[.string ⟨#[105, 100, 108, 101]⟩, .func (.func 92) #[] #[], .int .i64 1, .int .i64 65536] 121)).cell 9 (.int .i64 c.idle) rfl
        have H1 := Lib.hid (And.intro (hB.alloc (.cells #[.string ⟨#[105, 100, 108, 101]⟩, .func (.func 92) #[] #[], .int .i64 1, .int .i64 65536] 121)) (And.intro (hT.alloc (.cells #[.string ⟨#[105, 100, 108, 101]⟩, .func (.func 92) #[] #[], .int .i64 1, .int .i64 65536] 121)) (hof.alloc (.cells #[.string ⟨#[105, 100, 108, 101]⟩, .func (.func 92) #[] #[], .int .i64 1, .int .i64 65536] 121))))
        have hno := Lib.hid (fun h => cfg_bad9 c h)
        clear hB hT hof
        go_wp2_with fail
        refine (num9 _ _).mono ?_
        rintro e w' ⟨rfl, rfl⟩
        clear t0 t1 t2 t3
        by_cases h1 : c.idle < 1
        · have d1 : decide (c.idle < 1) = true := decide_eq_true h1
          have hbad := Lib.hid (hno.out (.inl h1))
          go_wp2
          go_ret
          exact ⟨ret_v (checkV_bad hbad.out), H1.out.2.2⟩
        · have d1 : decide (c.idle < 1) = false := decide_eq_false h1
          by_cases h2 : 65536 < c.idle
          · have d2 : decide (65536 < c.idle) = true := decide_eq_true h2
            have hbad := Lib.hid (hno.out (.inr h2))
            go_wp2
            go_ret
            exact ⟨ret_v (checkV_bad hbad.out), H1.out.2.2⟩
          · have d2 : decide (65536 < c.idle) = false := decide_eq_false h2
            have hok2 := Lib.hid (show okTo c 10 from ⟨hok.out, by omega, by omega⟩)
            go_wp2
            go_roundw
            case rel => exact ⟨10, by omega, rfl, hok2, H1.out.1, H1.out.2.1, H1.out.2.2⟩
            case measure => simp [intOf]
      · have t0 := hT.cell 40 (.string ⟨#[105, 110]⟩) rfl
        have t1 := hT.cell 41 (.func (.func 93) #[] #[]) rfl
        have t2 := hT.cell 42 (.int .i64 1) rfl
        have t3 := hT.cell 43 (.int .i64 16) rfl
        have tc := (hB.alloc (.cells #[.string ⟨#[105, 110]⟩, .func (.func 93) #[] #[], .int .i64 1, .int .i64 16] 121)).cell 10 (.int .i64 c.inn) rfl
        have H1 := Lib.hid (And.intro (hB.alloc (.cells #[.string ⟨#[105, 110]⟩, .func (.func 93) #[] #[], .int .i64 1, .int .i64 16] 121)) (And.intro (hT.alloc (.cells #[.string ⟨#[105, 110]⟩, .func (.func 93) #[] #[], .int .i64 1, .int .i64 16] 121)) (hof.alloc (.cells #[.string ⟨#[105, 110]⟩, .func (.func 93) #[] #[], .int .i64 1, .int .i64 16] 121))))
        have hno := Lib.hid (fun h => cfg_bad10 c h)
        clear hB hT hof
        go_wp2_with fail
        refine (num10 _ _).mono ?_
        rintro e w' ⟨rfl, rfl⟩
        clear t0 t1 t2 t3
        by_cases h1 : c.inn < 1
        · have d1 : decide (c.inn < 1) = true := decide_eq_true h1
          have hbad := Lib.hid (hno.out (.inl h1))
          go_wp2
          go_ret
          exact ⟨ret_v (checkV_bad hbad.out), H1.out.2.2⟩
        · have d1 : decide (c.inn < 1) = false := decide_eq_false h1
          by_cases h2 : 16 < c.inn
          · have d2 : decide (16 < c.inn) = true := decide_eq_true h2
            have hbad := Lib.hid (hno.out (.inr h2))
            go_wp2
            go_ret
            exact ⟨ret_v (checkV_bad hbad.out), H1.out.2.2⟩
          · have d2 : decide (16 < c.inn) = false := decide_eq_false h2
            have hok2 := Lib.hid (show okTo c 11 from ⟨hok.out, by omega, by omega⟩)
            go_wp2
            go_roundw
            case rel => exact ⟨11, by omega, rfl, hok2, H1.out.1, H1.out.2.1, H1.out.2.2⟩
            case measure => simp [intOf]
      · have t0 := hT.cell 44 (.string ⟨#[111, 117, 116]⟩) rfl
        have t1 := hT.cell 45 (.func (.func 94) #[] #[]) rfl
        have t2 := hT.cell 46 (.int .i64 1) rfl
        have t3 := hT.cell 47 (.int .i64 16) rfl
        have tc := (hB.alloc (.cells #[.string ⟨#[111, 117, 116]⟩, .func (.func 94) #[] #[], .int .i64 1, .int .i64 16] 121)).cell 11 (.int .i64 c.out) rfl
        have H1 := Lib.hid (And.intro (hB.alloc (.cells #[.string ⟨#[111, 117, 116]⟩, .func (.func 94) #[] #[], .int .i64 1, .int .i64 16] 121)) (And.intro (hT.alloc (.cells #[.string ⟨#[111, 117, 116]⟩, .func (.func 94) #[] #[], .int .i64 1, .int .i64 16] 121)) (hof.alloc (.cells #[.string ⟨#[111, 117, 116]⟩, .func (.func 94) #[] #[], .int .i64 1, .int .i64 16] 121))))
        have hno := Lib.hid (fun h => cfg_bad11 c h)
        clear hB hT hof
        go_wp2_with fail
        refine (num11 _ _).mono ?_
        rintro e w' ⟨rfl, rfl⟩
        clear t0 t1 t2 t3
        by_cases h1 : c.out < 1
        · have d1 : decide (c.out < 1) = true := decide_eq_true h1
          have hbad := Lib.hid (hno.out (.inl h1))
          go_wp2
          go_ret
          exact ⟨ret_v (checkV_bad hbad.out), H1.out.2.2⟩
        · have d1 : decide (c.out < 1) = false := decide_eq_false h1
          by_cases h2 : 16 < c.out
          · have d2 : decide (16 < c.out) = true := decide_eq_true h2
            have hbad := Lib.hid (hno.out (.inr h2))
            go_wp2
            go_ret
            exact ⟨ret_v (checkV_bad hbad.out), H1.out.2.2⟩
          · have d2 : decide (16 < c.out) = false := decide_eq_false h2
            have hok2 := Lib.hid (show okTo c 12 from ⟨hok.out, by omega, by omega⟩)
            go_wp2
            go_roundw
            case rel => exact ⟨12, by omega, rfl, hok2, H1.out.1, H1.out.2.1, H1.out.2.2⟩
            case measure => simp [intOf]
      · have t0 := hT.cell 48 (.string ⟨#[102, 101, 101, 100]⟩) rfl
        have t1 := hT.cell 49 (.func (.func 95) #[] #[]) rfl
        have t2 := hT.cell 50 (.int .i64 1) rfl
        have t3 := hT.cell 51 (.int .i64 64) rfl
        have tc := (hB.alloc (.cells #[.string ⟨#[102, 101, 101, 100]⟩, .func (.func 95) #[] #[], .int .i64 1, .int .i64 64] 121)).cell 12 (.int .i64 c.feed) rfl
        have H1 := Lib.hid (And.intro (hB.alloc (.cells #[.string ⟨#[102, 101, 101, 100]⟩, .func (.func 95) #[] #[], .int .i64 1, .int .i64 64] 121)) (And.intro (hT.alloc (.cells #[.string ⟨#[102, 101, 101, 100]⟩, .func (.func 95) #[] #[], .int .i64 1, .int .i64 64] 121)) (hof.alloc (.cells #[.string ⟨#[102, 101, 101, 100]⟩, .func (.func 95) #[] #[], .int .i64 1, .int .i64 64] 121))))
        have hno := Lib.hid (fun h => cfg_bad12 c h)
        clear hB hT hof
        go_wp2_with fail
        refine (num12 _ _).mono ?_
        rintro e w' ⟨rfl, rfl⟩
        clear t0 t1 t2 t3
        by_cases h1 : c.feed < 1
        · have d1 : decide (c.feed < 1) = true := decide_eq_true h1
          have hbad := Lib.hid (hno.out (.inl h1))
          go_wp2
          go_ret
          exact ⟨ret_v (checkV_bad hbad.out), H1.out.2.2⟩
        · have d1 : decide (c.feed < 1) = false := decide_eq_false h1
          by_cases h2 : 64 < c.feed
          · have d2 : decide (64 < c.feed) = true := decide_eq_true h2
            have hbad := Lib.hid (hno.out (.inr h2))
            go_wp2
            go_ret
            exact ⟨ret_v (checkV_bad hbad.out), H1.out.2.2⟩
          · have d2 : decide (64 < c.feed) = false := decide_eq_false h2
            have hok2 := Lib.hid (show okTo c 13 from ⟨hok.out, by omega, by omega⟩)
            go_wp2
            go_roundw
            case rel => exact ⟨13, by omega, rfl, hok2, H1.out.1, H1.out.2.1, H1.out.2.2⟩
            case measure => simp [intOf]
      · have t0 := hT.cell 52 (.string ⟨#[114, 101, 116, 114, 105, 101, 115]⟩) rfl
        have t1 := hT.cell 53 (.func (.func 96) #[] #[]) rfl
        have t2 := hT.cell 54 (.int .i64 0) rfl
        have t3 := hT.cell 55 (.int .i64 8) rfl
        have tc := (hB.alloc (.cells #[.string ⟨#[114, 101, 116, 114, 105, 101, 115]⟩, .func (.func 96) #[] #[], .int .i64 0, .int .i64 8] 121)).cell 13 (.int .i64 c.retries) rfl
        have H1 := Lib.hid (And.intro (hB.alloc (.cells #[.string ⟨#[114, 101, 116, 114, 105, 101, 115]⟩, .func (.func 96) #[] #[], .int .i64 0, .int .i64 8] 121)) (And.intro (hT.alloc (.cells #[.string ⟨#[114, 101, 116, 114, 105, 101, 115]⟩, .func (.func 96) #[] #[], .int .i64 0, .int .i64 8] 121)) (hof.alloc (.cells #[.string ⟨#[114, 101, 116, 114, 105, 101, 115]⟩, .func (.func 96) #[] #[], .int .i64 0, .int .i64 8] 121))))
        have hno := Lib.hid (fun h => cfg_bad13 c h)
        clear hB hT hof
        go_wp2_with fail
        refine (num13 _ _).mono ?_
        rintro e w' ⟨rfl, rfl⟩
        clear t0 t1 t2 t3
        by_cases h1 : c.retries < 0
        · have d1 : decide (c.retries < 0) = true := decide_eq_true h1
          have hbad := Lib.hid (hno.out (.inl h1))
          go_wp2
          go_ret
          exact ⟨ret_v (checkV_bad hbad.out), H1.out.2.2⟩
        · have d1 : decide (c.retries < 0) = false := decide_eq_false h1
          by_cases h2 : 8 < c.retries
          · have d2 : decide (8 < c.retries) = true := decide_eq_true h2
            have hbad := Lib.hid (hno.out (.inr h2))
            go_wp2
            go_ret
            exact ⟨ret_v (checkV_bad hbad.out), H1.out.2.2⟩
          · have d2 : decide (8 < c.retries) = false := decide_eq_false h2
            have hok2 := Lib.hid (show okTo c 14 from ⟨hok.out, by omega, by omega⟩)
            go_wp2
            go_roundw
            case rel => exact ⟨14, by omega, rfl, hok2, H1.out.1, H1.out.2.1, H1.out.2.2⟩
            case measure => simp [intOf]
      · have t0 := hT.cell 56 (.string ⟨#[108, 105, 102, 101]⟩) rfl
        have t1 := hT.cell 57 (.func (.func 97) #[] #[]) rfl
        have t2 := hT.cell 58 (.int .i64 0) rfl
        have t3 := hT.cell 59 (.int .i64 1048576) rfl
        have tc := (hB.alloc (.cells #[.string ⟨#[108, 105, 102, 101]⟩, .func (.func 97) #[] #[], .int .i64 0, .int .i64 1048576] 121)).cell 14 (.int .i64 c.life) rfl
        have H1 := Lib.hid (And.intro (hB.alloc (.cells #[.string ⟨#[108, 105, 102, 101]⟩, .func (.func 97) #[] #[], .int .i64 0, .int .i64 1048576] 121)) (And.intro (hT.alloc (.cells #[.string ⟨#[108, 105, 102, 101]⟩, .func (.func 97) #[] #[], .int .i64 0, .int .i64 1048576] 121)) (hof.alloc (.cells #[.string ⟨#[108, 105, 102, 101]⟩, .func (.func 97) #[] #[], .int .i64 0, .int .i64 1048576] 121))))
        have hno := Lib.hid (fun h => cfg_bad14 c h)
        clear hB hT hof
        go_wp2_with fail
        refine (num14 _ _).mono ?_
        rintro e w' ⟨rfl, rfl⟩
        clear t0 t1 t2 t3
        by_cases h1 : c.life < 0
        · have d1 : decide (c.life < 0) = true := decide_eq_true h1
          have hbad := Lib.hid (hno.out (.inl h1))
          go_wp2
          go_ret
          exact ⟨ret_v (checkV_bad hbad.out), H1.out.2.2⟩
        · have d1 : decide (c.life < 0) = false := decide_eq_false h1
          by_cases h2 : 1048576 < c.life
          · have d2 : decide (1048576 < c.life) = true := decide_eq_true h2
            have hbad := Lib.hid (hno.out (.inr h2))
            go_wp2
            go_ret
            exact ⟨ret_v (checkV_bad hbad.out), H1.out.2.2⟩
          · have d2 : decide (1048576 < c.life) = false := decide_eq_false h2
            have hok2 := Lib.hid (show okTo c 15 from ⟨hok.out, by omega, by omega⟩)
            go_wp2
            go_roundw
            case rel => exact ⟨15, by omega, rfl, hok2, H1.out.1, H1.out.2.1, H1.out.2.2⟩
            case measure => simp [intOf]
      · have t0 := hT.cell 60 (.string ⟨#[100, 111, 111, 114]⟩) rfl
        have t1 := hT.cell 61 (.func (.func 98) #[] #[]) rfl
        have t2 := hT.cell 62 (.int .i64 1) rfl
        have t3 := hT.cell 63 (.int .i64 4) rfl
        have tc := (hB.alloc (.cells #[.string ⟨#[100, 111, 111, 114]⟩, .func (.func 98) #[] #[], .int .i64 1, .int .i64 4] 121)).cell 15 (.int .i64 c.door) rfl
        have H1 := Lib.hid (And.intro (hB.alloc (.cells #[.string ⟨#[100, 111, 111, 114]⟩, .func (.func 98) #[] #[], .int .i64 1, .int .i64 4] 121)) (And.intro (hT.alloc (.cells #[.string ⟨#[100, 111, 111, 114]⟩, .func (.func 98) #[] #[], .int .i64 1, .int .i64 4] 121)) (hof.alloc (.cells #[.string ⟨#[100, 111, 111, 114]⟩, .func (.func 98) #[] #[], .int .i64 1, .int .i64 4] 121))))
        have hno := Lib.hid (fun h => cfg_bad15 c h)
        clear hB hT hof
        go_wp2_with fail
        refine (num15 _ _).mono ?_
        rintro e w' ⟨rfl, rfl⟩
        clear t0 t1 t2 t3
        by_cases h1 : c.door < 1
        · have d1 : decide (c.door < 1) = true := decide_eq_true h1
          have hbad := Lib.hid (hno.out (.inl h1))
          go_wp2
          go_ret
          exact ⟨ret_v (checkV_bad hbad.out), H1.out.2.2⟩
        · have d1 : decide (c.door < 1) = false := decide_eq_false h1
          by_cases h2 : 4 < c.door
          · have d2 : decide (4 < c.door) = true := decide_eq_true h2
            have hbad := Lib.hid (hno.out (.inr h2))
            go_wp2
            go_ret
            exact ⟨ret_v (checkV_bad hbad.out), H1.out.2.2⟩
          · have d2 : decide (4 < c.door) = false := decide_eq_false h2
            have hok2 := Lib.hid (show okTo c 16 from ⟨hok.out, by omega, by omega⟩)
            go_wp2
            go_roundw
            case rel => exact ⟨16, by omega, rfl, hok2, H1.out.1, H1.out.2.1, H1.out.2.2⟩
            case measure => simp [intOf]
      · have t0 := hT.cell 64 (.string ⟨#[104, 111, 108, 100, 115]⟩) rfl
        have t1 := hT.cell 65 (.func (.func 99) #[] #[]) rfl
        have t2 := hT.cell 66 (.int .i64 0) rfl
        have t3 := hT.cell 67 (.int .i64 4) rfl
        have tc := (hB.alloc (.cells #[.string ⟨#[104, 111, 108, 100, 115]⟩, .func (.func 99) #[] #[], .int .i64 0, .int .i64 4] 121)).cell 16 (.int .i64 c.holds) rfl
        have H1 := Lib.hid (And.intro (hB.alloc (.cells #[.string ⟨#[104, 111, 108, 100, 115]⟩, .func (.func 99) #[] #[], .int .i64 0, .int .i64 4] 121)) (And.intro (hT.alloc (.cells #[.string ⟨#[104, 111, 108, 100, 115]⟩, .func (.func 99) #[] #[], .int .i64 0, .int .i64 4] 121)) (hof.alloc (.cells #[.string ⟨#[104, 111, 108, 100, 115]⟩, .func (.func 99) #[] #[], .int .i64 0, .int .i64 4] 121))))
        have hno := Lib.hid (fun h => cfg_bad16 c h)
        clear hB hT hof
        go_wp2_with fail
        refine (num16 _ _).mono ?_
        rintro e w' ⟨rfl, rfl⟩
        clear t0 t1 t2 t3
        by_cases h1 : c.holds < 0
        · have d1 : decide (c.holds < 0) = true := decide_eq_true h1
          have hbad := Lib.hid (hno.out (.inl h1))
          go_wp2
          go_ret
          exact ⟨ret_v (checkV_bad hbad.out), H1.out.2.2⟩
        · have d1 : decide (c.holds < 0) = false := decide_eq_false h1
          by_cases h2 : 4 < c.holds
          · have d2 : decide (4 < c.holds) = true := decide_eq_true h2
            have hbad := Lib.hid (hno.out (.inr h2))
            go_wp2
            go_ret
            exact ⟨ret_v (checkV_bad hbad.out), H1.out.2.2⟩
          · have d2 : decide (4 < c.holds) = false := decide_eq_false h2
            have hok2 := Lib.hid (show okTo c 17 from ⟨hok.out, by omega, by omega⟩)
            go_wp2
            go_roundw
            case rel => exact ⟨17, by omega, rfl, hok2, H1.out.1, H1.out.2.1, H1.out.2.2⟩
            case measure => simp [intOf]
    · obtain rfl : k = 17 := by omega
      have hgood : cfgOk c = true := by
        have := hok.out
        simp only [okTo, inB] at this
        unfold cfgOk
        simp only [Bool.and_eq_true, decide_eq_true_eq]
        omega
      have HG := Lib.hid hgood
      clear hgood hB hT
      go_wp2
      go_ret
      exact ⟨ret_v (checkV_good HG.out), hof⟩
end Go.Proofs.Ytnanihffljpdbaa.Si
