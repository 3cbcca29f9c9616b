/- Contracts of layer 7: whether a building can be. -/
import Derived.Test.YtnanihffljpdbaaProg
import Derived.Below
import Derived.WalkKit
import Derived.KernelRfl
import Derived.RowKit3
import Derived.Deep.LoopGhost
import Derived.Deep.QuietTactic
import Derived.BigQuiet
import Derived.WideLaws
import Derived.Deep.DeepCutAuto
import Derived.Deep.CutBlock
import Derived.Lib.Hide
import Derived.Laws.BitsLemmas
import Derived.Laws.Bits64
import Derived.Laws.BitsAllLaws
import Derived.IntWalk
import Derived.Outline
import Derived.WalkSpells
import Derived.Test.YtnanihffljpdbaaGA
import Derived.Laws.EntriesVeiled
namespace Go.Proofs.Ytnanihffljpdbaa.Si
set_option linter.unusedVariables false
set_option linter.unusedSimpArgs false
open Go.RowKit Go.Proofs.Ytnanihffljpdbaa.Mem

/-- a building -/
structure Cfg where
  floors : Int
  cars : Int
  seats : Int
  calls : Int
  lines : Int
  keys : Int
  window : Int
  burst : Int
  rate : Int
  idle : Int
  inn : Int
  out : Int
  feed : Int
  retries : Int
  life : Int
  door : Int
  holds : Int
  secret : Int
def Cfg.cells (c : Cfg) : Array Value := #[.int .i64 c.floors, .int .i64 c.cars, .int .i64 c.seats, .int .i64 c.calls, .int .i64 c.lines, .int .i64 c.keys, .int .i64 c.window, .int .i64 c.burst, .int .i64 c.rate, .int .i64 c.idle, .int .i64 c.inn, .int .i64 c.out, .int .i64 c.feed, .int .i64 c.retries, .int .i64 c.life, .int .i64 c.door, .int .i64 c.holds, .int .u32 c.secret]
def Cfg.val (c : Cfg) : Value := .agg c.cells
/-- the first k numbers are within their bounds -/
def inB (c : Cfg) (k : Nat) : Prop := match k with
  | 0 => 2 ≤ c.floors ∧ c.floors ≤ 32
  | 1 => 1 ≤ c.cars ∧ c.cars ≤ 4
  | 2 => 1 ≤ c.seats ∧ c.seats ≤ 8
  | 3 => 1 ≤ c.calls ∧ c.calls ≤ 64
  | 4 => 1 ≤ c.lines ∧ c.lines ≤ 8
  | 5 => 1 ≤ c.keys ∧ c.keys ≤ 64
  | 6 => 1 ≤ c.window ∧ c.window ≤ 65536
  | 7 => 1 ≤ c.burst ∧ c.burst ≤ 1024
  | 8 => 1 ≤ c.rate ∧ c.rate ≤ 1024
  | 9 => 1 ≤ c.idle ∧ c.idle ≤ 65536
  | 10 => 1 ≤ c.inn ∧ c.inn ≤ 16
  | 11 => 1 ≤ c.out ∧ c.out ≤ 16
  | 12 => 1 ≤ c.feed ∧ c.feed ≤ 64
  | 13 => 0 ≤ c.retries ∧ c.retries ≤ 8
  | 14 => 0 ≤ c.life ∧ c.life ≤ 1048576
  | 15 => 1 ≤ c.door ∧ c.door ≤ 4
  | 16 => 0 ≤ c.holds ∧ c.holds ≤ 4
  | _ => True
def okTo (c : Cfg) : Nat → Prop
  | 0 => True
  | k + 1 => okTo c k ∧ inB c k
def cfgOk (c : Cfg) : Bool :=
  decide (2 ≤ c.floors) && decide (c.floors ≤ 32) && decide (1 ≤ c.cars) && decide (c.cars ≤ 4) && decide (1 ≤ c.seats) && decide (c.seats ≤ 8) && decide (1 ≤ c.calls) && decide (c.calls ≤ 64) && decide (1 ≤ c.lines) && decide (c.lines ≤ 8) && decide (1 ≤ c.keys) && decide (c.keys ≤ 64) && decide (1 ≤ c.window) && decide (c.window ≤ 65536) && decide (1 ≤ c.burst) && decide (c.burst ≤ 1024) && decide (1 ≤ c.rate) && decide (c.rate ≤ 1024) && decide (1 ≤ c.idle) && decide (c.idle ≤ 65536) && decide (1 ≤ c.inn) && decide (c.inn ≤ 16) && decide (1 ≤ c.out) && decide (c.out ≤ 16) && decide (1 ≤ c.feed) && decide (c.feed ≤ 64) && decide (0 ≤ c.retries) && decide (c.retries ≤ 8) && decide (0 ≤ c.life) && decide (c.life ≤ 1048576) && decide (1 ≤ c.door) && decide (c.door ≤ 4) && decide (0 ≤ c.holds) && decide (c.holds ≤ 4)
def tbl : Array Value := #[.string ⟨#[102, 108, 111, 111, 114, 115]⟩, .func (.func 83) #[] #[], .int .i64 2, .int .i64 32, .string ⟨#[99, 97, 114, 115]⟩, .func (.func 84) #[] #[], .int .i64 1, .int .i64 4, .string ⟨#[115, 101, 97, 116, 115]⟩, .func (.func 85) #[] #[], .int .i64 1, .int .i64 8, .string ⟨#[99, 97, 108, 108, 115]⟩, .func (.func 86) #[] #[], .int .i64 1, .int .i64 64, .string ⟨#[108, 105, 110, 101, 115]⟩, .func (.func 87) #[] #[], .int .i64 1, .int .i64 8, .string ⟨#[107, 101, 121, 115]⟩, .func (.func 88) #[] #[], .int .i64 1, .int .i64 64, .string ⟨#[119, 105, 110, 100, 111, 119]⟩, .func (.func 89) #[] #[], .int .i64 1, .int .i64 65536, .string ⟨#[98, 117, 114, 115, 116]⟩, .func (.func 90) #[] #[], .int .i64 1, .int .i64 1024, .string ⟨#[114, 97, 116, 101]⟩, .func (.func 91) #[] #[], .int .i64 1, .int .i64 1024, .string ⟨#[105, 100, 108, 101]⟩, .func (.func 92) #[] #[], .int .i64 1, .int .i64 65536, .string ⟨#[105, 110]⟩, .func (.func 93) #[] #[], .int .i64 1, .int .i64 16, .string ⟨#[111, 117, 116]⟩, .func (.func 94) #[] #[], .int .i64 1, .int .i64 16, .string ⟨#[102, 101, 101, 100]⟩, .func (.func 95) #[] #[], .int .i64 1, .int .i64 64, .string ⟨#[114, 101, 116, 114, 105, 101, 115]⟩, .func (.func 96) #[] #[], .int .i64 0, .int .i64 8, .string ⟨#[108, 105, 102, 101]⟩, .func (.func 97) #[] #[], .int .i64 0, .int .i64 1048576, .string ⟨#[100, 111, 111, 114]⟩, .func (.func 98) #[] #[], .int .i64 1, .int .i64 4, .string ⟨#[104, 111, 108, 100, 115]⟩, .func (.func 99) #[] #[], .int .i64 0, .int .i64 4]
set_option maxRecDepth 20000 in
set_option maxHeartbeats 6400000 in
theorem numbers (w : World) : Calls Try.prog 65 #[] w fun e w' => e = .returned (.slice (some ⟨w.heap.size, 0, none⟩) 17 17) ∧ w' = w.alloc (.cells tbl 121) := by
  go_enter Try.func65, Try.ntmps65
  go_wp2
  go_ret
  exact ⟨rfl, rfl⟩
theorem num0 (b : Nat) (w : World) : Calls Try.prog 83 #[.pointer (some ⟨b, 0, none⟩)] w fun e w' => e = .returned (.pointer (some ⟨b, 0, none⟩)) ∧ w = w' := by
  go_enter Try.func83, Try.ntmps83
  go_wp2
  go_ret
  exact ⟨rfl, rfl⟩
theorem num1 (b : Nat) (w : World) : Calls Try.prog 84 #[.pointer (some ⟨b, 0, none⟩)] w fun e w' => e = .returned (.pointer (some ⟨b, 1, none⟩)) ∧ w = w' := by
  go_enter Try.func84, Try.ntmps84
  go_wp2
  go_ret
  exact ⟨rfl, rfl⟩
theorem num2 (b : Nat) (w : World) : Calls Try.prog 85 #[.pointer (some ⟨b, 0, none⟩)] w fun e w' => e = .returned (.pointer (some ⟨b, 2, none⟩)) ∧ w = w' := by
  go_enter Try.func85, Try.ntmps85
  go_wp2
  go_ret
  exact ⟨rfl, rfl⟩
theorem num3 (b : Nat) (w : World) : Calls Try.prog 86 #[.pointer (some ⟨b, 0, none⟩)] w fun e w' => e = .returned (.pointer (some ⟨b, 3, none⟩)) ∧ w = w' := by
  go_enter Try.func86, Try.ntmps86
  go_wp2
  go_ret
  exact ⟨rfl, rfl⟩
theorem num4 (b : Nat) (w : World) : Calls Try.prog 87 #[.pointer (some ⟨b, 0, none⟩)] w fun e w' => e = .returned (.pointer (some ⟨b, 4, none⟩)) ∧ w = w' := by
  go_enter Try.func87, Try.ntmps87
  go_wp2
  go_ret
  exact ⟨rfl, rfl⟩
theorem num5 (b : Nat) (w : World) : Calls Try.prog 88 #[.pointer (some ⟨b, 0, none⟩)] w fun e w' => e = .returned (.pointer (some ⟨b, 5, none⟩)) ∧ w = w' := by
  go_enter Try.func88, Try.ntmps88
  go_wp2
  go_ret
  exact ⟨rfl, rfl⟩
theorem num6 (b : Nat) (w : World) : Calls Try.prog 89 #[.pointer (some ⟨b, 0, none⟩)] w fun e w' => e = .returned (.pointer (some ⟨b, 6, none⟩)) ∧ w = w' := by
  go_enter Try.func89, Try.ntmps89
  go_wp2
  go_ret
  exact ⟨rfl, rfl⟩
theorem num7 (b : Nat) (w : World) : Calls Try.prog 90 #[.pointer (some ⟨b, 0, none⟩)] w fun e w' => e = .returned (.pointer (some ⟨b, 7, none⟩)) ∧ w = w' := by
  go_enter Try.func90, Try.ntmps90
  go_wp2
  go_ret
  exact ⟨rfl, rfl⟩
theorem num8 (b : Nat) (w : World) : Calls Try.prog 91 #[.pointer (some ⟨b, 0, none⟩)] w fun e w' => e = .returned (.pointer (some ⟨b, 8, none⟩)) ∧ w = w' := by
  go_enter Try.func91, Try.ntmps91
  go_wp2
  go_ret
  exact ⟨rfl, rfl⟩
theorem num9 (b : Nat) (w : World) : Calls Try.prog 92 #[.pointer (some ⟨b, 0, none⟩)] w fun e w' => e = .returned (.pointer (some ⟨b, 9, none⟩)) ∧ w = w' := by
  go_enter Try.func92, Try.ntmps92
  go_wp2
  go_ret
  exact ⟨rfl, rfl⟩
theorem num10 (b : Nat) (w : World) : Calls Try.prog 93 #[.pointer (some ⟨b, 0, none⟩)] w fun e w' => e = .returned (.pointer (some ⟨b, 10, none⟩)) ∧ w = w' := by
  go_enter Try.func93, Try.ntmps93
  go_wp2
  go_ret
  exact ⟨rfl, rfl⟩
theorem num11 (b : Nat) (w : World) : Calls Try.prog 94 #[.pointer (some ⟨b, 0, none⟩)] w fun e w' => e = .returned (.pointer (some ⟨b, 11, none⟩)) ∧ w = w' := by
  go_enter Try.func94, Try.ntmps94
  go_wp2
  go_ret
  exact ⟨rfl, rfl⟩
theorem num12 (b : Nat) (w : World) : Calls Try.prog 95 #[.pointer (some ⟨b, 0, none⟩)] w fun e w' => e = .returned (.pointer (some ⟨b, 12, none⟩)) ∧ w = w' := by
  go_enter Try.func95, Try.ntmps95
  go_wp2
  go_ret
  exact ⟨rfl, rfl⟩
theorem num13 (b : Nat) (w : World) : Calls Try.prog 96 #[.pointer (some ⟨b, 0, none⟩)] w fun e w' => e = .returned (.pointer (some ⟨b, 13, none⟩)) ∧ w = w' := by
  go_enter Try.func96, Try.ntmps96
  go_wp2
  go_ret
  exact ⟨rfl, rfl⟩
theorem num14 (b : Nat) (w : World) : Calls Try.prog 97 #[.pointer (some ⟨b, 0, none⟩)] w fun e w' => e = .returned (.pointer (some ⟨b, 14, none⟩)) ∧ w = w' := by
  go_enter Try.func97, Try.ntmps97
  go_wp2
  go_ret
  exact ⟨rfl, rfl⟩
theorem num15 (b : Nat) (w : World) : Calls Try.prog 98 #[.pointer (some ⟨b, 0, none⟩)] w fun e w' => e = .returned (.pointer (some ⟨b, 15, none⟩)) ∧ w = w' := by
  go_enter Try.func98, Try.ntmps98
  go_wp2
  go_ret
  exact ⟨rfl, rfl⟩
theorem num16 (b : Nat) (w : World) : Calls Try.prog 99 #[.pointer (some ⟨b, 0, none⟩)] w fun e w' => e = .returned (.pointer (some ⟨b, 16, none⟩)) ∧ w = w' := by
  go_enter Try.func99, Try.ntmps99
  go_wp2
  go_ret
  exact ⟨rfl, rfl⟩
def checkV (c : Cfg) : Int := if cfgOk c then 0 else 3
theorem ret_v {c : Cfg} {n : Int} (h : checkV c = n) : Ending.returned (.int .i64 n) = .returned (.int .i64 (checkV c)) := by rw [h]
theorem checkV_bad {c : Cfg} (h : cfgOk c = false) : checkV c = 3 := by unfold checkV; rw [h]; rfl
theorem checkV_good {c : Cfg} (h : cfgOk c = true) : checkV c = 0 := by unfold checkV; rw [h]; rfl
theorem cfg_bad0 (c : Cfg) (h : c.floors < 2 ∨ 32 < c.floors) : cfgOk c = false := by
  rw [← Bool.not_eq_true]
  unfold cfgOk
  simp only [Bool.and_eq_true, decide_eq_true_eq]
  omega
theorem cfg_bad1 (c : Cfg) (h : c.cars < 1 ∨ 4 < c.cars) : cfgOk c = false := by
  rw [← Bool.not_eq_true]
  unfold cfgOk
  simp only [Bool.and_eq_true, decide_eq_true_eq]
  omega
theorem cfg_bad2 (c : Cfg) (h : c.seats < 1 ∨ 8 < c.seats) : cfgOk c = false := by
  rw [← Bool.not_eq_true]
  unfold cfgOk
  simp only [Bool.and_eq_true, decide_eq_true_eq]
  omega
theorem cfg_bad3 (c : Cfg) (h : c.calls < 1 ∨ 64 < c.calls) : cfgOk c = false := by
  rw [← Bool.not_eq_true]
  unfold cfgOk
  simp only [Bool.and_eq_true, decide_eq_true_eq]
  omega
theorem cfg_bad4 (c : Cfg) (h : c.lines < 1 ∨ 8 < c.lines) : cfgOk c = false := by
  rw [← Bool.not_eq_true]
  unfold cfgOk
  simp only [Bool.and_eq_true, decide_eq_true_eq]
  omega
theorem cfg_bad5 (c : Cfg) (h : c.keys < 1 ∨ 64 < c.keys) : cfgOk c = false := by
  rw [← Bool.not_eq_true]
  unfold cfgOk
  simp only [Bool.and_eq_true, decide_eq_true_eq]
  omega
theorem cfg_bad6 (c : Cfg) (h : c.window < 1 ∨ 65536 < c.window) : cfgOk c = false := by
  rw [← Bool.not_eq_true]
  unfold cfgOk
  simp only [Bool.and_eq_true, decide_eq_true_eq]
  omega
theorem cfg_bad7 (c : Cfg) (h : c.burst < 1 ∨ 1024 < c.burst) : cfgOk c = false := by
  rw [← Bool.not_eq_true]
  unfold cfgOk
  simp only [Bool.and_eq_true, decide_eq_true_eq]
  omega
theorem cfg_bad8 (c : Cfg) (h : c.rate < 1 ∨ 1024 < c.rate) : cfgOk c = false := by
  rw [← Bool.not_eq_true]
  unfold cfgOk
  simp only [Bool.and_eq_true, decide_eq_true_eq]
  omega
theorem cfg_bad9 (c : Cfg) (h : c.idle < 1 ∨ 65536 < c.idle) : cfgOk c = false := by
  rw [← Bool.not_eq_true]
  unfold cfgOk
  simp only [Bool.and_eq_true, decide_eq_true_eq]
  omega
theorem cfg_bad10 (c : Cfg) (h : c.inn < 1 ∨ 16 < c.inn) : cfgOk c = false := by
  rw [← Bool.not_eq_true]
  unfold cfgOk
  simp only [Bool.and_eq_true, decide_eq_true_eq]
  omega
theorem cfg_bad11 (c : Cfg) (h : c.out < 1 ∨ 16 < c.out) : cfgOk c = false := by
  rw [← Bool.not_eq_true]
  unfold cfgOk
  simp only [Bool.and_eq_true, decide_eq_true_eq]
  omega
theorem cfg_bad12 (c : Cfg) (h : c.feed < 1 ∨ 64 < c.feed) : cfgOk c = false := by
  rw [← Bool.not_eq_true]
  unfold cfgOk
  simp only [Bool.and_eq_true, decide_eq_true_eq]
  omega
theorem cfg_bad13 (c : Cfg) (h : c.retries < 0 ∨ 8 < c.retries) : cfgOk c = false := by
  rw [← Bool.not_eq_true]
  unfold cfgOk
  simp only [Bool.and_eq_true, decide_eq_true_eq]
  omega
theorem cfg_bad14 (c : Cfg) (h : c.life < 0 ∨ 1048576 < c.life) : cfgOk c = false := by
  rw [← Bool.not_eq_true]
  unfold cfgOk
  simp only [Bool.and_eq_true, decide_eq_true_eq]
  omega
theorem cfg_bad15 (c : Cfg) (h : c.door < 1 ∨ 4 < c.door) : cfgOk c = false := by
  rw [← Bool.not_eq_true]
  unfold cfgOk
  simp only [Bool.and_eq_true, decide_eq_true_eq]
  omega
theorem cfg_bad16 (c : Cfg) (h : c.holds < 0 ∨ 4 < c.holds) : cfgOk c = false := by
  rw [← Bool.not_eq_true]
  unfold cfgOk
  simp only [Bool.and_eq_true, decide_eq_true_eq]
  omega
end Go.Proofs.Ytnanihffljpdbaa.Si
