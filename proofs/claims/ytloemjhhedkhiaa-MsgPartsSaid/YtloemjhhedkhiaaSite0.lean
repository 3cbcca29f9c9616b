/- Contracts of layer 7: whether a building can be. -/
import Derived.Test.YtloemjhhedkhiaaProg
import Derived.Below
import Derived.WalkKit
import Derived.KernelRfl
import Derived.RowKit3
import Derived.Deep.LoopGhost
import Derived.Deep.QuietTactic
import Derived.BigQuiet
import Derived.WideLaws
import Derived.Deep.DeepCutAuto
import Derived.Deep.CutBlock
import Derived.Lib.Hide
import Derived.Laws.BitsLemmas
import Derived.Laws.Bits64
import Derived.Laws.BitsAllLaws
import Derived.IntWalk
import Derived.Outline
import Derived.WalkSpells
import Derived.Test.YtloemjhhedkhiaaMem
import Derived.Laws.EntriesVeiled
namespace Go.Proofs.Ytloemjhhedkhiaa.Si
set_option linter.unusedVariables false
set_option linter.unusedSimpArgs false
open Go.RowKit Go.Proofs.Ytloemjhhedkhiaa.Mem

/-- a building -/
structure Cfg where
  floors : Int
  cars : Int
  seats : Int
  calls : Int
  lines : Int
  keys : Int
  window : Int
  burst : Int
  rate : Int
  idle : Int
  inn : Int
  out : Int
  feed : Int
  retries : Int
  life : Int
  door : Int
  holds : Int
  secret : Int
def Cfg.cells (c : Cfg) : Array Value := #[.int .i64 c.floors, .int .i64 c.cars, .int .i64 c.seats, .int .i64 c.calls, .int .i64 c.lines, .int .i64 c.keys, .int .i64 c.window, .int .i64 c.burst, .int .i64 c.rate, .int .i64 c.idle, .int .i64 c.inn, .int .i64 c.out, .int .i64 c.feed, .int .i64 c.retries, .int .i64 c.life, .int .i64 c.door, .int .i64 c.holds, .int .u32 c.secret]
def Cfg.val (c : Cfg) : Value := .agg c.cells
/-- the first k numbers are within their bounds -/
def inB (c : Cfg) (k : Nat) : Prop := match k with
  | 0 => 2 ≤ c.floors ∧ c.floors ≤ 32
  | 1 => 1 ≤ c.cars ∧ c.cars ≤ 4
  | 2 => 1 ≤ c.seats ∧ c.seats ≤ 8
  | 3 => 1 ≤ c.calls ∧ c.calls ≤ 64
  | 4 => 1 ≤ c.lines ∧ c.lines ≤ 8
  | 5 => 1 ≤ c.keys ∧ c.keys ≤ 64
  | 6 => 1 ≤ c.window ∧ c.window ≤ 65536
  | 7 => 1 ≤ c.burst ∧ c.burst ≤ 1024
  | 8 => 1 ≤ c.rate ∧ c.rate ≤ 1024
  | 9 => 1 ≤ c.idle ∧ c.idle ≤ 65536
  | 10 => 1 ≤ c.inn ∧ c.inn ≤ 16
  | 11 => 1 ≤ c.out ∧ c.out ≤ 16
  | 12 => 1 ≤ c.feed ∧ c.feed ≤ 64
  | 13 => 0 ≤ c.retries ∧ c.retries ≤ 8
  | 14 => 0 ≤ c.life ∧ c.life ≤ 1048576
  | 15 => 1 ≤ c.door ∧ c.door ≤ 4
  | 16 => 0 ≤ c.holds ∧ c.holds ≤ 4
  | _ => True
def okTo (c : Cfg) : Nat → Prop
  | 0 => True
  | k + 1 => okTo c k ∧ inB c k
def cfgOk (c : Cfg) : Bool :=
  decide (2 ≤ c.floors) && decide (c.floors ≤ 32) && decide (1 ≤ c.cars) && decide (c.cars ≤ 4) && decide (1 ≤ c.seats) && decide (c.seats ≤ 8) && decide (1 ≤ c.calls) && decide (c.calls ≤ 64) && decide (1 ≤ c.lines) && decide (c.lines ≤ 8) && decide (1 ≤ c.keys) && decide (c.keys ≤ 64) && decide (1 ≤ c.window) && decide (c.window ≤ 65536) && decide (1 ≤ c.burst) && decide (c.burst ≤ 1024) && decide (1 ≤ c.rate) && decide (c.rate ≤ 1024) && decide (1 ≤ c.idle) && decide (c.idle ≤ 65536) && decide (1 ≤ c.inn) && decide (c.inn ≤ 16) && decide (1 ≤ c.out) && decide (c.out ≤ 16) && decide (1 ≤ c.feed) && decide (c.feed ≤ 64) && decide (0 ≤ c.retries) && decide (c.retries ≤ 8) && decide (0 ≤ c.life) && decide (c.life ≤ 1048576) && decide (1 ≤ c.door) && decide (c.door ≤ 4) && decide (0 ≤ c.holds) && decide (c.holds ≤ 4)
def checkV (c : Cfg) : Int := if cfgOk c then 0 else 3
theorem ret_v {c : Cfg} {n : Int} (h : checkV c = n) : Ending.returned (.int .i64 n) = .returned (.int .i64 (checkV c)) := by rw [h]
theorem checkV_bad {c : Cfg} (h : cfgOk c = false) : checkV c = 3 := by unfold checkV; rw [h]; rfl
theorem checkV_good {c : Cfg} (h : cfgOk c = true) : checkV c = 0 := by unfold checkV; rw [h]; rfl
theorem cfg_bad0 (c : Cfg) (h : c.floors < 2 ∨ 32 < c.floors) : cfgOk c = false := by
  rw [← Bool.not_eq_true]
  unfold cfgOk
  simp only [Bool.and_eq_true, decide_eq_true_eq]
  omega
theorem cfg_bad1 (c : Cfg) (h : c.cars < 1 ∨ 4 < c.cars) : cfgOk c = false := by
  rw [← Bool.not_eq_true]
  unfold cfgOk
  simp only [Bool.and_eq_true, decide_eq_true_eq]
  omega
theorem cfg_bad2 (c : Cfg) (h : c.seats < 1 ∨ 8 < c.seats) : cfgOk c = false := by
  rw [← Bool.not_eq_true]
  unfold cfgOk
  simp only [Bool.and_eq_true, decide_eq_true_eq]
  omega
theorem cfg_bad3 (c : Cfg) (h : c.calls < 1 ∨ 64 < c.calls) : cfgOk c = false := by
  rw [← Bool.not_eq_true]
  unfold cfgOk
  simp only [Bool.and_eq_true, decide_eq_true_eq]
  omega
theorem cfg_bad4 (c : Cfg) (h : c.lines < 1 ∨ 8 < c.lines) : cfgOk c = false := by
  rw [← Bool.not_eq_true]
  unfold cfgOk
  simp only [Bool.and_eq_true, decide_eq_true_eq]
  omega
theorem cfg_bad5 (c : Cfg) (h : c.keys < 1 ∨ 64 < c.keys) : cfgOk c = false := by
  rw [← Bool.not_eq_true]
  unfold cfgOk
  simp only [Bool.and_eq_true, decide_eq_true_eq]
  omega
theorem cfg_bad6 (c : Cfg) (h : c.window < 1 ∨ 65536 < c.window) : cfgOk c = false := by
  rw [← Bool.not_eq_true]
  unfold cfgOk
  simp only [Bool.and_eq_true, decide_eq_true_eq]
  omega
theorem cfg_bad7 (c : Cfg) (h : c.burst < 1 ∨ 1024 < c.burst) : cfgOk c = false := by
  rw [← Bool.not_eq_true]
  unfold cfgOk
  simp only [Bool.and_eq_true, decide_eq_true_eq]
  omega
theorem cfg_bad8 (c : Cfg) (h : c.rate < 1 ∨ 1024 < c.rate) : cfgOk c = false := by
  rw [← Bool.not_eq_true]
  unfold cfgOk
  simp only [Bool.and_eq_true, decide_eq_true_eq]
  omega
theorem cfg_bad9 (c : Cfg) (h : c.idle < 1 ∨ 65536 < c.idle) : cfgOk c = false := by
  rw [← Bool.not_eq_true]
  unfold cfgOk
  simp only [Bool.and_eq_true, decide_eq_true_eq]
  omega
theorem cfg_bad10 (c : Cfg) (h : c.inn < 1 ∨ 16 < c.inn) : cfgOk c = false := by
  rw [← Bool.not_eq_true]
  unfold cfgOk
  simp only [Bool.and_eq_true, decide_eq_true_eq]
  omega
theorem cfg_bad11 (c : Cfg) (h : c.out < 1 ∨ 16 < c.out) : cfgOk c = false := by
  rw [← Bool.not_eq_true]
  unfold cfgOk
  simp only [Bool.and_eq_true, decide_eq_true_eq]
  omega
theorem cfg_bad12 (c : Cfg) (h : c.feed < 1 ∨ 64 < c.feed) : cfgOk c = false := by
  rw [← Bool.not_eq_true]
  unfold cfgOk
  simp only [Bool.and_eq_true, decide_eq_true_eq]
  omega
theorem cfg_bad13 (c : Cfg) (h : c.retries < 0 ∨ 8 < c.retries) : cfgOk c = false := by
  rw [← Bool.not_eq_true]
  unfold cfgOk
  simp only [Bool.and_eq_true, decide_eq_true_eq]
  omega
theorem cfg_bad14 (c : Cfg) (h : c.life < 0 ∨ 1048576 < c.life) : cfgOk c = false := by
  rw [← Bool.not_eq_true]
  unfold cfgOk
  simp only [Bool.and_eq_true, decide_eq_true_eq]
  omega
theorem cfg_bad15 (c : Cfg) (h : c.door < 1 ∨ 4 < c.door) : cfgOk c = false := by
  rw [← Bool.not_eq_true]
  unfold cfgOk
  simp only [Bool.and_eq_true, decide_eq_true_eq]
  omega
theorem cfg_bad16 (c : Cfg) (h : c.holds < 0 ∨ 4 < c.holds) : cfgOk c = false := by
  rw [← Bool.not_eq_true]
  unfold cfgOk
  simp only [Bool.and_eq_true, decide_eq_true_eq]
  omega
end Go.Proofs.Ytloemjhhedkhiaa.Si
