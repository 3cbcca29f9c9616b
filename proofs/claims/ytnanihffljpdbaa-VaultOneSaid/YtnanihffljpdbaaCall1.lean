/- Contracts of layer 8: calls, what may be asked. -/
import Derived.Test.YtnanihffljpdbaaProg
import Derived.Below
import Derived.WalkKit
import Derived.KernelRfl
import Derived.RowKit3
import Derived.Deep.LoopGhost
import Derived.Deep.QuietTactic
import Derived.BigQuiet
import Derived.WideLaws
import Derived.Deep.DeepCutAuto
import Derived.Deep.CutBlock
import Derived.Lib.Hide
import Derived.Laws.BitsLemmas
import Derived.Laws.Bits64
import Derived.Laws.BitsAllLaws
import Derived.IntWalk
import Derived.Outline
import Derived.WalkSpells
import Derived.Test.YtnanihffljpdbaaGA
import Derived.Test.YtnanihffljpdbaaSite
import Derived.Test.YtnanihffljpdbaaBig
import Derived.Laws.EntriesVeiled
namespace Go.Proofs.Ytnanihffljpdbaa.Ca
set_option linter.unusedVariables false
set_option linter.unusedSimpArgs false
open Go.RowKit Go.Proofs.Ytnanihffljpdbaa.Mem Go.Proofs.Ytnanihffljpdbaa.Si

theorem ret_b {a b : Bool} (h : a = b) : Ending.returned (.bool a) = .returned (.bool b) := by rw [h]
theorem ret_i {a b : Int} (h : a = b) : Ending.returned (.int .i64 a) = .returned (.int .i64 b) := by rw [h]
/-- a call -/
structure CallV where
  id : Int
  kind : Int
  src : Int
  dst : Int
  car : Int
  state : Int
  owner : Int
  born : Int
def CallV.cells (x : CallV) : Array Value := #[.int .i64 x.id, .int .i64 x.kind, .int .i64 x.src, .int .i64 x.dst, .int .i64 x.car, .int .i64 x.state, .int .i64 x.owner, .int .i64 x.born]
def CallV.val (x : CallV) : Value := .agg x.cells
def noCall : CallV := ⟨0, 0, 0, 0, 0, 0, 0, 0⟩
def floorV (c : Cfg) (n : Int) : Bool := checkV c == 0 && decide (1 ≤ n) && decide (n ≤ c.floors)
def carV (c : Cfg) (n : Int) : Bool := checkV c == 0 && decide (1 ≤ n) && decide (n ≤ c.cars)
set_option maxHeartbeats 1600000 in
theorem isFloor (c : Cfg) (n : Int) (w : World) : Calls Try.prog 112 #[c.val, .int .i64 n] w fun e w' => e = .returned (.bool (floorV c n)) ∧ Off [] w w' := by
  have hk := Lib.hid (check c (w.alloc (.cells c.cells 24)))
  have hB := Lib.hid (blk_new w c.cells 24)
  have hv := Lib.hid (show floorV c n = (checkV c == 0 && decide (1 ≤ n) && decide (n ≤ c.floors)) from rfl)
  generalize checkV c = q at *
  cases h1 : (q == 0)
  all_goals cases h2 : decide (1 ≤ n)
  all_goals
    go_enter Try.func112, Try.ntmps112
    go_wp2_with (first
      | (refine wpList_box_big rfl 24 (.tmp 0) rfl c.val rfl c.cells rfl ?_)
      | (refine wpList_load_big (by simp [Region.wanted]) 24 (.tmp 2) rfl w.heap.size rfl 24 c.cells c.val rfl _ hB.out Try.underlying24 rfl (by kernel_rfl) ?_)
      | (go_at_call 41; refine hk.out.mono ?_; rintro e w1 ⟨rfl, ho⟩; have c0 := (ho.blk hB.out (by simp)).cell 0 (.int .i64 c.floors) rfl))
    go_ret
    exact ⟨ret_b (by rw [hv.out, h1, h2]; simp), ((Off.refl [] w).alloc _).trans ho (by simp)⟩
set_option maxHeartbeats 1600000 in
theorem isCar (c : Cfg) (n : Int) (w : World) : Calls Try.prog 48 #[c.val, .int .i64 n] w fun e w' => e = .returned (.bool (carV c n)) ∧ Off [] w w' := by
  have hk := Lib.hid (check c (w.alloc (.cells c.cells 24)))
  have hB := Lib.hid (blk_new w c.cells 24)
  have hv := Lib.hid (show carV c n = (checkV c == 0 && decide (1 ≤ n) && decide (n ≤ c.cars)) from rfl)
  generalize checkV c = q at *
  cases h1 : (q == 0)
  all_goals cases h2 : decide (1 ≤ n)
  all_goals
    go_enter Try.func48, Try.ntmps48
    go_wp2_with (first
      | (refine wpList_box_big rfl 24 (.tmp 0) rfl c.val rfl c.cells rfl ?_)
      | (refine wpList_load_big (by simp [Region.wanted]) 24 (.tmp 2) rfl w.heap.size rfl 24 c.cells c.val rfl _ hB.out Try.underlying24 rfl (by kernel_rfl) ?_)
      | (go_at_call 41; refine hk.out.mono ?_; rintro e w1 ⟨rfl, ho⟩; have c0 := (ho.blk hB.out (by simp)).cell 1 (.int .i64 c.cars) rfl))
    go_ret
    exact ⟨ret_b (by rw [hv.out, h1, h2]; simp), ((Off.refl [] w).alloc _).trans ho (by simp)⟩
theorem infoC {c : Cfg} : (Try.prog.info? 24).map (·.size) = some c.cells.size := by kernel_rfl
theorem infoX {x : CallV} : (Try.prog.info? 38).map (·.size) = some x.cells.size := by kernel_rfl
def askV (c : Cfg) (x : CallV) : Bool :=
  if x.kind = 1 then x.dst == 0 && x.car == 0 && floorV c x.src && decide (x.src < c.floors)
  else if x.kind = 2 then x.dst == 0 && x.car == 0 && floorV c x.src && decide (1 < x.src)
  else if x.kind = 3 then x.src == 0 && carV c x.car && floorV c x.dst
  else if x.kind = 4 then x.car == 0 && floorV c x.src && floorV c x.dst && x.src != x.dst
  else false
set_option maxHeartbeats 6400000 in
theorem isAsked (c : Cfg) (x : CallV) (w : World) : Calls Try.prog 100 #[c.val, x.val] w fun e w' => e = .returned (.bool (askV c x)) ∧ Off [] w w' := by
  have hof : Off [] w ((w.alloc (.cells c.cells 24)).alloc (.cells x.cells 38)) := ((Off.refl _ _).alloc _).alloc _
  have HB := Lib.hid (show Blk ((w.alloc (.cells c.cells 24)).alloc (.cells x.cells 38)) w.heap.size c.cells 24 from Blk.alloc (blk_new w c.cells 24) _)
  have HX := Lib.hid (show Blk ((w.alloc (.cells c.cells 24)).alloc (.cells x.cells 38)) (w.heap.size + 1) x.cells 38 from blk_new' _ _ _ _ (by simp))
  have c0 := HB.out.cell 0 (.int .i64 c.floors) rfl
  have x0 := HX.out.cell 0 (.int .i64 x.id) rfl
  have x1 := HX.out.cell 1 (.int .i64 x.kind) rfl
  have x2 := HX.out.cell 2 (.int .i64 x.src) rfl
  have x3 := HX.out.cell 3 (.int .i64 x.dst) rfl
  have x4 := HX.out.cell 4 (.int .i64 x.car) rfl
  have x5 := HX.out.cell 5 (.int .i64 x.state) rfl
  have x6 := HX.out.cell 6 (.int .i64 x.owner) rfl
  have x7 := HX.out.cell 7 (.int .i64 x.born) rfl
  by_cases k1 : x.kind = 1
  · have b1 : (x.kind == 1) = true := by rw [k1]; rfl
    have K1 := Lib.hid k1
    clear k1
    cases q0 : (x.dst == 0)
    · go_enter Try.func100, Try.ntmps100
      go_wp2_with (first
        | (refine wpList_box_big rfl 24 (.tmp 0) rfl c.val rfl c.cells rfl ?_)
        | (refine wpList_box_big rfl 38 (.tmp 1) rfl x.val rfl x.cells rfl ?_)
        | (refine wpList_load_big ?_ 24 (.tmp 2) rfl w.heap.size rfl 24 c.cells c.val rfl _ HB.out Try.underlying24 rfl infoC ?_; (focus (first | (simp [Region.wanted]; done) | (simp only [Region.wanted]; go_simp; done))))
        | (go_at_call 112; (with_reducible refine (isFloor c x.src _).mono ?_); rintro e w1 ⟨rfl, ho1⟩; replace hof := hof.trans ho1 (by simp); replace HB := Lib.hid (ho1.blk HB.out (by simp)); replace HX := Lib.hid (ho1.blk HX.out (by simp)); have c0 := HB.out.cell 0 (.int .i64 c.floors) rfl; have x0 := HX.out.cell 0 (.int .i64 x.id) rfl; have x1 := HX.out.cell 1 (.int .i64 x.kind) rfl; have x2 := HX.out.cell 2 (.int .i64 x.src) rfl; have x3 := HX.out.cell 3 (.int .i64 x.dst) rfl; have x4 := HX.out.cell 4 (.int .i64 x.car) rfl; have x5 := HX.out.cell 5 (.int .i64 x.state) rfl; have x6 := HX.out.cell 6 (.int .i64 x.owner) rfl; have x7 := HX.out.cell 7 (.int .i64 x.born) rfl)
        | (go_at_call 112; (with_reducible refine (isFloor c x.dst _).mono ?_); rintro e w1 ⟨rfl, ho1⟩; replace hof := hof.trans ho1 (by simp); replace HB := Lib.hid (ho1.blk HB.out (by simp)); replace HX := Lib.hid (ho1.blk HX.out (by simp)); have c0 := HB.out.cell 0 (.int .i64 c.floors) rfl; have x0 := HX.out.cell 0 (.int .i64 x.id) rfl; have x1 := HX.out.cell 1 (.int .i64 x.kind) rfl; have x2 := HX.out.cell 2 (.int .i64 x.src) rfl; have x3 := HX.out.cell 3 (.int .i64 x.dst) rfl; have x4 := HX.out.cell 4 (.int .i64 x.car) rfl; have x5 := HX.out.cell 5 (.int .i64 x.state) rfl; have x6 := HX.out.cell 6 (.int .i64 x.owner) rfl; have x7 := HX.out.cell 7 (.int .i64 x.born) rfl)
        | (go_at_call 48; (with_reducible refine (isCar c x.car _).mono ?_); rintro e w1 ⟨rfl, ho1⟩; replace hof := hof.trans ho1 (by simp); replace HB := Lib.hid (ho1.blk HB.out (by simp)); replace HX := Lib.hid (ho1.blk HX.out (by simp)); have c0 := HB.out.cell 0 (.int .i64 c.floors) rfl; have x0 := HX.out.cell 0 (.int .i64 x.id) rfl; have x1 := HX.out.cell 1 (.int .i64 x.kind) rfl; have x2 := HX.out.cell 2 (.int .i64 x.src) rfl; have x3 := HX.out.cell 3 (.int .i64 x.dst) rfl; have x4 := HX.out.cell 4 (.int .i64 x.car) rfl; have x5 := HX.out.cell 5 (.int .i64 x.state) rfl; have x6 := HX.out.cell 6 (.int .i64 x.owner) rfl; have x7 := HX.out.cell 7 (.int .i64 x.born) rfl))
      go_ret
      exact ⟨ret_b (by unfold askV; simp [K1.out, q0]), hof⟩
    cases q1 : (x.car == 0)
    · go_enter Try.func100, Try.ntmps100
      go_wp2_with (first
        | (refine wpList_box_big rfl 24 (.tmp 0) rfl c.val rfl c.cells rfl ?_)
        | (refine wpList_box_big rfl 38 (.tmp 1) rfl x.val rfl x.cells rfl ?_)
        | (refine wpList_load_big ?_ 24 (.tmp 2) rfl w.heap.size rfl 24 c.cells c.val rfl _ HB.out Try.underlying24 rfl infoC ?_; (focus (first | (simp [Region.wanted]; done) | (simp only [Region.wanted]; go_simp; done))))
        | (go_at_call 112; (with_reducible refine (isFloor c x.src _).mono ?_); rintro e w1 ⟨rfl, ho1⟩; replace hof := hof.trans ho1 (by simp); replace HB := Lib.hid (ho1.blk HB.out (by simp)); replace HX := Lib.hid (ho1.blk HX.out (by simp)); have c0 := HB.out.cell 0 (.int .i64 c.floors) rfl; have x0 := HX.out.cell 0 (.int .i64 x.id) rfl; have x1 := HX.out.cell 1 (.int .i64 x.kind) rfl; have x2 := HX.out.cell 2 (.int .i64 x.src) rfl; have x3 := HX.out.cell 3 (.int .i64 x.dst) rfl; have x4 := HX.out.cell 4 (.int .i64 x.car) rfl; have x5 := HX.out.cell 5 (.int .i64 x.state) rfl; have x6 := HX.out.cell 6 (.int .i64 x.owner) rfl; have x7 := HX.out.cell 7 (.int .i64 x.born) rfl)
        | (go_at_call 112; (with_reducible refine (isFloor c x.dst _).mono ?_); rintro e w1 ⟨rfl, ho1⟩; replace hof := hof.trans ho1 (by simp); replace HB := Lib.hid (ho1.blk HB.out (by simp)); replace HX := Lib.hid (ho1.blk HX.out (by simp)); have c0 := HB.out.cell 0 (.int .i64 c.floors) rfl; have x0 := HX.out.cell 0 (.int .i64 x.id) rfl; have x1 := HX.out.cell 1 (.int .i64 x.kind) rfl; have x2 := HX.out.cell 2 (.int .i64 x.src) rfl; have x3 := HX.out.cell 3 (.int .i64 x.dst) rfl; have x4 := HX.out.cell 4 (.int .i64 x.car) rfl; have x5 := HX.out.cell 5 (.int .i64 x.state) rfl; have x6 := HX.out.cell 6 (.int .i64 x.owner) rfl; have x7 := HX.out.cell 7 (.int .i64 x.born) rfl)
        | (go_at_call 48; (with_reducible refine (isCar c x.car _).mono ?_); rintro e w1 ⟨rfl, ho1⟩; replace hof := hof.trans ho1 (by simp); replace HB := Lib.hid (ho1.blk HB.out (by simp)); replace HX := Lib.hid (ho1.blk HX.out (by simp)); have c0 := HB.out.cell 0 (.int .i64 c.floors) rfl; have x0 := HX.out.cell 0 (.int .i64 x.id) rfl; have x1 := HX.out.cell 1 (.int .i64 x.kind) rfl; have x2 := HX.out.cell 2 (.int .i64 x.src) rfl; have x3 := HX.out.cell 3 (.int .i64 x.dst) rfl; have x4 := HX.out.cell 4 (.int .i64 x.car) rfl; have x5 := HX.out.cell 5 (.int .i64 x.state) rfl; have x6 := HX.out.cell 6 (.int .i64 x.owner) rfl; have x7 := HX.out.cell 7 (.int .i64 x.born) rfl))
      go_ret
      exact ⟨ret_b (by unfold askV; simp [K1.out, q0, q1]), hof⟩
    cases q2 : (floorV c x.src)
    · go_enter Try.func100, Try.ntmps100
      go_wp2_with (first
        | (refine wpList_box_big rfl 24 (.tmp 0) rfl c.val rfl c.cells rfl ?_)
        | (refine wpList_box_big rfl 38 (.tmp 1) rfl x.val rfl x.cells rfl ?_)
        | (refine wpList_load_big ?_ 24 (.tmp 2) rfl w.heap.size rfl 24 c.cells c.val rfl _ HB.out Try.underlying24 rfl infoC ?_; (focus (first | (simp [Region.wanted]; done) | (simp only [Region.wanted]; go_simp; done))))
        | (go_at_call 112; (with_reducible refine (isFloor c x.src _).mono ?_); rintro e w1 ⟨rfl, ho1⟩; replace hof := hof.trans ho1 (by simp); replace HB := Lib.hid (ho1.blk HB.out (by simp)); replace HX := Lib.hid (ho1.blk HX.out (by simp)); have c0 := HB.out.cell 0 (.int .i64 c.floors) rfl; have x0 := HX.out.cell 0 (.int .i64 x.id) rfl; have x1 := HX.out.cell 1 (.int .i64 x.kind) rfl; have x2 := HX.out.cell 2 (.int .i64 x.src) rfl; have x3 := HX.out.cell 3 (.int .i64 x.dst) rfl; have x4 := HX.out.cell 4 (.int .i64 x.car) rfl; have x5 := HX.out.cell 5 (.int .i64 x.state) rfl; have x6 := HX.out.cell 6 (.int .i64 x.owner) rfl; have x7 := HX.out.cell 7 (.int .i64 x.born) rfl)
        | (go_at_call 112; (with_reducible refine (isFloor c x.dst _).mono ?_); rintro e w1 ⟨rfl, ho1⟩; replace hof := hof.trans ho1 (by simp); replace HB := Lib.hid (ho1.blk HB.out (by simp)); replace HX := Lib.hid (ho1.blk HX.out (by simp)); have c0 := HB.out.cell 0 (.int .i64 c.floors) rfl; have x0 := HX.out.cell 0 (.int .i64 x.id) rfl; have x1 := HX.out.cell 1 (.int .i64 x.kind) rfl; have x2 := HX.out.cell 2 (.int .i64 x.src) rfl; have x3 := HX.out.cell 3 (.int .i64 x.dst) rfl; have x4 := HX.out.cell 4 (.int .i64 x.car) rfl; have x5 := HX.out.cell 5 (.int .i64 x.state) rfl; have x6 := HX.out.cell 6 (.int .i64 x.owner) rfl; have x7 := HX.out.cell 7 (.int .i64 x.born) rfl)
        | (go_at_call 48; (with_reducible refine (isCar c x.car _).mono ?_); rintro e w1 ⟨rfl, ho1⟩; replace hof := hof.trans ho1 (by simp); replace HB := Lib.hid (ho1.blk HB.out (by simp)); replace HX := Lib.hid (ho1.blk HX.out (by simp)); have c0 := HB.out.cell 0 (.int .i64 c.floors) rfl; have x0 := HX.out.cell 0 (.int .i64 x.id) rfl; have x1 := HX.out.cell 1 (.int .i64 x.kind) rfl; have x2 := HX.out.cell 2 (.int .i64 x.src) rfl; have x3 := HX.out.cell 3 (.int .i64 x.dst) rfl; have x4 := HX.out.cell 4 (.int .i64 x.car) rfl; have x5 := HX.out.cell 5 (.int .i64 x.state) rfl; have x6 := HX.out.cell 6 (.int .i64 x.owner) rfl; have x7 := HX.out.cell 7 (.int .i64 x.born) rfl))
      go_ret
      exact ⟨ret_b (by unfold askV; simp [K1.out, q0, q1, q2]), hof⟩
    cases q3 : (decide (x.src < c.floors))
    · go_enter Try.func100, Try.ntmps100
      go_wp2_with (first
        | (refine wpList_box_big rfl 24 (.tmp 0) rfl c.val rfl c.cells rfl ?_)
        | (refine wpList_box_big rfl 38 (.tmp 1) rfl x.val rfl x.cells rfl ?_)
        | (refine wpList_load_big ?_ 24 (.tmp 2) rfl w.heap.size rfl 24 c.cells c.val rfl _ HB.out Try.underlying24 rfl infoC ?_; (focus (first | (simp [Region.wanted]; done) | (simp only [Region.wanted]; go_simp; done))))
        | (go_at_call 112; (with_reducible refine (isFloor c x.src _).mono ?_); rintro e w1 ⟨rfl, ho1⟩; replace hof := hof.trans ho1 (by simp); replace HB := Lib.hid (ho1.blk HB.out (by simp)); replace HX := Lib.hid (ho1.blk HX.out (by simp)); have c0 := HB.out.cell 0 (.int .i64 c.floors) rfl; have x0 := HX.out.cell 0 (.int .i64 x.id) rfl; have x1 := HX.out.cell 1 (.int .i64 x.kind) rfl; have x2 := HX.out.cell 2 (.int .i64 x.src) rfl; have x3 := HX.out.cell 3 (.int .i64 x.dst) rfl; have x4 := HX.out.cell 4 (.int .i64 x.car) rfl; have x5 := HX.out.cell 5 (.int .i64 x.state) rfl; have x6 := HX.out.cell 6 (.int .i64 x.owner) rfl; have x7 := HX.out.cell 7 (.int .i64 x.born) rfl)
        | (go_at_call 112; (with_reducible refine (isFloor c x.dst _).mono ?_); rintro e w1 ⟨rfl, ho1⟩; replace hof := hof.trans ho1 (by simp); replace HB := Lib.hid (ho1.blk HB.out (by simp)); replace HX := Lib.hid (ho1.blk HX.out (by simp)); have c0 := HB.out.cell 0 (.int .i64 c.floors) rfl; have x0 := HX.out.cell 0 (.int .i64 x.id) rfl; have x1 := HX.out.cell 1 (.int .i64 x.kind) rfl; have x2 := HX.out.cell 2 (.int .i64 x.src) rfl; have x3 := HX.out.cell 3 (.int .i64 x.dst) rfl; have x4 := HX.out.cell 4 (.int .i64 x.car) rfl; have x5 := HX.out.cell 5 (.int .i64 x.state) rfl; have x6 := HX.out.cell 6 (.int .i64 x.owner) rfl; have x7 := HX.out.cell 7 (.int .i64 x.born) rfl)
        | (go_at_call 48; (with_reducible refine (isCar c x.car _).mono ?_); rintro e w1 ⟨rfl, ho1⟩; replace hof := hof.trans ho1 (by simp); replace HB := Lib.hid (ho1.blk HB.out (by simp)); replace HX := Lib.hid (ho1.blk HX.out (by simp)); have c0 := HB.out.cell 0 (.int .i64 c.floors) rfl; have x0 := HX.out.cell 0 (.int .i64 x.id) rfl; have x1 := HX.out.cell 1 (.int .i64 x.kind) rfl; have x2 := HX.out.cell 2 (.int .i64 x.src) rfl; have x3 := HX.out.cell 3 (.int .i64 x.dst) rfl; have x4 := HX.out.cell 4 (.int .i64 x.car) rfl; have x5 := HX.out.cell 5 (.int .i64 x.state) rfl; have x6 := HX.out.cell 6 (.int .i64 x.owner) rfl; have x7 := HX.out.cell 7 (.int .i64 x.born) rfl))
      go_ret
      exact ⟨ret_b (by unfold askV; simp [K1.out, q0, q1, q2, q3]), hof⟩
    go_enter Try.func100, Try.ntmps100
    go_wp2_with (first
      | (refine wpList_box_big rfl 24 (.tmp 0) rfl c.val rfl c.cells rfl ?_)
      | (refine wpList_box_big rfl 38 (.tmp 1) rfl x.val rfl x.cells rfl ?_)
      | (refine wpList_load_big ?_ 24 (.tmp 2) rfl w.heap.size rfl 24 c.cells c.val rfl _ HB.out Try.underlying24 rfl infoC ?_; (focus (first | (simp [Region.wanted]; done) | (simp only [Region.wanted]; go_simp; done))))
      | (go_at_call 112; (with_reducible refine (isFloor c x.src _).mono ?_); rintro e w1 ⟨rfl, ho1⟩; replace hof := hof.trans ho1 (by simp); replace HB := Lib.hid (ho1.blk HB.out (by simp)); replace HX := Lib.hid (ho1.blk HX.out (by simp)); have c0 := HB.out.cell 0 (.int .i64 c.floors) rfl; have x0 := HX.out.cell 0 (.int .i64 x.id) rfl; have x1 := HX.out.cell 1 (.int .i64 x.kind) rfl; have x2 := HX.out.cell 2 (.int .i64 x.src) rfl; have x3 := HX.out.cell 3 (.int .i64 x.dst) rfl; have x4 := HX.out.cell 4 (.int .i64 x.car) rfl; have x5 := HX.out.cell 5 (.int .i64 x.state) rfl; have x6 := HX.out.cell 6 (.int .i64 x.owner) rfl; have x7 := HX.out.cell 7 (.int .i64 x.born) rfl)
      | (go_at_call 112; (with_reducible refine (isFloor c x.dst _).mono ?_); rintro e w1 ⟨rfl, ho1⟩; replace hof := hof.trans ho1 (by simp); replace HB := Lib.hid (ho1.blk HB.out (by simp)); replace HX := Lib.hid (ho1.blk HX.out (by simp)); have c0 := HB.out.cell 0 (.int .i64 c.floors) rfl; have x0 := HX.out.cell 0 (.int .i64 x.id) rfl; have x1 := HX.out.cell 1 (.int .i64 x.kind) rfl; have x2 := HX.out.cell 2 (.int .i64 x.src) rfl; have x3 := HX.out.cell 3 (.int .i64 x.dst) rfl; have x4 := HX.out.cell 4 (.int .i64 x.car) rfl; have x5 := HX.out.cell 5 (.int .i64 x.state) rfl; have x6 := HX.out.cell 6 (.int .i64 x.owner) rfl; have x7 := HX.out.cell 7 (.int .i64 x.born) rfl)
      | (go_at_call 48; (with_reducible refine (isCar c x.car _).mono ?_); rintro e w1 ⟨rfl, ho1⟩; replace hof := hof.trans ho1 (by simp); replace HB := Lib.hid (ho1.blk HB.out (by simp)); replace HX := Lib.hid (ho1.blk HX.out (by simp)); have c0 := HB.out.cell 0 (.int .i64 c.floors) rfl; have x0 := HX.out.cell 0 (.int .i64 x.id) rfl; have x1 := HX.out.cell 1 (.int .i64 x.kind) rfl; have x2 := HX.out.cell 2 (.int .i64 x.src) rfl; have x3 := HX.out.cell 3 (.int .i64 x.dst) rfl; have x4 := HX.out.cell 4 (.int .i64 x.car) rfl; have x5 := HX.out.cell 5 (.int .i64 x.state) rfl; have x6 := HX.out.cell 6 (.int .i64 x.owner) rfl; have x7 := HX.out.cell 7 (.int .i64 x.born) rfl))
    go_ret
    exact ⟨ret_b (by unfold askV; simp [K1.out, q0, q1, q2, q3]), hof⟩
  have b1 : (x.kind == 1) = false := by rw [beq_eq_false_iff_ne]; exact k1
  by_cases k2 : x.kind = 2
  · have b2 : (x.kind == 2) = true := by rw [k2]; rfl
    have K2 := Lib.hid k2
    clear k2
    have B1 := Lib.hid k1
    clear k1
    cases q0 : (x.dst == 0)
    · go_enter Try.func100, Try.ntmps100
      go_wp2_with (first
        | (refine wpList_box_big rfl 24 (.tmp 0) rfl c.val rfl c.cells rfl ?_)
        | (refine wpList_box_big rfl 38 (.tmp 1) rfl x.val rfl x.cells rfl ?_)
        | (refine wpList_load_big ?_ 24 (.tmp 2) rfl w.heap.size rfl 24 c.cells c.val rfl _ HB.out Try.underlying24 rfl infoC ?_; (focus (first | (simp [Region.wanted]; done) | (simp only [Region.wanted]; go_simp; done))))
        | (go_at_call 112; (with_reducible refine (isFloor c x.src _).mono ?_); rintro e w1 ⟨rfl, ho1⟩; replace hof := hof.trans ho1 (by simp); replace HB := Lib.hid (ho1.blk HB.out (by simp)); replace HX := Lib.hid (ho1.blk HX.out (by simp)); have c0 := HB.out.cell 0 (.int .i64 c.floors) rfl; have x0 := HX.out.cell 0 (.int .i64 x.id) rfl; have x1 := HX.out.cell 1 (.int .i64 x.kind) rfl; have x2 := HX.out.cell 2 (.int .i64 x.src) rfl; have x3 := HX.out.cell 3 (.int .i64 x.dst) rfl; have x4 := HX.out.cell 4 (.int .i64 x.car) rfl; have x5 := HX.out.cell 5 (.int .i64 x.state) rfl; have x6 := HX.out.cell 6 (.int .i64 x.owner) rfl; have x7 := HX.out.cell 7 (.int .i64 x.born) rfl)
        | (go_at_call 112; (with_reducible refine (isFloor c x.dst _).mono ?_); rintro e w1 ⟨rfl, ho1⟩; replace hof := hof.trans ho1 (by simp); replace HB := Lib.hid (ho1.blk HB.out (by simp)); replace HX := Lib.hid (ho1.blk HX.out (by simp)); have c0 := HB.out.cell 0 (.int .i64 c.floors) rfl; have x0 := HX.out.cell 0 (.int .i64 x.id) rfl; have x1 := HX.out.cell 1 (.int .i64 x.kind) rfl; have x2 := HX.out.cell 2 (.int .i64 x.src) rfl; have x3 := HX.out.cell 3 (.int .i64 x.dst) rfl; have x4 := HX.out.cell 4 (.int .i64 x.car) rfl; have x5 := HX.out.cell 5 (.int .i64 x.state) rfl; have x6 := HX.out.cell 6 (.int .i64 x.owner) rfl; have x7 := HX.out.cell 7 (.int .i64 x.born) rfl)
        | (go_at_call 48; (with_reducible refine (isCar c x.car _).mono ?_); rintro e w1 ⟨rfl, ho1⟩; replace hof := hof.trans ho1 (by simp); replace HB := Lib.hid (ho1.blk HB.out (by simp)); replace HX := Lib.hid (ho1.blk HX.out (by simp)); have c0 := HB.out.cell 0 (.int .i64 c.floors) rfl; have x0 := HX.out.cell 0 (.int .i64 x.id) rfl; have x1 := HX.out.cell 1 (.int .i64 x.kind) rfl; have x2 := HX.out.cell 2 (.int .i64 x.src) rfl; have x3 := HX.out.cell 3 (.int .i64 x.dst) rfl; have x4 := HX.out.cell 4 (.int .i64 x.car) rfl; have x5 := HX.out.cell 5 (.int .i64 x.state) rfl; have x6 := HX.out.cell 6 (.int .i64 x.owner) rfl; have x7 := HX.out.cell 7 (.int .i64 x.born) rfl))
      go_ret
      exact ⟨ret_b (by unfold askV; simp [B1.out, K2.out, q0]), hof⟩
    cases q1 : (x.car == 0)
    · go_enter Try.func100, Try.ntmps100
      go_wp2_with (first
        | (refine wpList_box_big rfl 24 (.tmp 0) rfl c.val rfl c.cells rfl ?_)
        | (refine wpList_box_big rfl 38 (.tmp 1) rfl x.val rfl x.cells rfl ?_)
        | (refine wpList_load_big ?_ 24 (.tmp 2) rfl w.heap.size rfl 24 c.cells c.val rfl _ HB.out Try.underlying24 rfl infoC ?_; (focus (first | (simp [Region.wanted]; done) | (simp only [Region.wanted]; go_simp; done))))
        | (go_at_call 112; (with_reducible refine (isFloor c x.src _).mono ?_); rintro e w1 ⟨rfl, ho1⟩; replace hof := hof.trans ho1 (by simp); replace HB := Lib.hid (ho1.blk HB.out (by simp)); replace HX := Lib.hid (ho1.blk HX.out (by simp)); have c0 := HB.out.cell 0 (.int .i64 c.floors) rfl; have x0 := HX.out.cell 0 (.int .i64 x.id) rfl; have x1 := HX.out.cell 1 (.int .i64 x.kind) rfl; have x2 := HX.out.cell 2 (.int .i64 x.src) rfl; have x3 := HX.out.cell 3 (.int .i64 x.dst) rfl; have x4 := HX.out.cell 4 (.int .i64 x.car) rfl; have x5 := HX.out.cell 5 (.int .i64 x.state) rfl; have x6 := HX.out.cell 6 (.int .i64 x.owner) rfl; have x7 := HX.out.cell 7 (.int .i64 x.born) rfl)
        | (go_at_call 112; (with_reducible refine (isFloor c x.dst _).mono ?_); rintro e w1 ⟨rfl, ho1⟩; replace hof := hof.trans ho1 (by simp); replace HB := Lib.hid (ho1.blk HB.out (by simp)); replace HX := Lib.hid (ho1.blk HX.out (by simp)); have c0 := HB.out.cell 0 (.int .i64 c.floors) rfl; have x0 := HX.out.cell 0 (.int .i64 x.id) rfl; have x1 := HX.out.cell 1 (.int .i64 x.kind) rfl; have x2 := HX.out.cell 2 (.int .i64 x.src) rfl; have x3 := HX.out.cell 3 (.int .i64 x.dst) rfl; have x4 := HX.out.cell 4 (.int .i64 x.car) rfl; have x5 := HX.out.cell 5 (.int .i64 x.state) rfl; have x6 := HX.out.cell 6 (.int .i64 x.owner) rfl; have x7 := HX.out.cell 7 (.int .i64 x.born) rfl)
        | (go_at_call 48; (with_reducible refine (isCar c x.car _).mono ?_); rintro e w1 ⟨rfl, ho1⟩; replace hof := hof.trans ho1 (by simp); replace HB := Lib.hid (ho1.blk HB.out (by simp)); replace HX := Lib.hid (ho1.blk HX.out (by simp)); have c0 := HB.out.cell 0 (.int .i64 c.floors) rfl; have x0 := HX.out.cell 0 (.int .i64 x.id) rfl; have x1 := HX.out.cell 1 (.int .i64 x.kind) rfl; have x2 := HX.out.cell 2 (.int .i64 x.src) rfl; have x3 := HX.out.cell 3 (.int .i64 x.dst) rfl; have x4 := HX.out.cell 4 (.int .i64 x.car) rfl; have x5 := HX.out.cell 5 (.int .i64 x.state) rfl; have x6 := HX.out.cell 6 (.int .i64 x.owner) rfl; have x7 := HX.out.cell 7 (.int .i64 x.born) rfl))
      go_ret
      exact ⟨ret_b (by unfold askV; simp [B1.out, K2.out, q0, q1]), hof⟩
    cases q2 : (floorV c x.src)
    · go_enter Try.func100, Try.ntmps100
      go_wp2_with (first
        | (refine wpList_box_big rfl 24 (.tmp 0) rfl c.val rfl c.cells rfl ?_)
        | (refine wpList_box_big rfl 38 (.tmp 1) rfl x.val rfl x.cells rfl ?_)
        | (refine wpList_load_big ?_ 24 (.tmp 2) rfl w.heap.size rfl 24 c.cells c.val rfl _ HB.out Try.underlying24 rfl infoC ?_; (focus (first | (simp [Region.wanted]; done) | (simp only [Region.wanted]; go_simp; done))))
        | (go_at_call 112; (with_reducible refine (isFloor c x.src _).mono ?_); rintro e w1 ⟨rfl, ho1⟩; replace hof := hof.trans ho1 (by simp); replace HB := Lib.hid (ho1.blk HB.out (by simp)); replace HX := Lib.hid (ho1.blk HX.out (by simp)); have c0 := HB.out.cell 0 (.int .i64 c.floors) rfl; have x0 := HX.out.cell 0 (.int .i64 x.id) rfl; have x1 := HX.out.cell 1 (.int .i64 x.kind) rfl; have x2 := HX.out.cell 2 (.int .i64 x.src) rfl; have x3 := HX.out.cell 3 (.int .i64 x.dst) rfl; have x4 := HX.out.cell 4 (.int .i64 x.car) rfl; have x5 := HX.out.cell 5 (.int .i64 x.state) rfl; have x6 := HX.out.cell 6 (.int .i64 x.owner) rfl; have x7 := HX.out.cell 7 (.int .i64 x.born) rfl)
        | (go_at_call 112; (with_reducible refine (isFloor c x.dst _).mono ?_); rintro e w1 ⟨rfl, ho1⟩; replace hof := hof.trans ho1 (by simp); replace HB := Lib.hid (ho1.blk HB.out (by simp)); replace HX := Lib.hid (ho1.blk HX.out (by simp)); have c0 := HB.out.cell 0 (.int .i64 c.floors) rfl; have x0 := HX.out.cell 0 (.int .i64 x.id) rfl; have x1 := HX.out.cell 1 (.int .i64 x.kind) rfl; have x2 := HX.out.cell 2 (.int .i64 x.src) rfl; have x3 := HX.out.cell 3 (.int .i64 x.dst) rfl; have x4 := HX.out.cell 4 (.int .i64 x.car) rfl; have x5 := HX.out.cell 5 (.int .i64 x.state) rfl; have x6 := HX.out.cell 6 (.int .i64 x.owner) rfl; have x7 := HX.out.cell 7 (.int .i64 x.born) rfl)
        | (go_at_call 48; (with_reducible refine (isCar c x.car _).mono ?_); rintro e w1 ⟨rfl, ho1⟩; replace hof := hof.trans ho1 (by simp); replace HB := Lib.hid (ho1.blk HB.out (by simp)); replace HX := Lib.hid (ho1.blk HX.out (by simp)); have c0 := HB.out.cell 0 (.int .i64 c.floors) rfl; have x0 := HX.out.cell 0 (.int .i64 x.id) rfl; have x1 := HX.out.cell 1 (.int .i64 x.kind) rfl; have x2 := HX.out.cell 2 (.int .i64 x.src) rfl; have x3 := HX.out.cell 3 (.int .i64 x.dst) rfl; have x4 := HX.out.cell 4 (.int .i64 x.car) rfl; have x5 := HX.out.cell 5 (.int .i64 x.state) rfl; have x6 := HX.out.cell 6 (.int .i64 x.owner) rfl; have x7 := HX.out.cell 7 (.int .i64 x.born) rfl))
      go_ret
      exact ⟨ret_b (by unfold askV; simp [B1.out, K2.out, q0, q1, q2]), hof⟩
    cases q3 : (decide (1 < x.src))
    · go_enter Try.func100, Try.ntmps100
      go_wp2_with (first
        | (refine wpList_box_big rfl 24 (.tmp 0) rfl c.val rfl c.cells rfl ?_)
        | (refine wpList_box_big rfl 38 (.tmp 1) rfl x.val rfl x.cells rfl ?_)
        | (refine wpList_load_big ?_ 24 (.tmp 2) rfl w.heap.size rfl 24 c.cells c.val rfl _ HB.out Try.underlying24 rfl infoC ?_; (focus (first | (simp [Region.wanted]; done) | (simp only [Region.wanted]; go_simp; done))))
        | (go_at_call 112; (with_reducible refine (isFloor c x.src _).mono ?_); rintro e w1 ⟨rfl, ho1⟩; replace hof := hof.trans ho1 (by simp); replace HB := Lib.hid (ho1.blk HB.out (by simp)); replace HX := Lib.hid (ho1.blk HX.out (by simp)); have c0 := HB.out.cell 0 (.int .i64 c.floors) rfl; have x0 := HX.out.cell 0 (.int .i64 x.id) rfl; have x1 := HX.out.cell 1 (.int .i64 x.kind) rfl; have x2 := HX.out.cell 2 (.int .i64 x.src) rfl; have x3 := HX.out.cell 3 (.int .i64 x.dst) rfl; have x4 := HX.out.cell 4 (.int .i64 x.car) rfl; have x5 := HX.out.cell 5 (.int .i64 x.state) rfl; have x6 := HX.out.cell 6 (.int .i64 x.owner) rfl; have x7 := HX.out.cell 7 (.int .i64 x.born) rfl)
        | (go_at_call 112; (with_reducible refine (isFloor c x.dst _).mono ?_); rintro e w1 ⟨rfl, ho1⟩; replace hof := hof.trans ho1 (by simp); replace HB := Lib.hid (ho1.blk HB.out (by simp)); replace HX := Lib.hid (ho1.blk HX.out (by simp)); have c0 := HB.out.cell 0 (.int .i64 c.floors) rfl; have x0 := HX.out.cell 0 (.int .i64 x.id) rfl; have x1 := HX.out.cell 1 (.int .i64 x.kind) rfl; have x2 := HX.out.cell 2 (.int .i64 x.src) rfl; have x3 := HX.out.cell 3 (.int .i64 x.dst) rfl; have x4 := HX.out.cell 4 (.int .i64 x.car) rfl; have x5 := HX.out.cell 5 (.int .i64 x.state) rfl; have x6 := HX.out.cell 6 (.int .i64 x.owner) rfl; have x7 := HX.out.cell 7 (.int .i64 x.born) rfl)
        | (go_at_call 48; (with_reducible refine (isCar c x.car _).mono ?_); rintro e w1 ⟨rfl, ho1⟩; replace hof := hof.trans ho1 (by simp); replace HB := Lib.hid (ho1.blk HB.out (by simp)); replace HX := Lib.hid (ho1.blk HX.out (by simp)); have c0 := HB.out.cell 0 (.int .i64 c.floors) rfl; have x0 := HX.out.cell 0 (.int .i64 x.id) rfl; have x1 := HX.out.cell 1 (.int .i64 x.kind) rfl; have x2 := HX.out.cell 2 (.int .i64 x.src) rfl; have x3 := HX.out.cell 3 (.int .i64 x.dst) rfl; have x4 := HX.out.cell 4 (.int .i64 x.car) rfl; have x5 := HX.out.cell 5 (.int .i64 x.state) rfl; have x6 := HX.out.cell 6 (.int .i64 x.owner) rfl; have x7 := HX.out.cell 7 (.int .i64 x.born) rfl))
      go_ret
      exact ⟨ret_b (by unfold askV; simp [B1.out, K2.out, q0, q1, q2, q3]), hof⟩
    go_enter Try.func100, Try.ntmps100
    go_wp2_with (first
      | (refine wpList_box_big rfl 24 (.tmp 0) rfl c.val rfl c.cells rfl ?_)
      | (refine wpList_box_big rfl 38 (.tmp 1) rfl x.val rfl x.cells rfl ?_)
      | (refine wpList_load_big ?_ 24 (.tmp 2) rfl w.heap.size rfl 24 c.cells c.val rfl _ HB.out Try.underlying24 rfl infoC ?_; (focus (first | (simp [Region.wanted]; done) | (simp only [Region.wanted]; go_simp; done))))
      | (go_at_call 112; (with_reducible refine (isFloor c x.src _).mono ?_); rintro e w1 ⟨rfl, ho1⟩; replace hof := hof.trans ho1 (by simp); replace HB := Lib.hid (ho1.blk HB.out (by simp)); replace HX := Lib.hid (ho1.blk HX.out (by simp)); have c0 := HB.out.cell 0 (.int .i64 c.floors) rfl; have x0 := HX.out.cell 0 (.int .i64 x.id) rfl; have x1 := HX.out.cell 1 (.int .i64 x.kind) rfl; have x2 := HX.out.cell 2 (.int .i64 x.src) rfl; have x3 := HX.out.cell 3 (.int .i64 x.dst) rfl; have x4 := HX.out.cell 4 (.int .i64 x.car) rfl; have x5 := HX.out.cell 5 (.int .i64 x.state) rfl; have x6 := HX.out.cell 6 (.int .i64 x.owner) rfl; have x7 := HX.out.cell 7 (.int .i64 x.born) rfl)
      | (go_at_call 112; (with_reducible refine (isFloor c x.dst _).mono ?_); rintro e w1 ⟨rfl, ho1⟩; replace hof := hof.trans ho1 (by simp); replace HB := Lib.hid (ho1.blk HB.out (by simp)); replace HX := Lib.hid (ho1.blk HX.out (by simp)); have c0 := HB.out.cell 0 (.int .i64 c.floors) rfl; have x0 := HX.out.cell 0 (.int .i64 x.id) rfl; have x1 := HX.out.cell 1 (.int .i64 x.kind) rfl; have x2 := HX.out.cell 2 (.int .i64 x.src) rfl; have x3 := HX.out.cell 3 (.int .i64 x.dst) rfl; have x4 := HX.out.cell 4 (.int .i64 x.car) rfl; have x5 := HX.out.cell 5 (.int .i64 x.state) rfl; have x6 := HX.out.cell 6 (.int .i64 x.owner) rfl; have x7 := HX.out.cell 7 (.int .i64 x.born) rfl)
      | (go_at_call 48; (with_reducible refine (isCar c x.car _).mono ?_); rintro e w1 ⟨rfl, ho1⟩; replace hof := hof.trans ho1 (by simp); replace HB := Lib.hid (ho1.blk HB.out (by simp)); replace HX := Lib.hid (ho1.blk HX.out (by simp)); have c0 := HB.out.cell 0 (.int .i64 c.floors) rfl; have x0 := HX.out.cell 0 (.int .i64 x.id) rfl; have x1 := HX.out.cell 1 (.int .i64 x.kind) rfl; have x2 := HX.out.cell 2 (.int .i64 x.src) rfl; have x3 := HX.out.cell 3 (.int .i64 x.dst) rfl; have x4 := HX.out.cell 4 (.int .i64 x.car) rfl; have x5 := HX.out.cell 5 (.int .i64 x.state) rfl; have x6 := HX.out.cell 6 (.int .i64 x.owner) rfl; have x7 := HX.out.cell 7 (.int .i64 x.born) rfl))
    go_ret
    exact ⟨ret_b (by unfold askV; simp [B1.out, K2.out, q0, q1, q2, q3]), hof⟩
  have b2 : (x.kind == 2) = false := by rw [beq_eq_false_iff_ne]; exact k2
  by_cases k3 : x.kind = 3
  · have b3 : (x.kind == 3) = true := by rw [k3]; rfl
    have K3 := Lib.hid k3
    clear k3
    have B1 := Lib.hid k1
    clear k1
    have B2 := Lib.hid k2
    clear k2
    cases q0 : (x.src == 0)
    · go_enter Try.func100, Try.ntmps100
      go_wp2_with (first
        | (refine wpList_box_big rfl 24 (.tmp 0) rfl c.val rfl c.cells rfl ?_)
        | (refine wpList_box_big rfl 38 (.tmp 1) rfl x.val rfl x.cells rfl ?_)
        | (refine wpList_load_big ?_ 24 (.tmp 2) rfl w.heap.size rfl 24 c.cells c.val rfl _ HB.out Try.underlying24 rfl infoC ?_; (focus (first | (simp [Region.wanted]; done) | (simp only [Region.wanted]; go_simp; done))))
        | (go_at_call 112; (with_reducible refine (isFloor c x.src _).mono ?_); rintro e w1 ⟨rfl, ho1⟩; replace hof := hof.trans ho1 (by simp); replace HB := Lib.hid (ho1.blk HB.out (by simp)); replace HX := Lib.hid (ho1.blk HX.out (by simp)); have c0 := HB.out.cell 0 (.int .i64 c.floors) rfl; have x0 := HX.out.cell 0 (.int .i64 x.id) rfl; have x1 := HX.out.cell 1 (.int .i64 x.kind) rfl; have x2 := HX.out.cell 2 (.int .i64 x.src) rfl; have x3 := HX.out.cell 3 (.int .i64 x.dst) rfl; have x4 := HX.out.cell 4 (.int .i64 x.car) rfl; have x5 := HX.out.cell 5 (.int .i64 x.state) rfl; have x6 := HX.out.cell 6 (.int .i64 x.owner) rfl; have x7 := HX.out.cell 7 (.int .i64 x.born) rfl)
        | (go_at_call 112; (with_reducible refine (isFloor c x.dst _).mono ?_); rintro e w1 ⟨rfl, ho1⟩; replace hof := hof.trans ho1 (by simp); replace HB := Lib.hid (ho1.blk HB.out (by simp)); replace HX := Lib.hid (ho1.blk HX.out (by simp)); have c0 := HB.out.cell 0 (.int .i64 c.floors) rfl; have x0 := HX.out.cell 0 (.int .i64 x.id) rfl; have x1 := HX.out.cell 1 (.int .i64 x.kind) rfl; have x2 := HX.out.cell 2 (.int .i64 x.src) rfl; have x3 := HX.out.cell 3 (.int .i64 x.dst) rfl; have x4 := HX.out.cell 4 (.int .i64 x.car) rfl; have x5 := HX.out.cell 5 (.int .i64 x.state) rfl; have x6 := HX.out.cell 6 (.int .i64 x.owner) rfl; have x7 := HX.out.cell 7 (.int .i64 x.born) rfl)
        | (go_at_call 48; (with_reducible refine (isCar c x.car _).mono ?_); rintro e w1 ⟨rfl, ho1⟩; replace hof := hof.trans ho1 (by simp); replace HB := Lib.hid (ho1.blk HB.out (by simp)); replace HX := Lib.hid (ho1.blk HX.out (by simp)); have c0 := HB.out.cell 0 (.int .i64 c.floors) rfl; have x0 := HX.out.cell 0 (.int .i64 x.id) rfl; have x1 := HX.out.cell 1 (.int .i64 x.kind) rfl; have x2 := HX.out.cell 2 (.int .i64 x.src) rfl; have x3 := HX.out.cell 3 (.int .i64 x.dst) rfl; have x4 := HX.out.cell 4 (.int .i64 x.car) rfl; have x5 := HX.out.cell 5 (.int .i64 x.state) rfl; have x6 := HX.out.cell 6 (.int .i64 x.owner) rfl; have x7 := HX.out.cell 7 (.int .i64 x.born) rfl))
      go_ret
      exact ⟨ret_b (by unfold askV; simp [B1.out, B2.out, K3.out, q0]), hof⟩
    cases q1 : (carV c x.car)
    · go_enter Try.func100, Try.ntmps100
      go_wp2_with (first
        | (refine wpList_box_big rfl 24 (.tmp 0) rfl c.val rfl c.cells rfl ?_)
        | (refine wpList_box_big rfl 38 (.tmp 1) rfl x.val rfl x.cells rfl ?_)
        | (refine wpList_load_big ?_ 24 (.tmp 2) rfl w.heap.size rfl 24 c.cells c.val rfl _ HB.out Try.underlying24 rfl infoC ?_; (focus (first | (simp [Region.wanted]; done) | (simp only [Region.wanted]; go_simp; done))))
        | (go_at_call 112; (with_reducible refine (isFloor c x.src _).mono ?_); rintro e w1 ⟨rfl, ho1⟩; replace hof := hof.trans ho1 (by simp); replace HB := Lib.hid (ho1.blk HB.out (by simp)); replace HX := Lib.hid (ho1.blk HX.out (by simp)); have c0 := HB.out.cell 0 (.int .i64 c.floors) rfl; have x0 := HX.out.cell 0 (.int .i64 x.id) rfl; have x1 := HX.out.cell 1 (.int .i64 x.kind) rfl; have x2 := HX.out.cell 2 (.int .i64 x.src) rfl; have x3 := HX.out.cell 3 (.int .i64 x.dst) rfl; have x4 := HX.out.cell 4 (.int .i64 x.car) rfl; have x5 := HX.out.cell 5 (.int .i64 x.state) rfl; have x6 := HX.out.cell 6 (.int .i64 x.owner) rfl; have x7 := HX.out.cell 7 (.int .i64 x.born) rfl)
        | (go_at_call 112; (with_reducible refine (isFloor c x.dst _).mono ?_); rintro e w1 ⟨rfl, ho1⟩; replace hof := hof.trans ho1 (by simp); replace HB := Lib.hid (ho1.blk HB.out (by simp)); replace HX := Lib.hid (ho1.blk HX.out (by simp)); have c0 := HB.out.cell 0 (.int .i64 c.floors) rfl; have x0 := HX.out.cell 0 (.int .i64 x.id) rfl; have x1 := HX.out.cell 1 (.int .i64 x.kind) rfl; have x2 := HX.out.cell 2 (.int .i64 x.src) rfl; have x3 := HX.out.cell 3 (.int .i64 x.dst) rfl; have x4 := HX.out.cell 4 (.int .i64 x.car) rfl; have x5 := HX.out.cell 5 (.int .i64 x.state) rfl; have x6 := HX.out.cell 6 (.int .i64 x.owner) rfl; have x7 := HX.out.cell 7 (.int .i64 x.born) rfl)
        | (go_at_call 48; (with_reducible refine (isCar c x.car _).mono ?_); rintro e w1 ⟨rfl, ho1⟩; replace hof := hof.trans ho1 (by simp); replace HB := Lib.hid (ho1.blk HB.out (by simp)); replace HX := Lib.hid (ho1.blk HX.out (by simp)); have c0 := HB.out.cell 0 (.int .i64 c.floors) rfl; have x0 := HX.out.cell 0 (.int .i64 x.id) rfl; have x1 := HX.out.cell 1 (.int .i64 x.kind) rfl; have x2 := HX.out.cell 2 (.int .i64 x.src) rfl; have x3 := HX.out.cell 3 (.int .i64 x.dst) rfl; have x4 := HX.out.cell 4 (.int .i64 x.car) rfl; have x5 := HX.out.cell 5 (.int .i64 x.state) rfl; have x6 := HX.out.cell 6 (.int .i64 x.owner) rfl; have x7 := HX.out.cell 7 (.int .i64 x.born) rfl))
      go_ret
      exact ⟨ret_b (by unfold askV; simp [B1.out, B2.out, K3.out, q0, q1]), hof⟩
    cases q2 : (floorV c x.dst)
    · go_enter Try.func100, Try.ntmps100
      go_wp2_with (first
        | (refine wpList_box_big rfl 24 (.tmp 0) rfl c.val rfl c.cells rfl ?_)
        | (refine wpList_box_big rfl 38 (.tmp 1) rfl x.val rfl x.cells rfl ?_)
        | (refine wpList_load_big ?_ 24 (.tmp 2) rfl w.heap.size rfl 24 c.cells c.val rfl _ HB.out Try.underlying24 rfl infoC ?_; (focus (first | (simp [Region.wanted]; done) | (simp only [Region.wanted]; go_simp; done))))
        | (go_at_call 112; (with_reducible refine (isFloor c x.src _).mono ?_); rintro e w1 ⟨rfl, ho1⟩; replace hof := hof.trans ho1 (by simp); replace HB := Lib.hid (ho1.blk HB.out (by simp)); replace HX := Lib.hid (ho1.blk HX.out (by simp)); have c0 := HB.out.cell 0 (.int .i64 c.floors) rfl; have x0 := HX.out.cell 0 (.int .i64 x.id) rfl; have x1 := HX.out.cell 1 (.int .i64 x.kind) rfl; have x2 := HX.out.cell 2 (.int .i64 x.src) rfl; have x3 := HX.out.cell 3 (.int .i64 x.dst) rfl; have x4 := HX.out.cell 4 (.int .i64 x.car) rfl; have x5 := HX.out.cell 5 (.int .i64 x.state) rfl; have x6 := HX.out.cell 6 (.int .i64 x.owner) rfl; have x7 := HX.out.cell 7 (.int .i64 x.born) rfl)
        | (go_at_call 112; (with_reducible refine (isFloor c x.dst _).mono ?_); rintro e w1 ⟨rfl, ho1⟩; replace hof := hof.trans ho1 (by simp); replace HB := Lib.hid (ho1.blk HB.out (by simp)); replace HX := Lib.hid (ho1.blk HX.out (by simp)); have c0 := HB.out.cell 0 (.int .i64 c.floors) rfl; have x0 := HX.out.cell 0 (.int .i64 x.id) rfl; have x1 := HX.out.cell 1 (.int .i64 x.kind) rfl; have x2 := HX.out.cell 2 (.int .i64 x.src) rfl; have x3 := HX.out.cell 3 (.int .i64 x.dst) rfl; have x4 := HX.out.cell 4 (.int .i64 x.car) rfl; have x5 := HX.out.cell 5 (.int .i64 x.state) rfl; have x6 := HX.out.cell 6 (.int .i64 x.owner) rfl; have x7 := HX.out.cell 7 (.int .i64 x.born) rfl)
        | (go_at_call 48; (with_reducible refine (isCar c x.car _).mono ?_); rintro e w1 ⟨rfl, ho1⟩; replace hof := hof.trans ho1 (by simp); replace HB := Lib.hid (ho1.blk HB.out (by simp)); replace HX := Lib.hid (ho1.blk HX.out (by simp)); have c0 := HB.out.cell 0 (.int .i64 c.floors) rfl; have x0 := HX.out.cell 0 (.int .i64 x.id) rfl; have x1 := HX.out.cell 1 (.int .i64 x.kind) rfl; have x2 := HX.out.cell 2 (.int .i64 x.src) rfl; have x3 := HX.out.cell 3 (.int .i64 x.dst) rfl; have x4 := HX.out.cell 4 (.int .i64 x.car) rfl; have x5 := HX.out.cell 5 (.int .i64 x.state) rfl; have x6 := HX.out.cell 6 (.int .i64 x.owner) rfl; have x7 := HX.out.cell 7 (.int .i64 x.born) rfl))
      go_ret
      exact ⟨ret_b (by unfold askV; simp [B1.out, B2.out, K3.out, q0, q1, q2]), hof⟩
    go_enter Try.func100, Try.ntmps100
    go_wp2_with (first
      | (refine wpList_box_big rfl 24 (.tmp 0) rfl c.val rfl c.cells rfl ?_)
      | (refine wpList_box_big rfl 38 (.tmp 1) rfl x.val rfl x.cells rfl ?_)
      | (refine wpList_load_big ?_ 24 (.tmp 2) rfl w.heap.size rfl 24 c.cells c.val rfl _ HB.out Try.underlying24 rfl infoC ?_; (focus (first | (simp [Region.wanted]; done) | (simp only [Region.wanted]; go_simp; done))))
      | (go_at_call 112; (with_reducible refine (isFloor c x.src _).mono ?_); rintro e w1 ⟨rfl, ho1⟩; replace hof := hof.trans ho1 (by simp); replace HB := Lib.hid (ho1.blk HB.out (by simp)); replace HX := Lib.hid (ho1.blk HX.out (by simp)); have c0 := HB.out.cell 0 (.int .i64 c.floors) rfl; have x0 := HX.out.cell 0 (.int .i64 x.id) rfl; have x1 := HX.out.cell 1 (.int .i64 x.kind) rfl; have x2 := HX.out.cell 2 (.int .i64 x.src) rfl; have x3 := HX.out.cell 3 (.int .i64 x.dst) rfl; have x4 := HX.out.cell 4 (.int .i64 x.car) rfl; have x5 := HX.out.cell 5 (.int .i64 x.state) rfl; have x6 := HX.out.cell 6 (.int .i64 x.owner) rfl; have x7 := HX.out.cell 7 (.int .i64 x.born) rfl)
      | (go_at_call 112; (with_reducible refine (isFloor c x.dst _).mono ?_); rintro e w1 ⟨rfl, ho1⟩; replace hof := hof.trans ho1 (by simp); replace HB := Lib.hid (ho1.blk HB.out (by simp)); replace HX := Lib.hid (ho1.blk HX.out (by simp)); have c0 := HB.out.cell 0 (.int .i64 c.floors) rfl; have x0 := HX.out.cell 0 (.int .i64 x.id) rfl; have x1 := HX.out.cell 1 (.int .i64 x.kind) rfl; have x2 := HX.out.cell 2 (.int .i64 x.src) rfl; have x3 := HX.out.cell 3 (.int .i64 x.dst) rfl; have x4 := HX.out.cell 4 (.int .i64 x.car) rfl; have x5 := HX.out.cell 5 (.int .i64 x.state) rfl; have x6 := HX.out.cell 6 (.int .i64 x.owner) rfl; have x7 := HX.out.cell 7 (.int .i64 x.born) rfl)
      | (go_at_call 48; (with_reducible refine (isCar c x.car _).mono ?_); rintro e w1 ⟨rfl, ho1⟩; replace hof := hof.trans ho1 (by simp); replace HB := Lib.hid (ho1.blk HB.out (by simp)); replace HX := Lib.hid (ho1.blk HX.out (by simp)); have c0 := HB.out.cell 0 (.int .i64 c.floors) rfl; have x0 := HX.out.cell 0 (.int .i64 x.id) rfl; have x1 := HX.out.cell 1 (.int .i64 x.kind) rfl; have x2 := HX.out.cell 2 (.int .i64 x.src) rfl; have x3 := HX.out.cell 3 (.int .i64 x.dst) rfl; have x4 := HX.out.cell 4 (.int .i64 x.car) rfl; have x5 := HX.out.cell 5 (.int .i64 x.state) rfl; have x6 := HX.out.cell 6 (.int .i64 x.owner) rfl; have x7 := HX.out.cell 7 (.int .i64 x.born) rfl))
    go_ret
    exact ⟨ret_b (by unfold askV; simp [B1.out, B2.out, K3.out, q0, q1, q2]), hof⟩
  have b3 : (x.kind == 3) = false := by rw [beq_eq_false_iff_ne]; exact k3
  by_cases k4 : x.kind = 4
  · have b4 : (x.kind == 4) = true := by rw [k4]; rfl
    have K4 := Lib.hid k4
    clear k4
    have B1 := Lib.hid k1
    clear k1
    have B2 := Lib.hid k2
    clear k2
    have B3 := Lib.hid k3
    clear k3
    cases q0 : (x.car == 0)
    · go_enter Try.func100, Try.ntmps100
      go_wp2_with (first
        | (refine wpList_box_big rfl 24 (.tmp 0) rfl c.val rfl c.cells rfl ?_)
        | (refine wpList_box_big rfl 38 (.tmp 1) rfl x.val rfl x.cells rfl ?_)
        | (refine wpList_load_big ?_ 24 (.tmp 2) rfl w.heap.size rfl 24 c.cells c.val rfl _ HB.out Try.underlying24 rfl infoC ?_; (focus (first | (simp [Region.wanted]; done) | (simp only [Region.wanted]; go_simp; done))))
        | (go_at_call 112; (with_reducible refine (isFloor c x.src _).mono ?_); rintro e w1 ⟨rfl, ho1⟩; replace hof := hof.trans ho1 (by simp); replace HB := Lib.hid (ho1.blk HB.out (by simp)); replace HX := Lib.hid (ho1.blk HX.out (by simp)); have c0 := HB.out.cell 0 (.int .i64 c.floors) rfl; have x0 := HX.out.cell 0 (.int .i64 x.id) rfl; have x1 := HX.out.cell 1 (.int .i64 x.kind) rfl; have x2 := HX.out.cell 2 (.int .i64 x.src) rfl; have x3 := HX.out.cell 3 (.int .i64 x.dst) rfl; have x4 := HX.out.cell 4 (.int .i64 x.car) rfl; have x5 := HX.out.cell 5 (.int .i64 x.state) rfl; have x6 := HX.out.cell 6 (.int .i64 x.owner) rfl; have x7 := HX.out.cell 7 (.int .i64 x.born) rfl)
        | (go_at_call 112; (with_reducible refine (isFloor c x.dst _).mono ?_); rintro e w1 ⟨rfl, ho1⟩; replace hof := hof.trans ho1 (by simp); replace HB := Lib.hid (ho1.blk HB.out (by simp)); replace HX := Lib.hid (ho1.blk HX.out (by simp)); have c0 := HB.out.cell 0 (.int .i64 c.floors) rfl; have x0 := HX.out.cell 0 (.int .i64 x.id) rfl; have x1 := HX.out.cell 1 (.int .i64 x.kind) rfl; have x2 := HX.out.cell 2 (.int .i64 x.src) rfl; have x3 := HX.out.cell 3 (.int .i64 x.dst) rfl; have x4 := HX.out.cell 4 (.int .i64 x.car) rfl; have x5 := HX.out.cell 5 (.int .i64 x.state) rfl; have x6 := HX.out.cell 6 (.int .i64 x.owner) rfl; have x7 := HX.out.cell 7 (.int .i64 x.born) rfl)
        | (go_at_call 48; (with_reducible refine (isCar c x.car _).mono ?_); rintro e w1 ⟨rfl, ho1⟩; replace hof := hof.trans ho1 (by simp); replace HB := Lib.hid (ho1.blk HB.out (by simp)); replace HX := Lib.hid (ho1.blk HX.out (by simp)); have c0 := HB.out.cell 0 (.int .i64 c.floors) rfl; have x0 := HX.out.cell 0 (.int .i64 x.id) rfl; have x1 := HX.out.cell 1 (.int .i64 x.kind) rfl; have x2 := HX.out.cell 2 (.int .i64 x.src) rfl; have x3 := HX.out.cell 3 (.int .i64 x.dst) rfl; have x4 := HX.out.cell 4 (.int .i64 x.car) rfl; have x5 := HX.out.cell 5 (.int .i64 x.state) rfl; have x6 := HX.out.cell 6 (.int .i64 x.owner) rfl; have x7 := HX.out.cell 7 (.int .i64 x.born) rfl))
      go_ret
      exact ⟨ret_b (by unfold askV; simp [B1.out, B2.out, B3.out, K4.out, q0]), hof⟩
    cases q1 : (floorV c x.src)
    · go_enter Try.func100, Try.ntmps100
      go_wp2_with (first
        | (refine wpList_box_big rfl 24 (.tmp 0) rfl c.val rfl c.cells rfl ?_)
        | (refine wpList_box_big rfl 38 (.tmp 1) rfl x.val rfl x.cells rfl ?_)
        | (refine wpList_load_big ?_ 24 (.tmp 2) rfl w.heap.size rfl 24 c.cells c.val rfl _ HB.out Try.underlying24 rfl infoC ?_; (focus (first | (simp [Region.wanted]; done) | (simp only [Region.wanted]; go_simp; done))))
        | (go_at_call 112; (with_reducible refine (isFloor c x.src _).mono ?_); rintro e w1 ⟨rfl, ho1⟩; replace hof := hof.trans ho1 (by simp); replace HB := Lib.hid (ho1.blk HB.out (by simp)); replace HX := Lib.hid (ho1.blk HX.out (by simp)); have c0 := HB.out.cell 0 (.int .i64 c.floors) rfl; have x0 := HX.out.cell 0 (.int .i64 x.id) rfl; have x1 := HX.out.cell 1 (.int .i64 x.kind) rfl; have x2 := HX.out.cell 2 (.int .i64 x.src) rfl; have x3 := HX.out.cell 3 (.int .i64 x.dst) rfl; have x4 := HX.out.cell 4 (.int .i64 x.car) rfl; have x5 := HX.out.cell 5 (.int .i64 x.state) rfl; have x6 := HX.out.cell 6 (.int .i64 x.owner) rfl; have x7 := HX.out.cell 7 (.int .i64 x.born) rfl)
        | (go_at_call 112; (with_reducible refine (isFloor c x.dst _).mono ?_); rintro e w1 ⟨rfl, ho1⟩; replace hof := hof.trans ho1 (by simp); replace HB := Lib.hid (ho1.blk HB.out (by simp)); replace HX := Lib.hid (ho1.blk HX.out (by simp)); have c0 := HB.out.cell 0 (.int .i64 c.floors) rfl; have x0 := HX.out.cell 0 (.int .i64 x.id) rfl; have x1 := HX.out.cell 1 (.int .i64 x.kind) rfl; have x2 := HX.out.cell 2 (.int .i64 x.src) rfl; have x3 := HX.out.cell 3 (.int .i64 x.dst) rfl; have x4 := HX.out.cell 4 (.int .i64 x.car) rfl; have x5 := HX.out.cell 5 (.int .i64 x.state) rfl; have x6 := HX.out.cell 6 (.int .i64 x.owner) rfl; have x7 := HX.out.cell 7 (.int .i64 x.born) rfl)
        | (go_at_call 48; (with_reducible refine (isCar c x.car _).mono ?_); rintro e w1 ⟨rfl, ho1⟩; replace hof := hof.trans ho1 (by simp); replace HB := Lib.hid (ho1.blk HB.out (by simp)); replace HX := Lib.hid (ho1.blk HX.out (by simp)); have c0 := HB.out.cell 0 (.int .i64 c.floors) rfl; have x0 := HX.out.cell 0 (.int .i64 x.id) rfl; have x1 := HX.out.cell 1 (.int .i64 x.kind) rfl; have x2 := HX.out.cell 2 (.int .i64 x.src) rfl; have x3 := HX.out.cell 3 (.int .i64 x.dst) rfl; have x4 := HX.out.cell 4 (.int .i64 x.car) rfl; have x5 := HX.out.cell 5 (.int .i64 x.state) rfl; have x6 := HX.out.cell 6 (.int .i64 x.owner) rfl; have x7 := HX.out.cell 7 (.int .i64 x.born) rfl))
      go_ret
      exact ⟨ret_b (by unfold askV; simp [B1.out, B2.out, B3.out, K4.out, q0, q1]), hof⟩
    cases q2 : (floorV c x.dst)
    · go_enter Try.func100, Try.ntmps100
      go_wp2_with (first
        | (refine wpList_box_big rfl 24 (.tmp 0) rfl c.val rfl c.cells rfl ?_)
        | (refine wpList_box_big rfl 38 (.tmp 1) rfl x.val rfl x.cells rfl ?_)
        | (refine wpList_load_big ?_ 24 (.tmp 2) rfl w.heap.size rfl 24 c.cells c.val rfl _ HB.out Try.underlying24 rfl infoC ?_; (focus (first | (simp [Region.wanted]; done) | (simp only [Region.wanted]; go_simp; done))))
        | (go_at_call 112; (with_reducible refine (isFloor c x.src _).mono ?_); rintro e w1 ⟨rfl, ho1⟩; replace hof := hof.trans ho1 (by simp); replace HB := Lib.hid (ho1.blk HB.out (by simp)); replace HX := Lib.hid (ho1.blk HX.out (by simp)); have c0 := HB.out.cell 0 (.int .i64 c.floors) rfl; have x0 := HX.out.cell 0 (.int .i64 x.id) rfl; have x1 := HX.out.cell 1 (.int .i64 x.kind) rfl; have x2 := HX.out.cell 2 (.int .i64 x.src) rfl; have x3 := HX.out.cell 3 (.int .i64 x.dst) rfl; have x4 := HX.out.cell 4 (.int .i64 x.car) rfl; have x5 := HX.out.cell 5 (.int .i64 x.state) rfl; have x6 := HX.out.cell 6 (.int .i64 x.owner) rfl; have x7 := HX.out.cell 7 (.int .i64 x.born) rfl)
        | (go_at_call 112; (with_reducible refine (isFloor c x.dst _).mono ?_); rintro e w1 ⟨rfl, ho1⟩; replace hof := hof.trans ho1 (by simp); replace HB := Lib.hid (ho1.blk HB.out (by simp)); replace HX := Lib.hid (ho1.blk HX.out (by simp)); have c0 := HB.out.cell 0 (.int .i64 c.floors) rfl; have x0 := HX.out.cell 0 (.int .i64 x.id) rfl; have x1 := HX.out.cell 1 (.int .i64 x.kind) rfl; have x2 := HX.out.cell 2 (.int .i64 x.src) rfl; have x3 := HX.out.cell 3 (.int .i64 x.dst) rfl; have x4 := HX.out.cell 4 (.int .i64 x.car) rfl; have x5 := HX.out.cell 5 (.int .i64 x.state) rfl; have x6 := HX.out.cell 6 (.int .i64 x.owner) rfl; have x7 := HX.out.cell 7 (.int .i64 x.born) rfl)
        | (go_at_call 48; (with_reducible refine (isCar c x.car _).mono ?_); rintro e w1 ⟨rfl, ho1⟩; replace hof := hof.trans ho1 (by simp); replace HB := Lib.hid (ho1.blk HB.out (by simp)); replace HX := Lib.hid (ho1.blk HX.out (by simp)); have c0 := HB.out.cell 0 (.int .i64 c.floors) rfl; have x0 := HX.out.cell 0 (.int .i64 x.id) rfl; have x1 := HX.out.cell 1 (.int .i64 x.kind) rfl; have x2 := HX.out.cell 2 (.int .i64 x.src) rfl; have x3 := HX.out.cell 3 (.int .i64 x.dst) rfl; have x4 := HX.out.cell 4 (.int .i64 x.car) rfl; have x5 := HX.out.cell 5 (.int .i64 x.state) rfl; have x6 := HX.out.cell 6 (.int .i64 x.owner) rfl; have x7 := HX.out.cell 7 (.int .i64 x.born) rfl))
      go_ret
      exact ⟨ret_b (by unfold askV; simp [B1.out, B2.out, B3.out, K4.out, q0, q1, q2]), hof⟩
    cases q3 : (x.src != x.dst)
    · go_enter Try.func100, Try.ntmps100
      go_wp2_with (first
        | (refine wpList_box_big rfl 24 (.tmp 0) rfl c.val rfl c.cells rfl ?_)
        | (refine wpList_box_big rfl 38 (.tmp 1) rfl x.val rfl x.cells rfl ?_)
        | (refine wpList_load_big ?_ 24 (.tmp 2) rfl w.heap.size rfl 24 c.cells c.val rfl _ HB.out Try.underlying24 rfl infoC ?_; (focus (first | (simp [Region.wanted]; done) | (simp only [Region.wanted]; go_simp; done))))
        | (go_at_call 112; (with_reducible refine (isFloor c x.src _).mono ?_); rintro e w1 ⟨rfl, ho1⟩; replace hof := hof.trans ho1 (by simp); replace HB := Lib.hid (ho1.blk HB.out (by simp)); replace HX := Lib.hid (ho1.blk HX.out (by simp)); have c0 := HB.out.cell 0 (.int .i64 c.floors) rfl; have x0 := HX.out.cell 0 (.int .i64 x.id) rfl; have x1 := HX.out.cell 1 (.int .i64 x.kind) rfl; have x2 := HX.out.cell 2 (.int .i64 x.src) rfl; have x3 := HX.out.cell 3 (.int .i64 x.dst) rfl; have x4 := HX.out.cell 4 (.int .i64 x.car) rfl; have x5 := HX.out.cell 5 (.int .i64 x.state) rfl; have x6 := HX.out.cell 6 (.int .i64 x.owner) rfl; have x7 := HX.out.cell 7 (.int .i64 x.born) rfl)
        | (go_at_call 112; (with_reducible refine (isFloor c x.dst _).mono ?_); rintro e w1 ⟨rfl, ho1⟩; replace hof := hof.trans ho1 (by simp); replace HB := Lib.hid (ho1.blk HB.out (by simp)); replace HX := Lib.hid (ho1.blk HX.out (by simp)); have c0 := HB.out.cell 0 (.int .i64 c.floors) rfl; have x0 := HX.out.cell 0 (.int .i64 x.id) rfl; have x1 := HX.out.cell 1 (.int .i64 x.kind) rfl; have x2 := HX.out.cell 2 (.int .i64 x.src) rfl; have x3 := HX.out.cell 3 (.int .i64 x.dst) rfl; have x4 := HX.out.cell 4 (.int .i64 x.car) rfl; have x5 := HX.out.cell 5 (.int .i64 x.state) rfl; have x6 := HX.out.cell 6 (.int .i64 x.owner) rfl; have x7 := HX.out.cell 7 (.int .i64 x.born) rfl)
        | (go_at_call 48; (with_reducible refine (isCar c x.car _).mono ?_); rintro e w1 ⟨rfl, ho1⟩; replace hof := hof.trans ho1 (by simp); replace HB := Lib.hid (ho1.blk HB.out (by simp)); replace HX := Lib.hid (ho1.blk HX.out (by simp)); have c0 := HB.out.cell 0 (.int .i64 c.floors) rfl; have x0 := HX.out.cell 0 (.int .i64 x.id) rfl; have x1 := HX.out.cell 1 (.int .i64 x.kind) rfl; have x2 := HX.out.cell 2 (.int .i64 x.src) rfl; have x3 := HX.out.cell 3 (.int .i64 x.dst) rfl; have x4 := HX.out.cell 4 (.int .i64 x.car) rfl; have x5 := HX.out.cell 5 (.int .i64 x.state) rfl; have x6 := HX.out.cell 6 (.int .i64 x.owner) rfl; have x7 := HX.out.cell 7 (.int .i64 x.born) rfl))
      go_ret
      exact ⟨ret_b (by unfold askV; simp [B1.out, B2.out, B3.out, K4.out, q0, q1, q2, q3]), hof⟩
    go_enter Try.func100, Try.ntmps100
    go_wp2_with (first
      | (refine wpList_box_big rfl 24 (.tmp 0) rfl c.val rfl c.cells rfl ?_)
      | (refine wpList_box_big rfl 38 (.tmp 1) rfl x.val rfl x.cells rfl ?_)
      | (refine wpList_load_big ?_ 24 (.tmp 2) rfl w.heap.size rfl 24 c.cells c.val rfl _ HB.out Try.underlying24 rfl infoC ?_; (focus (first | (simp [Region.wanted]; done) | (simp only [Region.wanted]; go_simp; done))))
      | (go_at_call 112; (with_reducible refine (isFloor c x.src _).mono ?_); rintro e w1 ⟨rfl, ho1⟩; replace hof := hof.trans ho1 (by simp); replace HB := Lib.hid (ho1.blk HB.out (by simp)); replace HX := Lib.hid (ho1.blk HX.out (by simp)); have c0 := HB.out.cell 0 (.int .i64 c.floors) rfl; have x0 := HX.out.cell 0 (.int .i64 x.id) rfl; have x1 := HX.out.cell 1 (.int .i64 x.kind) rfl; have x2 := HX.out.cell 2 (.int .i64 x.src) rfl; have x3 := HX.out.cell 3 (.int .i64 x.dst) rfl; have x4 := HX.out.cell 4 (.int .i64 x.car) rfl; have x5 := HX.out.cell 5 (.int .i64 x.state) rfl; have x6 := HX.out.cell 6 (.int .i64 x.owner) rfl; have x7 := HX.out.cell 7 (.int .i64 x.born) rfl)
      | (go_at_call 112; (with_reducible refine (isFloor c x.dst _).mono ?_); rintro e w1 ⟨rfl, ho1⟩; replace hof := hof.trans ho1 (by simp); replace HB := Lib.hid (ho1.blk HB.out (by simp)); replace HX := Lib.hid (ho1.blk HX.out (by simp)); have c0 := HB.out.cell 0 (.int .i64 c.floors) rfl; have x0 := HX.out.cell 0 (.int .i64 x.id) rfl; have x1 := HX.out.cell 1 (.int .i64 x.kind) rfl; have x2 := HX.out.cell 2 (.int .i64 x.src) rfl; have x3 := HX.out.cell 3 (.int .i64 x.dst) rfl; have x4 := HX.out.cell 4 (.int .i64 x.car) rfl; have x5 := HX.out.cell 5 (.int .i64 x.state) rfl; have x6 := HX.out.cell 6 (.int .i64 x.owner) rfl; have x7 := HX.out.cell 7 (.int .i64 x.born) rfl)
      | (go_at_call 48; (with_reducible refine (isCar c x.car _).mono ?_); rintro e w1 ⟨rfl, ho1⟩; replace hof := hof.trans ho1 (by simp); replace HB := Lib.hid (ho1.blk HB.out (by simp)); replace HX := Lib.hid (ho1.blk HX.out (by simp)); have c0 := HB.out.cell 0 (.int .i64 c.floors) rfl; have x0 := HX.out.cell 0 (.int .i64 x.id) rfl; have x1 := HX.out.cell 1 (.int .i64 x.kind) rfl; have x2 := HX.out.cell 2 (.int .i64 x.src) rfl; have x3 := HX.out.cell 3 (.int .i64 x.dst) rfl; have x4 := HX.out.cell 4 (.int .i64 x.car) rfl; have x5 := HX.out.cell 5 (.int .i64 x.state) rfl; have x6 := HX.out.cell 6 (.int .i64 x.owner) rfl; have x7 := HX.out.cell 7 (.int .i64 x.born) rfl))
    go_ret
    exact ⟨ret_b (by unfold askV; simp [B1.out, B2.out, B3.out, K4.out, q0, q1, q2, q3]), hof⟩
  have b4 : (x.kind == 4) = false := by rw [beq_eq_false_iff_ne]; exact k4
  have B1 := Lib.hid k1
  clear k1
  have B2 := Lib.hid k2
  clear k2
  have B3 := Lib.hid k3
  clear k3
  have B4 := Lib.hid k4
  clear k4
  go_enter Try.func100, Try.ntmps100
  go_wp2_with (first
    | (refine wpList_box_big rfl 24 (.tmp 0) rfl c.val rfl c.cells rfl ?_)
    | (refine wpList_box_big rfl 38 (.tmp 1) rfl x.val rfl x.cells rfl ?_)
    | (refine wpList_load_big ?_ 24 (.tmp 2) rfl w.heap.size rfl 24 c.cells c.val rfl _ HB.out Try.underlying24 rfl infoC ?_; (focus (first | (simp [Region.wanted]; done) | (simp only [Region.wanted]; go_simp; done))))
    | (go_at_call 112; (with_reducible refine (isFloor c x.src _).mono ?_); rintro e w1 ⟨rfl, ho1⟩; replace hof := hof.trans ho1 (by simp); replace HB := Lib.hid (ho1.blk HB.out (by simp)); replace HX := Lib.hid (ho1.blk HX.out (by simp)); have c0 := HB.out.cell 0 (.int .i64 c.floors) rfl; have x0 := HX.out.cell 0 (.int .i64 x.id) rfl; have x1 := HX.out.cell 1 (.int .i64 x.kind) rfl; have x2 := HX.out.cell 2 (.int .i64 x.src) rfl; have x3 := HX.out.cell 3 (.int .i64 x.dst) rfl; have x4 := HX.out.cell 4 (.int .i64 x.car) rfl; have x5 := HX.out.cell 5 (.int .i64 x.state) rfl; have x6 := HX.out.cell 6 (.int .i64 x.owner) rfl; have x7 := HX.out.cell 7 (.int .i64 x.born) rfl)
    | (go_at_call 112; (with_reducible refine (isFloor c x.dst _).mono ?_); rintro e w1 ⟨rfl, ho1⟩; replace hof := hof.trans ho1 (by simp); replace HB := Lib.hid (ho1.blk HB.out (by simp)); replace HX := Lib.hid (ho1.blk HX.out (by simp)); have c0 := HB.out.cell 0 (.int .i64 c.floors) rfl; have x0 := HX.out.cell 0 (.int .i64 x.id) rfl; have x1 := HX.out.cell 1 (.int .i64 x.kind) rfl; have x2 := HX.out.cell 2 (.int .i64 x.src) rfl; have x3 := HX.out.cell 3 (.int .i64 x.dst) rfl; have x4 := HX.out.cell 4 (.int .i64 x.car) rfl; have x5 := HX.out.cell 5 (.int .i64 x.state) rfl; have x6 := HX.out.cell 6 (.int .i64 x.owner) rfl; have x7 := HX.out.cell 7 (.int .i64 x.born) rfl)
    | (go_at_call 48; (with_reducible refine (isCar c x.car _).mono ?_); rintro e w1 ⟨rfl, ho1⟩; replace hof := hof.trans ho1 (by simp); replace HB := Lib.hid (ho1.blk HB.out (by simp)); replace HX := Lib.hid (ho1.blk HX.out (by simp)); have c0 := HB.out.cell 0 (.int .i64 c.floors) rfl; have x0 := HX.out.cell 0 (.int .i64 x.id) rfl; have x1 := HX.out.cell 1 (.int .i64 x.kind) rfl; have x2 := HX.out.cell 2 (.int .i64 x.src) rfl; have x3 := HX.out.cell 3 (.int .i64 x.dst) rfl; have x4 := HX.out.cell 4 (.int .i64 x.car) rfl; have x5 := HX.out.cell 5 (.int .i64 x.state) rfl; have x6 := HX.out.cell 6 (.int .i64 x.owner) rfl; have x7 := HX.out.cell 7 (.int .i64 x.born) rfl))
  go_ret
  exact ⟨ret_b (by unfold askV; simp [B1.out, B2.out, B3.out, B4.out]), hof⟩
end Go.Proofs.Ytnanihffljpdbaa.Ca
