/- Contracts of layer 8: whether a call can be asked. -/
import Derived.Test.YtnanihffljpdbaaProg
import Derived.Below
import Derived.WalkKit
import Derived.KernelRfl
import Derived.RowKit3
import Derived.Deep.LoopGhost
import Derived.Deep.QuietTactic
import Derived.BigQuiet
import Derived.WideLaws
import Derived.Deep.DeepCutAuto
import Derived.Deep.CutBlock
import Derived.Lib.Hide
import Derived.Laws.BitsLemmas
import Derived.Laws.Bits64
import Derived.Laws.BitsAllLaws
import Derived.IntWalk
import Derived.Outline
import Derived.WalkSpells
import Derived.Test.YtnanihffljpdbaaGA
import Derived.Test.YtnanihffljpdbaaCall1
namespace Go.Proofs.Ytnanihffljpdbaa.Ca
set_option linter.unusedVariables false
set_option linter.unusedSimpArgs false
open Go.RowKit Go.Proofs.Ytnanihffljpdbaa.Mem Go.Proofs.Ytnanihffljpdbaa.Si

def checkCallV (c : Cfg) (x : CallV) : Int :=
  if (checkV c != 0) = true then 3 else if (x.id != 0 || x.state != 0 || x.owner != 0 || x.born != 0 || !askV c x) = true then 1 else 0
set_option maxHeartbeats 6400000 in
theorem checkCall (c : Cfg) (x : CallV) (w : World) : Calls Try.prog 67 #[c.val, x.val] w fun e w' => e = .returned (.int .i64 (checkCallV c x)) ∧ Off [] w w' := by
  have hof : Off [] w ((w.alloc (.cells c.cells 24)).alloc (.cells x.cells 38)) := ((Off.refl _ _).alloc _).alloc _
  have HB := Lib.hid (show Blk ((w.alloc (.cells c.cells 24)).alloc (.cells x.cells 38)) w.heap.size c.cells 24 from Blk.alloc (blk_new w c.cells 24) _)
  have HX := Lib.hid (show Blk ((w.alloc (.cells c.cells 24)).alloc (.cells x.cells 38)) (w.heap.size + 1) x.cells 38 from blk_new' _ _ _ _ (by simp))
  have c0 := HB.out.cell 0 (.int .i64 c.floors) rfl
  have x0 := HX.out.cell 0 (.int .i64 x.id) rfl
  have x1 := HX.out.cell 1 (.int .i64 x.kind) rfl
  have x2 := HX.out.cell 2 (.int .i64 x.src) rfl
  have x3 := HX.out.cell 3 (.int .i64 x.dst) rfl
  have x4 := HX.out.cell 4 (.int .i64 x.car) rfl
  have x5 := HX.out.cell 5 (.int .i64 x.state) rfl
  have x6 := HX.out.cell 6 (.int .i64 x.owner) rfl
  have x7 := HX.out.cell 7 (.int .i64 x.born) rfl
  rcases Bool.eq_false_or_eq_true (checkV c != 0) with q0 | q0
  · go_enter Try.func67, Try.ntmps67
    go_wp2_with (first
      | (refine wpList_box_big rfl 24 (.tmp 0) rfl c.val rfl c.cells rfl ?_)
      | (refine wpList_box_big rfl 38 (.tmp 1) rfl x.val rfl x.cells rfl ?_)
      | (refine wpList_load_big ?_ 24 (.tmp 2) rfl w.heap.size rfl 24 c.cells c.val rfl _ HB.out Try.underlying24 rfl infoC ?_; (focus (first | (simp [Region.wanted]; done) | (simp only [Region.wanted]; go_simp; done))))
      | (refine wpList_load_big ?_ 38 (.tmp 3) rfl (w.heap.size + 1) rfl 38 x.cells x.val rfl _ HX.out Try.underlying38 rfl infoX ?_; (focus (first | (simp [Region.wanted]; done) | (simp only [Region.wanted]; go_simp; done))))
      | (go_at_call 41; refine (check c _).mono ?_; rintro e w1 ⟨rfl, ho1⟩; replace hof := hof.trans ho1 (by simp); replace HB := Lib.hid (ho1.blk HB.out (by simp)); replace HX := Lib.hid (ho1.blk HX.out (by simp)); have c0 := HB.out.cell 0 (.int .i64 c.floors) rfl; have x0 := HX.out.cell 0 (.int .i64 x.id) rfl; have x1 := HX.out.cell 1 (.int .i64 x.kind) rfl; have x2 := HX.out.cell 2 (.int .i64 x.src) rfl; have x3 := HX.out.cell 3 (.int .i64 x.dst) rfl; have x4 := HX.out.cell 4 (.int .i64 x.car) rfl; have x5 := HX.out.cell 5 (.int .i64 x.state) rfl; have x6 := HX.out.cell 6 (.int .i64 x.owner) rfl; have x7 := HX.out.cell 7 (.int .i64 x.born) rfl)
      | (go_at_call 100; refine (isAsked c x _).mono ?_; rintro e w1 ⟨rfl, ho1⟩; replace hof := hof.trans ho1 (by simp); replace HB := Lib.hid (ho1.blk HB.out (by simp)); replace HX := Lib.hid (ho1.blk HX.out (by simp)); have c0 := HB.out.cell 0 (.int .i64 c.floors) rfl; have x0 := HX.out.cell 0 (.int .i64 x.id) rfl; have x1 := HX.out.cell 1 (.int .i64 x.kind) rfl; have x2 := HX.out.cell 2 (.int .i64 x.src) rfl; have x3 := HX.out.cell 3 (.int .i64 x.dst) rfl; have x4 := HX.out.cell 4 (.int .i64 x.car) rfl; have x5 := HX.out.cell 5 (.int .i64 x.state) rfl; have x6 := HX.out.cell 6 (.int .i64 x.owner) rfl; have x7 := HX.out.cell 7 (.int .i64 x.born) rfl))
    go_ret
    exact ⟨ret_i (by unfold checkCallV; simp only [q0]; rfl), hof⟩
  rcases Bool.eq_false_or_eq_true (x.id != 0) with q1 | q1
  · go_enter Try.func67, Try.ntmps67
    go_wp2_with (first
      | (refine wpList_box_big rfl 24 (.tmp 0) rfl c.val rfl c.cells rfl ?_)
      | (refine wpList_box_big rfl 38 (.tmp 1) rfl x.val rfl x.cells rfl ?_)
      | (refine wpList_load_big ?_ 24 (.tmp 2) rfl w.heap.size rfl 24 c.cells c.val rfl _ HB.out Try.underlying24 rfl infoC ?_; (focus (first | (simp [Region.wanted]; done) | (simp only [Region.wanted]; go_simp; done))))
      | (refine wpList_load_big ?_ 38 (.tmp 3) rfl (w.heap.size + 1) rfl 38 x.cells x.val rfl _ HX.out Try.underlying38 rfl infoX ?_; (focus (first | (simp [Region.wanted]; done) | (simp only [Region.wanted]; go_simp; done))))
      | (go_at_call 41; refine (check c _).mono ?_; rintro e w1 ⟨rfl, ho1⟩; replace hof := hof.trans ho1 (by simp); replace HB := Lib.hid (ho1.blk HB.out (by simp)); replace HX := Lib.hid (ho1.blk HX.out (by simp)); have c0 := HB.out.cell 0 (.int .i64 c.floors) rfl; have x0 := HX.out.cell 0 (.int .i64 x.id) rfl; have x1 := HX.out.cell 1 (.int .i64 x.kind) rfl; have x2 := HX.out.cell 2 (.int .i64 x.src) rfl; have x3 := HX.out.cell 3 (.int .i64 x.dst) rfl; have x4 := HX.out.cell 4 (.int .i64 x.car) rfl; have x5 := HX.out.cell 5 (.int .i64 x.state) rfl; have x6 := HX.out.cell 6 (.int .i64 x.owner) rfl; have x7 := HX.out.cell 7 (.int .i64 x.born) rfl)
      | (go_at_call 100; refine (isAsked c x _).mono ?_; rintro e w1 ⟨rfl, ho1⟩; replace hof := hof.trans ho1 (by simp); replace HB := Lib.hid (ho1.blk HB.out (by simp)); replace HX := Lib.hid (ho1.blk HX.out (by simp)); have c0 := HB.out.cell 0 (.int .i64 c.floors) rfl; have x0 := HX.out.cell 0 (.int .i64 x.id) rfl; have x1 := HX.out.cell 1 (.int .i64 x.kind) rfl; have x2 := HX.out.cell 2 (.int .i64 x.src) rfl; have x3 := HX.out.cell 3 (.int .i64 x.dst) rfl; have x4 := HX.out.cell 4 (.int .i64 x.car) rfl; have x5 := HX.out.cell 5 (.int .i64 x.state) rfl; have x6 := HX.out.cell 6 (.int .i64 x.owner) rfl; have x7 := HX.out.cell 7 (.int .i64 x.born) rfl))
    go_ret
    exact ⟨ret_i (by unfold checkCallV; simp only [q0, q1]; rfl), hof⟩
  rcases Bool.eq_false_or_eq_true (x.state != 0) with q2 | q2
  · go_enter Try.func67, Try.ntmps67
    go_wp2_with (first
      | (refine wpList_box_big rfl 24 (.tmp 0) rfl c.val rfl c.cells rfl ?_)
      | (refine wpList_box_big rfl 38 (.tmp 1) rfl x.val rfl x.cells rfl ?_)
      | (refine wpList_load_big ?_ 24 (.tmp 2) rfl w.heap.size rfl 24 c.cells c.val rfl _ HB.out Try.underlying24 rfl infoC ?_; (focus (first | (simp [Region.wanted]; done) | (simp only [Region.wanted]; go_simp; done))))
      | (refine wpList_load_big ?_ 38 (.tmp 3) rfl (w.heap.size + 1) rfl 38 x.cells x.val rfl _ HX.out Try.underlying38 rfl infoX ?_; (focus (first | (simp [Region.wanted]; done) | (simp only [Region.wanted]; go_simp; done))))
      | (go_at_call 41; refine (check c _).mono ?_; rintro e w1 ⟨rfl, ho1⟩; replace hof := hof.trans ho1 (by simp); replace HB := Lib.hid (ho1.blk HB.out (by simp)); replace HX := Lib.hid (ho1.blk HX.out (by simp)); have c0 := HB.out.cell 0 (.int .i64 c.floors) rfl; have x0 := HX.out.cell 0 (.int .i64 x.id) rfl; have x1 := HX.out.cell 1 (.int .i64 x.kind) rfl; have x2 := HX.out.cell 2 (.int .i64 x.src) rfl; have x3 := HX.out.cell 3 (.int .i64 x.dst) rfl; have x4 := HX.out.cell 4 (.int .i64 x.car) rfl; have x5 := HX.out.cell 5 (.int .i64 x.state) rfl; have x6 := HX.out.cell 6 (.int .i64 x.owner) rfl; have x7 := HX.out.cell 7 (.int .i64 x.born) rfl)
      | (go_at_call 100; refine (isAsked c x _).mono ?_; rintro e w1 ⟨rfl, ho1⟩; replace hof := hof.trans ho1 (by simp); replace HB := Lib.hid (ho1.blk HB.out (by simp)); replace HX := Lib.hid (ho1.blk HX.out (by simp)); have c0 := HB.out.cell 0 (.int .i64 c.floors) rfl; have x0 := HX.out.cell 0 (.int .i64 x.id) rfl; have x1 := HX.out.cell 1 (.int .i64 x.kind) rfl; have x2 := HX.out.cell 2 (.int .i64 x.src) rfl; have x3 := HX.out.cell 3 (.int .i64 x.dst) rfl; have x4 := HX.out.cell 4 (.int .i64 x.car) rfl; have x5 := HX.out.cell 5 (.int .i64 x.state) rfl; have x6 := HX.out.cell 6 (.int .i64 x.owner) rfl; have x7 := HX.out.cell 7 (.int .i64 x.born) rfl))
    go_ret
    exact ⟨ret_i (by unfold checkCallV; simp only [q0, q1, q2]; rfl), hof⟩
  rcases Bool.eq_false_or_eq_true (x.owner != 0) with q3 | q3
  · go_enter Try.func67, Try.ntmps67
    go_wp2_with (first
      | (refine wpList_box_big rfl 24 (.tmp 0) rfl c.val rfl c.cells rfl ?_)
      | (refine wpList_box_big rfl 38 (.tmp 1) rfl x.val rfl x.cells rfl ?_)
      | (refine wpList_load_big ?_ 24 (.tmp 2) rfl w.heap.size rfl 24 c.cells c.val rfl _ HB.out Try.underlying24 rfl infoC ?_; (focus (first | (simp [Region.wanted]; done) | (simp only [Region.wanted]; go_simp; done))))
      | (refine wpList_load_big ?_ 38 (.tmp 3) rfl (w.heap.size + 1) rfl 38 x.cells x.val rfl _ HX.out Try.underlying38 rfl infoX ?_; (focus (first | (simp [Region.wanted]; done) | (simp only [Region.wanted]; go_simp; done))))
      | (go_at_call 41; refine (check c _).mono ?_; rintro e w1 ⟨rfl, ho1⟩; replace hof := hof.trans ho1 (by simp); replace HB := Lib.hid (ho1.blk HB.out (by simp)); replace HX := Lib.hid (ho1.blk HX.out (by simp)); have c0 := HB.out.cell 0 (.int .i64 c.floors) rfl; have x0 := HX.out.cell 0 (.int .i64 x.id) rfl; have x1 := HX.out.cell 1 (.int .i64 x.kind) rfl; have x2 := HX.out.cell 2 (.int .i64 x.src) rfl; have x3 := HX.out.cell 3 (.int .i64 x.dst) rfl; have x4 := HX.out.cell 4 (.int .i64 x.car) rfl; have x5 := HX.out.cell 5 (.int .i64 x.state) rfl; have x6 := HX.out.cell 6 (.int .i64 x.owner) rfl; have x7 := HX.out.cell 7 (.int .i64 x.born) rfl)
      | (go_at_call 100; refine (isAsked c x _).mono ?_; rintro e w1 ⟨rfl, ho1⟩; replace hof := hof.trans ho1 (by simp); replace HB := Lib.hid (ho1.blk HB.out (by simp)); replace HX := Lib.hid (ho1.blk HX.out (by simp)); have c0 := HB.out.cell 0 (.int .i64 c.floors) rfl; have x0 := HX.out.cell 0 (.int .i64 x.id) rfl; have x1 := HX.out.cell 1 (.int .i64 x.kind) rfl; have x2 := HX.out.cell 2 (.int .i64 x.src) rfl; have x3 := HX.out.cell 3 (.int .i64 x.dst) rfl; have x4 := HX.out.cell 4 (.int .i64 x.car) rfl; have x5 := HX.out.cell 5 (.int .i64 x.state) rfl; have x6 := HX.out.cell 6 (.int .i64 x.owner) rfl; have x7 := HX.out.cell 7 (.int .i64 x.born) rfl))
    go_ret
    exact ⟨ret_i (by unfold checkCallV; simp only [q0, q1, q2, q3]; rfl), hof⟩
  rcases Bool.eq_false_or_eq_true (x.born != 0) with q4 | q4
  · go_enter Try.func67, Try.ntmps67
    go_wp2_with (first
      | (refine wpList_box_big rfl 24 (.tmp 0) rfl c.val rfl c.cells rfl ?_)
      | (refine wpList_box_big rfl 38 (.tmp 1) rfl x.val rfl x.cells rfl ?_)
      | (refine wpList_load_big ?_ 24 (.tmp 2) rfl w.heap.size rfl 24 c.cells c.val rfl _ HB.out Try.underlying24 rfl infoC ?_; (focus (first | (simp [Region.wanted]; done) | (simp only [Region.wanted]; go_simp; done))))
      | (refine wpList_load_big ?_ 38 (.tmp 3) rfl (w.heap.size + 1) rfl 38 x.cells x.val rfl _ HX.out Try.underlying38 rfl infoX ?_; (focus (first | (simp [Region.wanted]; done) | (simp only [Region.wanted]; go_simp; done))))
      | (go_at_call 41; refine (check c _).mono ?_; rintro e w1 ⟨rfl, ho1⟩; replace hof := hof.trans ho1 (by simp); replace HB := Lib.hid (ho1.blk HB.out (by simp)); replace HX := Lib.hid (ho1.blk HX.out (by simp)); have c0 := HB.out.cell 0 (.int .i64 c.floors) rfl; have x0 := HX.out.cell 0 (.int .i64 x.id) rfl; have x1 := HX.out.cell 1 (.int .i64 x.kind) rfl; have x2 := HX.out.cell 2 (.int .i64 x.src) rfl; have x3 := HX.out.cell 3 (.int .i64 x.dst) rfl; have x4 := HX.out.cell 4 (.int .i64 x.car) rfl; have x5 := HX.out.cell 5 (.int .i64 x.state) rfl; have x6 := HX.out.cell 6 (.int .i64 x.owner) rfl; have x7 := HX.out.cell 7 (.int .i64 x.born) rfl)
      | (go_at_call 100; refine (isAsked c x _).mono ?_; rintro e w1 ⟨rfl, ho1⟩; replace hof := hof.trans ho1 (by simp); replace HB := Lib.hid (ho1.blk HB.out (by simp)); replace HX := Lib.hid (ho1.blk HX.out (by simp)); have c0 := HB.out.cell 0 (.int .i64 c.floors) rfl; have x0 := HX.out.cell 0 (.int .i64 x.id) rfl; have x1 := HX.out.cell 1 (.int .i64 x.kind) rfl; have x2 := HX.out.cell 2 (.int .i64 x.src) rfl; have x3 := HX.out.cell 3 (.int .i64 x.dst) rfl; have x4 := HX.out.cell 4 (.int .i64 x.car) rfl; have x5 := HX.out.cell 5 (.int .i64 x.state) rfl; have x6 := HX.out.cell 6 (.int .i64 x.owner) rfl; have x7 := HX.out.cell 7 (.int .i64 x.born) rfl))
    go_ret
    exact ⟨ret_i (by unfold checkCallV; simp only [q0, q1, q2, q3, q4]; rfl), hof⟩
  rcases Bool.eq_false_or_eq_true (askV c x) with q5 | q5
  rotate_left
  · go_enter Try.func67, Try.ntmps67
    go_wp2_with (first
      | (refine wpList_box_big rfl 24 (.tmp 0) rfl c.val rfl c.cells rfl ?_)
      | (refine wpList_box_big rfl 38 (.tmp 1) rfl x.val rfl x.cells rfl ?_)
      | (refine wpList_load_big ?_ 24 (.tmp 2) rfl w.heap.size rfl 24 c.cells c.val rfl _ HB.out Try.underlying24 rfl infoC ?_; (focus (first | (simp [Region.wanted]; done) | (simp only [Region.wanted]; go_simp; done))))
      | (refine wpList_load_big ?_ 38 (.tmp 3) rfl (w.heap.size + 1) rfl 38 x.cells x.val rfl _ HX.out Try.underlying38 rfl infoX ?_; (focus (first | (simp [Region.wanted]; done) | (simp only [Region.wanted]; go_simp; done))))
      | (go_at_call 41; refine (check c _).mono ?_; rintro e w1 ⟨rfl, ho1⟩; replace hof := hof.trans ho1 (by simp); replace HB := Lib.hid (ho1.blk HB.out (by simp)); replace HX := Lib.hid (ho1.blk HX.out (by simp)); have c0 := HB.out.cell 0 (.int .i64 c.floors) rfl; have x0 := HX.out.cell 0 (.int .i64 x.id) rfl; have x1 := HX.out.cell 1 (.int .i64 x.kind) rfl; have x2 := HX.out.cell 2 (.int .i64 x.src) rfl; have x3 := HX.out.cell 3 (.int .i64 x.dst) rfl; have x4 := HX.out.cell 4 (.int .i64 x.car) rfl; have x5 := HX.out.cell 5 (.int .i64 x.state) rfl; have x6 := HX.out.cell 6 (.int .i64 x.owner) rfl; have x7 := HX.out.cell 7 (.int .i64 x.born) rfl)
      | (go_at_call 100; refine (isAsked c x _).mono ?_; rintro e w1 ⟨rfl, ho1⟩; replace hof := hof.trans ho1 (by simp); replace HB := Lib.hid (ho1.blk HB.out (by simp)); replace HX := Lib.hid (ho1.blk HX.out (by simp)); have c0 := HB.out.cell 0 (.int .i64 c.floors) rfl; have x0 := HX.out.cell 0 (.int .i64 x.id) rfl; have x1 := HX.out.cell 1 (.int .i64 x.kind) rfl; have x2 := HX.out.cell 2 (.int .i64 x.src) rfl; have x3 := HX.out.cell 3 (.int .i64 x.dst) rfl; have x4 := HX.out.cell 4 (.int .i64 x.car) rfl; have x5 := HX.out.cell 5 (.int .i64 x.state) rfl; have x6 := HX.out.cell 6 (.int .i64 x.owner) rfl; have x7 := HX.out.cell 7 (.int .i64 x.born) rfl))
    go_ret
    exact ⟨ret_i (by unfold checkCallV; simp only [q0, q1, q2, q3, q4, q5]; rfl), hof⟩
  go_enter Try.func67, Try.ntmps67
  go_wp2_with (first
    | (refine wpList_box_big rfl 24 (.tmp 0) rfl c.val rfl c.cells rfl ?_)
    | (refine wpList_box_big rfl 38 (.tmp 1) rfl x.val rfl x.cells rfl ?_)
    | (refine wpList_load_big ?_ 24 (.tmp 2) rfl w.heap.size rfl 24 c.cells c.val rfl _ HB.out Try.underlying24 rfl infoC ?_; (focus (first | (simp [Region.wanted]; done) | (simp only [Region.wanted]; go_simp; done))))
    | (refine wpList_load_big ?_ 38 (.tmp 3) rfl (w.heap.size + 1) rfl 38 x.cells x.val rfl _ HX.out Try.underlying38 rfl infoX ?_; (focus (first | (simp [Region.wanted]; done) | (simp only [Region.wanted]; go_simp; done))))
    | (go_at_call 41; refine (check c _).mono ?_; rintro e w1 ⟨rfl, ho1⟩; replace hof := hof.trans ho1 (by simp); replace HB := Lib.hid (ho1.blk HB.out (by simp)); replace HX := Lib.hid (ho1.blk HX.out (by simp)); have c0 := HB.out.cell 0 (.int .i64 c.floors) rfl; have x0 := HX.out.cell 0 (.int .i64 x.id) rfl; have x1 := HX.out.cell 1 (.int .i64 x.kind) rfl; have x2 := HX.out.cell 2 (.int .i64 x.src) rfl; have x3 := HX.out.cell 3 (.int .i64 x.dst) rfl; have x4 := HX.out.cell 4 (.int .i64 x.car) rfl; have x5 := HX.out.cell 5 (.int .i64 x.state) rfl; have x6 := HX.out.cell 6 (.int .i64 x.owner) rfl; have x7 := HX.out.cell 7 (.int .i64 x.born) rfl)
    | (go_at_call 100; refine (isAsked c x _).mono ?_; rintro e w1 ⟨rfl, ho1⟩; replace hof := hof.trans ho1 (by simp); replace HB := Lib.hid (ho1.blk HB.out (by simp)); replace HX := Lib.hid (ho1.blk HX.out (by simp)); have c0 := HB.out.cell 0 (.int .i64 c.floors) rfl; have x0 := HX.out.cell 0 (.int .i64 x.id) rfl; have x1 := HX.out.cell 1 (.int .i64 x.kind) rfl; have x2 := HX.out.cell 2 (.int .i64 x.src) rfl; have x3 := HX.out.cell 3 (.int .i64 x.dst) rfl; have x4 := HX.out.cell 4 (.int .i64 x.car) rfl; have x5 := HX.out.cell 5 (.int .i64 x.state) rfl; have x6 := HX.out.cell 6 (.int .i64 x.owner) rfl; have x7 := HX.out.cell 7 (.int .i64 x.born) rfl))
  go_ret
  exact ⟨ret_i (by unfold checkCallV; simp only [q0, q1, q2, q3, q4, q5]; rfl), hof⟩
end Go.Proofs.Ytnanihffljpdbaa.Ca
