/- Contracts of layer 8: what a call becomes. -/
import Derived.Test.YtfhhfmkfkoemjaaProg
import Derived.Below
import Derived.WalkKit
import Derived.KernelRfl
import Derived.RowKit3
import Derived.Deep.LoopGhost
import Derived.Deep.QuietTactic
import Derived.BigQuiet
import Derived.WideLaws
import Derived.Deep.DeepCutAuto
import Derived.Deep.CutBlock
import Derived.Lib.Hide
import Derived.Laws.BitsLemmas
import Derived.Laws.Bits64
import Derived.Laws.BitsAllLaws
import Derived.IntWalk
import Derived.Outline
import Derived.WalkSpells
import Derived.Test.YtfhhfmkfkoemjaaMem
import Derived.Test.YtfhhfmkfkoemjaaHp
import Derived.Test.YtfhhfmkfkoemjaaCall2
import Derived.RegionTactic
namespace Go.Proofs.Ytfhhfmkfkoemjaa.Ca
set_option linter.unusedVariables false
set_option linter.unusedSimpArgs false
open Go.RowKit Go.Proofs.Ytfhhfmkfkoemjaa.Mem Go.Proofs.Ytfhhfmkfkoemjaa.Si

def toV (x : CallV) (s : Int) (b : Bool) : CallV × Int := if b = true then ({ x with state := s }, 0) else (noCall, 7)
def freeV (x : CallV) (s : Int) : CallV := if (x.kind != 3) = true then { x with state := s, car := 0 } else { x with state := s }
def assignV (c : Cfg) (x : CallV) (n : Int) : CallV × Int :=
  if (x.state != 1) = true then (noCall, 7) else if (!carV c n || (x.kind == 3 && x.car != n)) = true then (noCall, 1) else ({ x with state := 2, car := n }, 0)
def leaveV (c : Cfg) (x : CallV) (n : Int) : CallV × Int :=
  if (x.state != 2 && x.state != 3) = true then (noCall, 7) else if (!floorV c n) = true then (noCall, 1)
  else if (x.state == 2) = true then (freeV x 1, 0) else if (x.dst == n) = true then ({ x with state := 4 }, 0) else (freeV { x with src := n } 1, 0)
def boardV (x : CallV) : CallV × Int := toV x 3 (x.state == 2 && x.kind == 4)
def serveV (x : CallV) : CallV × Int := toV x 4 (x.state == 3 || (x.state == 2 && x.kind != 4))
def cancelV (x : CallV) : CallV × Int := toV x 5 (x.state == 1 || x.state == 2)
def expireV (x : CallV) : CallV × Int := if (x.state != 1) = true then (noCall, 7) else (freeV x 6, 0)
def livesV (x : CallV) : Bool := decide (1 ≤ x.state) && decide (x.state ≤ 3)
def goalV (x : CallV) : Int := if (x.kind == 3 || x.state == 3) = true then x.dst else x.src
theorem tyint : TyI Try.prog 3 1 false [.int .i64 0] := ⟨by kernel_rfl, by kernel_rfl, by kernel_rfl⟩
theorem tyapi_Config : TyI Try.prog 24 18 true [.int .i64 0, .int .i64 0, .int .i64 0, .int .i64 0, .int .i64 0, .int .i64 0, .int .i64 0, .int .i64 0, .int .i64 0, .int .i64 0, .int .i64 0, .int .i64 0, .int .i64 0, .int .i64 0, .int .i64 0, .int .i64 0, .int .i64 0, .int .u32 0] := ⟨by kernel_rfl, by kernel_rfl, by kernel_rfl⟩
theorem tyapi_Call : TyI Try.prog 26 8 true [.int .i64 0, .int .i64 0, .int .i64 0, .int .i64 0, .int .i64 0, .int .i64 0, .int .i64 0, .int .i64 0] := ⟨by kernel_rfl, by kernel_rfl, by kernel_rfl⟩
theorem isFloorL (c : Cfg) (n : Int) (w : World) : Calls Try.prog 62 #[.agg #[.int .i64 c.floors, .int .i64 c.cars, .int .i64 c.seats, .int .i64 c.calls, .int .i64 c.lines, .int .i64 c.keys, .int .i64 c.window, .int .i64 c.burst, .int .i64 c.rate, .int .i64 c.idle, .int .i64 c.inn, .int .i64 c.out, .int .i64 c.feed, .int .i64 c.retries, .int .i64 c.life, .int .i64 c.door, .int .i64 c.holds, .int .u32 c.secret], .int .i64 n] w fun e w' => e = .returned (.bool (floorV c n)) ∧ Off [] w w' := isFloor c n w
theorem isFloorLX (c_floors : Int) (c_cars : Int) (c_seats : Int) (c_calls : Int) (c_lines : Int) (c_keys : Int) (c_window : Int) (c_burst : Int) (c_rate : Int) (c_idle : Int) (c_inn : Int) (c_out : Int) (c_feed : Int) (c_retries : Int) (c_life : Int) (c_door : Int) (c_holds : Int) (c_secret : Int) (n : Int) (w : World) : Calls Try.prog 62 #[.agg #[.int .i64 c_floors, .int .i64 c_cars, .int .i64 c_seats, .int .i64 c_calls, .int .i64 c_lines, .int .i64 c_keys, .int .i64 c_window, .int .i64 c_burst, .int .i64 c_rate, .int .i64 c_idle, .int .i64 c_inn, .int .i64 c_out, .int .i64 c_feed, .int .i64 c_retries, .int .i64 c_life, .int .i64 c_door, .int .i64 c_holds, .int .u32 c_secret], .int .i64 n] w fun e w' => e = .returned (.bool (floorV (⟨c_floors, c_cars, c_seats, c_calls, c_lines, c_keys, c_window, c_burst, c_rate, c_idle, c_inn, c_out, c_feed, c_retries, c_life, c_door, c_holds, c_secret⟩ : Cfg) n)) ∧ Off [] w w' := isFloorL (⟨c_floors, c_cars, c_seats, c_calls, c_lines, c_keys, c_window, c_burst, c_rate, c_idle, c_inn, c_out, c_feed, c_retries, c_life, c_door, c_holds, c_secret⟩ : Cfg) n w
theorem isCarL (c : Cfg) (n : Int) (w : World) : Calls Try.prog 61 #[.agg #[.int .i64 c.floors, .int .i64 c.cars, .int .i64 c.seats, .int .i64 c.calls, .int .i64 c.lines, .int .i64 c.keys, .int .i64 c.window, .int .i64 c.burst, .int .i64 c.rate, .int .i64 c.idle, .int .i64 c.inn, .int .i64 c.out, .int .i64 c.feed, .int .i64 c.retries, .int .i64 c.life, .int .i64 c.door, .int .i64 c.holds, .int .u32 c.secret], .int .i64 n] w fun e w' => e = .returned (.bool (carV c n)) ∧ Off [] w w' := isCar c n w
theorem isCarLX (c_floors : Int) (c_cars : Int) (c_seats : Int) (c_calls : Int) (c_lines : Int) (c_keys : Int) (c_window : Int) (c_burst : Int) (c_rate : Int) (c_idle : Int) (c_inn : Int) (c_out : Int) (c_feed : Int) (c_retries : Int) (c_life : Int) (c_door : Int) (c_holds : Int) (c_secret : Int) (n : Int) (w : World) : Calls Try.prog 61 #[.agg #[.int .i64 c_floors, .int .i64 c_cars, .int .i64 c_seats, .int .i64 c_calls, .int .i64 c_lines, .int .i64 c_keys, .int .i64 c_window, .int .i64 c_burst, .int .i64 c_rate, .int .i64 c_idle, .int .i64 c_inn, .int .i64 c_out, .int .i64 c_feed, .int .i64 c_retries, .int .i64 c_life, .int .i64 c_door, .int .i64 c_holds, .int .u32 c_secret], .int .i64 n] w fun e w' => e = .returned (.bool (carV (⟨c_floors, c_cars, c_seats, c_calls, c_lines, c_keys, c_window, c_burst, c_rate, c_idle, c_inn, c_out, c_feed, c_retries, c_life, c_door, c_holds, c_secret⟩ : Cfg) n)) ∧ Off [] w w' := isCarL (⟨c_floors, c_cars, c_seats, c_calls, c_lines, c_keys, c_window, c_burst, c_rate, c_idle, c_inn, c_out, c_feed, c_retries, c_life, c_door, c_holds, c_secret⟩ : Cfg) n w
theorem checkL (c : Cfg) (w : World) : Calls Try.prog 65 #[.agg #[.int .i64 c.floors, .int .i64 c.cars, .int .i64 c.seats, .int .i64 c.calls, .int .i64 c.lines, .int .i64 c.keys, .int .i64 c.window, .int .i64 c.burst, .int .i64 c.rate, .int .i64 c.idle, .int .i64 c.inn, .int .i64 c.out, .int .i64 c.feed, .int .i64 c.retries, .int .i64 c.life, .int .i64 c.door, .int .i64 c.holds, .int .u32 c.secret]] w fun e w' => e = .returned (.int .i64 (checkV c)) ∧ Off [] w w' := check c w
theorem checkLX (c_floors : Int) (c_cars : Int) (c_seats : Int) (c_calls : Int) (c_lines : Int) (c_keys : Int) (c_window : Int) (c_burst : Int) (c_rate : Int) (c_idle : Int) (c_inn : Int) (c_out : Int) (c_feed : Int) (c_retries : Int) (c_life : Int) (c_door : Int) (c_holds : Int) (c_secret : Int) (w : World) : Calls Try.prog 65 #[.agg #[.int .i64 c_floors, .int .i64 c_cars, .int .i64 c_seats, .int .i64 c_calls, .int .i64 c_lines, .int .i64 c_keys, .int .i64 c_window, .int .i64 c_burst, .int .i64 c_rate, .int .i64 c_idle, .int .i64 c_inn, .int .i64 c_out, .int .i64 c_feed, .int .i64 c_retries, .int .i64 c_life, .int .i64 c_door, .int .i64 c_holds, .int .u32 c_secret]] w fun e w' => e = .returned (.int .i64 (checkV (⟨c_floors, c_cars, c_seats, c_calls, c_lines, c_keys, c_window, c_burst, c_rate, c_idle, c_inn, c_out, c_feed, c_retries, c_life, c_door, c_holds, c_secret⟩ : Cfg))) ∧ Off [] w w' := checkL (⟨c_floors, c_cars, c_seats, c_calls, c_lines, c_keys, c_window, c_burst, c_rate, c_idle, c_inn, c_out, c_feed, c_retries, c_life, c_door, c_holds, c_secret⟩ : Cfg) w
theorem isAskedL (c : Cfg) (x : CallV) (w : World) : Calls Try.prog 84 #[.agg #[.int .i64 c.floors, .int .i64 c.cars, .int .i64 c.seats, .int .i64 c.calls, .int .i64 c.lines, .int .i64 c.keys, .int .i64 c.window, .int .i64 c.burst, .int .i64 c.rate, .int .i64 c.idle, .int .i64 c.inn, .int .i64 c.out, .int .i64 c.feed, .int .i64 c.retries, .int .i64 c.life, .int .i64 c.door, .int .i64 c.holds, .int .u32 c.secret], .agg #[.int .i64 x.id, .int .i64 x.kind, .int .i64 x.src, .int .i64 x.dst, .int .i64 x.car, .int .i64 x.state, .int .i64 x.owner, .int .i64 x.born]] w fun e w' => e = .returned (.bool (askV c x)) ∧ Off [] w w' := isAsked c x w
theorem isAskedLX (c_floors : Int) (c_cars : Int) (c_seats : Int) (c_calls : Int) (c_lines : Int) (c_keys : Int) (c_window : Int) (c_burst : Int) (c_rate : Int) (c_idle : Int) (c_inn : Int) (c_out : Int) (c_feed : Int) (c_retries : Int) (c_life : Int) (c_door : Int) (c_holds : Int) (c_secret : Int) (x_id : Int) (x_kind : Int) (x_src : Int) (x_dst : Int) (x_car : Int) (x_state : Int) (x_owner : Int) (x_born : Int) (w : World) : Calls Try.prog 84 #[.agg #[.int .i64 c_floors, .int .i64 c_cars, .int .i64 c_seats, .int .i64 c_calls, .int .i64 c_lines, .int .i64 c_keys, .int .i64 c_window, .int .i64 c_burst, .int .i64 c_rate, .int .i64 c_idle, .int .i64 c_inn, .int .i64 c_out, .int .i64 c_feed, .int .i64 c_retries, .int .i64 c_life, .int .i64 c_door, .int .i64 c_holds, .int .u32 c_secret], .agg #[.int .i64 x_id, .int .i64 x_kind, .int .i64 x_src, .int .i64 x_dst, .int .i64 x_car, .int .i64 x_state, .int .i64 x_owner, .int .i64 x_born]] w fun e w' => e = .returned (.bool (askV (⟨c_floors, c_cars, c_seats, c_calls, c_lines, c_keys, c_window, c_burst, c_rate, c_idle, c_inn, c_out, c_feed, c_retries, c_life, c_door, c_holds, c_secret⟩ : Cfg) (⟨x_id, x_kind, x_src, x_dst, x_car, x_state, x_owner, x_born⟩ : CallV))) ∧ Off [] w w' := isAskedL (⟨c_floors, c_cars, c_seats, c_calls, c_lines, c_keys, c_window, c_burst, c_rate, c_idle, c_inn, c_out, c_feed, c_retries, c_life, c_door, c_holds, c_secret⟩ : Cfg) (⟨x_id, x_kind, x_src, x_dst, x_car, x_state, x_owner, x_born⟩ : CallV) w
theorem checkCallL (c : Cfg) (x : CallV) (w : World) : Calls Try.prog 60 #[.agg #[.int .i64 c.floors, .int .i64 c.cars, .int .i64 c.seats, .int .i64 c.calls, .int .i64 c.lines, .int .i64 c.keys, .int .i64 c.window, .int .i64 c.burst, .int .i64 c.rate, .int .i64 c.idle, .int .i64 c.inn, .int .i64 c.out, .int .i64 c.feed, .int .i64 c.retries, .int .i64 c.life, .int .i64 c.door, .int .i64 c.holds, .int .u32 c.secret], .agg #[.int .i64 x.id, .int .i64 x.kind, .int .i64 x.src, .int .i64 x.dst, .int .i64 x.car, .int .i64 x.state, .int .i64 x.owner, .int .i64 x.born]] w fun e w' => e = .returned (.int .i64 (checkCallV c x)) ∧ Off [] w w' := checkCall c x w
theorem checkCallLX (c_floors : Int) (c_cars : Int) (c_seats : Int) (c_calls : Int) (c_lines : Int) (c_keys : Int) (c_window : Int) (c_burst : Int) (c_rate : Int) (c_idle : Int) (c_inn : Int) (c_out : Int) (c_feed : Int) (c_retries : Int) (c_life : Int) (c_door : Int) (c_holds : Int) (c_secret : Int) (x_id : Int) (x_kind : Int) (x_src : Int) (x_dst : Int) (x_car : Int) (x_state : Int) (x_owner : Int) (x_born : Int) (w : World) : Calls Try.prog 60 #[.agg #[.int .i64 c_floors, .int .i64 c_cars, .int .i64 c_seats, .int .i64 c_calls, .int .i64 c_lines, .int .i64 c_keys, .int .i64 c_window, .int .i64 c_burst, .int .i64 c_rate, .int .i64 c_idle, .int .i64 c_inn, .int .i64 c_out, .int .i64 c_feed, .int .i64 c_retries, .int .i64 c_life, .int .i64 c_door, .int .i64 c_holds, .int .u32 c_secret], .agg #[.int .i64 x_id, .int .i64 x_kind, .int .i64 x_src, .int .i64 x_dst, .int .i64 x_car, .int .i64 x_state, .int .i64 x_owner, .int .i64 x_born]] w fun e w' => e = .returned (.int .i64 (checkCallV (⟨c_floors, c_cars, c_seats, c_calls, c_lines, c_keys, c_window, c_burst, c_rate, c_idle, c_inn, c_out, c_feed, c_retries, c_life, c_door, c_holds, c_secret⟩ : Cfg) (⟨x_id, x_kind, x_src, x_dst, x_car, x_state, x_owner, x_born⟩ : CallV))) ∧ Off [] w w' := checkCallL (⟨c_floors, c_cars, c_seats, c_calls, c_lines, c_keys, c_window, c_burst, c_rate, c_idle, c_inn, c_out, c_feed, c_retries, c_life, c_door, c_holds, c_secret⟩ : Cfg) (⟨x_id, x_kind, x_src, x_dst, x_car, x_state, x_owner, x_born⟩ : CallV) w
set_option maxHeartbeats 16000000 in
theorem callTo (x : CallV) (s : Int) (b : Bool) (w : World) : Calls Try.prog 64 #[.agg #[.int .i64 x.id, .int .i64 x.kind, .int .i64 x.src, .int .i64 x.dst, .int .i64 x.car, .int .i64 x.state, .int .i64 x.owner, .int .i64 x.born], .int .i64 s, .bool b] w fun e w' => e = .returned (.tuple #[.agg #[.int .i64 ((toV x s b).1).id, .int .i64 ((toV x s b).1).kind, .int .i64 ((toV x s b).1).src, .int .i64 ((toV x s b).1).dst, .int .i64 ((toV x s b).1).car, .int .i64 ((toV x s b).1).state, .int .i64 ((toV x s b).1).owner, .int .i64 ((toV x s b).1).born], .int .i64 (toV x s b).2]) ∧ Off [] w w' := by
  have H := Lib.hid (Hp.start [] w)
  rcases Bool.eq_false_or_eq_true (b) with q0 | q0
  · go_enter Try.func64, Try.ntmps64
    go_wp2_with (first
      | ((with_reducible apply g_mem); (focus (exact rfl)); first
      | ((with_reducible apply hpA_box 26 H); (focus (exact rfl)); (focus (exact rfl)); (focus (exact rfl)); (focus (exact rfl)); intro w5 b5 H5; clear H; have H := H5; clear H5)
      | ((with_reducible apply hpA_alloc tyapi_Call H); (focus (exact rfl)); (focus (exact rfl)); intro w5 b5 H5; clear H; have H := H5; clear H5)
      | ((with_reducible apply hpA_store tyapi_Call H); (focus (exact rfl)); (focus (exact rfl)); (focus (exact rfl)); (focus (exact rfl)); (focus (exact rfl)); (focus (repeat (first | apply Put.head | apply Put.tail))); (focus (first | (simp; done) | (simp [Value.oneCell']; done))); (focus (first | (simp; done) | (simp [Value.oneCell']; done))); (focus ((try simp only [spl]); exact rfl)); (focus (exact rfl)); intro w5 H5; clear H; have H := H5; clear H5)
      | ((with_reducible apply hpA_store1 tyint H); (focus (exact rfl)); (focus (exact rfl)); (focus (exact rfl)); (focus (first | (go_simp; exact rfl) | exact rfl)); (focus (exact rfl)); (focus (repeat (first | apply Put.head | apply Put.tail))); (focus (first | (simp; done) | (simp [Value.oneCell']; done))); (focus (first | (simp; done) | (simp [Value.oneCell']; done))); (focus ((try simp only [List.set_cons_zero, List.set_cons_succ]); exact rfl)); (focus (exact rfl)); intro w5 H5; clear H; have H := H5; clear H5)
      | ((with_reducible apply hpA_load tyapi_Call H); (focus (exact rfl)); (focus (exact rfl)); (focus (first | (exact rfl) | (simp [Region.wanted]; done) | (simp only [Region.wanted]; go_simp; done))); (focus (repeat (first | exact List.Mem.head _ | apply List.Mem.tail))); (focus ((try simp only [List.drop_zero, List.drop_succ_cons, List.take_succ_cons, List.take_zero]); exact rfl)); (focus (exact rfl)))))
    (try simp only [Exit.inBlock, Exit.then])
    apply hp_ret_ct tyapi_Call H
    · exact rfl
    · exact rfl
    · exact rfl
    · exact rfl
    · (repeat (first | exact List.Mem.head _ | apply List.Mem.tail))
    · exact rfl
    · exact ⟨by simp [toV, q0, noCall], H.out.off⟩
  · go_enter Try.func64, Try.ntmps64
    go_wp2_with (first
      | ((with_reducible apply g_mem); (focus (exact rfl)); first
      | ((with_reducible apply hpA_box 26 H); (focus (exact rfl)); (focus (exact rfl)); (focus (exact rfl)); (focus (exact rfl)); intro w5 b5 H5; clear H; have H := H5; clear H5)
      | ((with_reducible apply hpA_alloc tyapi_Call H); (focus (exact rfl)); (focus (exact rfl)); intro w5 b5 H5; clear H; have H := H5; clear H5)
      | ((with_reducible apply hpA_store tyapi_Call H); (focus (exact rfl)); (focus (exact rfl)); (focus (exact rfl)); (focus (exact rfl)); (focus (exact rfl)); (focus (repeat (first | apply Put.head | apply Put.tail))); (focus (first | (simp; done) | (simp [Value.oneCell']; done))); (focus (first | (simp; done) | (simp [Value.oneCell']; done))); (focus ((try simp only [spl]); exact rfl)); (focus (exact rfl)); intro w5 H5; clear H; have H := H5; clear H5)
      | ((with_reducible apply hpA_store1 tyint H); (focus (exact rfl)); (focus (exact rfl)); (focus (exact rfl)); (focus (first | (go_simp; exact rfl) | exact rfl)); (focus (exact rfl)); (focus (repeat (first | apply Put.head | apply Put.tail))); (focus (first | (simp; done) | (simp [Value.oneCell']; done))); (focus (first | (simp; done) | (simp [Value.oneCell']; done))); (focus ((try simp only [List.set_cons_zero, List.set_cons_succ]); exact rfl)); (focus (exact rfl)); intro w5 H5; clear H; have H := H5; clear H5)
      | ((with_reducible apply hpA_load tyapi_Call H); (focus (exact rfl)); (focus (exact rfl)); (focus (first | (exact rfl) | (simp [Region.wanted]; done) | (simp only [Region.wanted]; go_simp; done))); (focus (repeat (first | exact List.Mem.head _ | apply List.Mem.tail))); (focus ((try simp only [List.drop_zero, List.drop_succ_cons, List.take_succ_cons, List.take_zero]); exact rfl)); (focus (exact rfl)))))
    (try simp only [Exit.inBlock, Exit.then])
    apply hp_ret_ct tyapi_Call H
    · exact rfl
    · exact rfl
    · exact rfl
    · exact rfl
    · (repeat (first | exact List.Mem.head _ | apply List.Mem.tail))
    · exact rfl
    · exact ⟨by simp [toV, q0, noCall], H.out.off⟩
theorem callToX (x_id : Int) (x_kind : Int) (x_src : Int) (x_dst : Int) (x_car : Int) (x_state : Int) (x_owner : Int) (x_born : Int) (s : Int) (b : Bool) (w : World) : Calls Try.prog 64 #[.agg #[.int .i64 x_id, .int .i64 x_kind, .int .i64 x_src, .int .i64 x_dst, .int .i64 x_car, .int .i64 x_state, .int .i64 x_owner, .int .i64 x_born], .int .i64 s, .bool b] w fun e w' => e = .returned (.tuple #[.agg #[.int .i64 ((toV (⟨x_id, x_kind, x_src, x_dst, x_car, x_state, x_owner, x_born⟩ : CallV) s b).1).id, .int .i64 ((toV (⟨x_id, x_kind, x_src, x_dst, x_car, x_state, x_owner, x_born⟩ : CallV) s b).1).kind, .int .i64 ((toV (⟨x_id, x_kind, x_src, x_dst, x_car, x_state, x_owner, x_born⟩ : CallV) s b).1).src, .int .i64 ((toV (⟨x_id, x_kind, x_src, x_dst, x_car, x_state, x_owner, x_born⟩ : CallV) s b).1).dst, .int .i64 ((toV (⟨x_id, x_kind, x_src, x_dst, x_car, x_state, x_owner, x_born⟩ : CallV) s b).1).car, .int .i64 ((toV (⟨x_id, x_kind, x_src, x_dst, x_car, x_state, x_owner, x_born⟩ : CallV) s b).1).state, .int .i64 ((toV (⟨x_id, x_kind, x_src, x_dst, x_car, x_state, x_owner, x_born⟩ : CallV) s b).1).owner, .int .i64 ((toV (⟨x_id, x_kind, x_src, x_dst, x_car, x_state, x_owner, x_born⟩ : CallV) s b).1).born], .int .i64 (toV (⟨x_id, x_kind, x_src, x_dst, x_car, x_state, x_owner, x_born⟩ : CallV) s b).2]) ∧ Off [] w w' := callTo (⟨x_id, x_kind, x_src, x_dst, x_car, x_state, x_owner, x_born⟩ : CallV) s b w
set_option maxHeartbeats 16000000 in
theorem callFree (x : CallV) (s : Int) (w : World) : Calls Try.prog 63 #[.agg #[.int .i64 x.id, .int .i64 x.kind, .int .i64 x.src, .int .i64 x.dst, .int .i64 x.car, .int .i64 x.state, .int .i64 x.owner, .int .i64 x.born], .int .i64 s] w fun e w' => e = .returned (.agg #[.int .i64 (freeV x s).id, .int .i64 (freeV x s).kind, .int .i64 (freeV x s).src, .int .i64 (freeV x s).dst, .int .i64 (freeV x s).car, .int .i64 (freeV x s).state, .int .i64 (freeV x s).owner, .int .i64 (freeV x s).born]) ∧ Off [] w w' := by
  have H := Lib.hid (Hp.start [] w)
  rcases Bool.eq_false_or_eq_true (x.kind != 3) with q0 | q0
  · go_enter Try.func63, Try.ntmps63
    go_wp2_with (first
      | ((with_reducible apply g_mem); (focus (exact rfl)); first
      | ((with_reducible apply hpA_box 26 H); (focus (exact rfl)); (focus (exact rfl)); (focus (exact rfl)); (focus (exact rfl)); intro w5 b5 H5; clear H; have H := H5; clear H5)
      | ((with_reducible apply hpA_alloc tyapi_Call H); (focus (exact rfl)); (focus (exact rfl)); intro w5 b5 H5; clear H; have H := H5; clear H5)
      | ((with_reducible apply hpA_store1 tyint H); (focus (exact rfl)); (focus (exact rfl)); (focus (exact rfl)); (focus (first | (go_simp; exact rfl) | exact rfl)); (focus (exact rfl)); (focus (repeat (first | apply Put.head | apply Put.tail))); (focus (first | (simp; done) | (simp [Value.oneCell']; done))); (focus (first | (simp; done) | (simp [Value.oneCell']; done))); (focus ((try simp only [List.set_cons_zero, List.set_cons_succ]); exact rfl)); (focus (exact rfl)); intro w5 H5; clear H; have H := H5; clear H5)
      | ((with_reducible apply hpA_load1 tyint H); (focus (exact rfl)); (focus (exact rfl)); (focus (first | (exact rfl) | (simp [Region.wanted]; done) | (simp only [Region.wanted]; go_simp; done))); (focus (repeat (first | exact List.Mem.head _ | apply List.Mem.tail))); (focus ((try simp only [List.getElem?_cons_zero, List.getElem?_cons_succ]); exact rfl)))
      | ((with_reducible apply hpA_load tyapi_Call H); (focus (exact rfl)); (focus (exact rfl)); (focus (first | (exact rfl) | (simp [Region.wanted]; done) | (simp only [Region.wanted]; go_simp; done))); (focus (repeat (first | exact List.Mem.head _ | apply List.Mem.tail))); (focus ((try simp only [List.drop_zero, List.drop_succ_cons, List.take_succ_cons, List.take_zero]); exact rfl)); (focus (exact rfl)))
      | ((with_reducible apply hpA_store tyapi_Call H); (focus (exact rfl)); (focus (exact rfl)); (focus (exact rfl)); (focus (exact rfl)); (focus (exact rfl)); (focus (repeat (first | apply Put.head | apply Put.tail))); (focus (first | (simp; done) | (simp [Value.oneCell']; done))); (focus (first | (simp; done) | (simp [Value.oneCell']; done))); (focus ((try simp only [spl]); exact rfl)); (focus (exact rfl)); intro w5 H5; clear H; have H := H5; clear H5)))
    (try simp only [Exit.inBlock, Exit.then])
    apply hp_ret_c tyapi_Call H
    · exact rfl
    · exact rfl
    · exact rfl
    · (repeat (first | exact List.Mem.head _ | apply List.Mem.tail))
    · exact rfl
    · exact ⟨by simp [freeV, q0, noCall], H.out.off⟩
  · go_enter Try.func63, Try.ntmps63
    go_wp2_with (first
      | ((with_reducible apply g_mem); (focus (exact rfl)); first
      | ((with_reducible apply hpA_box 26 H); (focus (exact rfl)); (focus (exact rfl)); (focus (exact rfl)); (focus (exact rfl)); intro w5 b5 H5; clear H; have H := H5; clear H5)
      | ((with_reducible apply hpA_alloc tyapi_Call H); (focus (exact rfl)); (focus (exact rfl)); intro w5 b5 H5; clear H; have H := H5; clear H5)
      | ((with_reducible apply hpA_store1 tyint H); (focus (exact rfl)); (focus (exact rfl)); (focus (exact rfl)); (focus (first | (go_simp; exact rfl) | exact rfl)); (focus (exact rfl)); (focus (repeat (first | apply Put.head | apply Put.tail))); (focus (first | (simp; done) | (simp [Value.oneCell']; done))); (focus (first | (simp; done) | (simp [Value.oneCell']; done))); (focus ((try simp only [List.set_cons_zero, List.set_cons_succ]); exact rfl)); (focus (exact rfl)); intro w5 H5; clear H; have H := H5; clear H5)
      | ((with_reducible apply hpA_load1 tyint H); (focus (exact rfl)); (focus (exact rfl)); (focus (first | (exact rfl) | (simp [Region.wanted]; done) | (simp only [Region.wanted]; go_simp; done))); (focus (repeat (first | exact List.Mem.head _ | apply List.Mem.tail))); (focus ((try simp only [List.getElem?_cons_zero, List.getElem?_cons_succ]); exact rfl)))
      | ((with_reducible apply hpA_load tyapi_Call H); (focus (exact rfl)); (focus (exact rfl)); (focus (first | (exact rfl) | (simp [Region.wanted]; done) | (simp only [Region.wanted]; go_simp; done))); (focus (repeat (first | exact List.Mem.head _ | apply List.Mem.tail))); (focus ((try simp only [List.drop_zero, List.drop_succ_cons, List.take_succ_cons, List.take_zero]); exact rfl)); (focus (exact rfl)))
      | ((with_reducible apply hpA_store tyapi_Call H); (focus (exact rfl)); (focus (exact rfl)); (focus (exact rfl)); (focus (exact rfl)); (focus (exact rfl)); (focus (repeat (first | apply Put.head | apply Put.tail))); (focus (first | (simp; done) | (simp [Value.oneCell']; done))); (focus (first | (simp; done) | (simp [Value.oneCell']; done))); (focus ((try simp only [spl]); exact rfl)); (focus (exact rfl)); intro w5 H5; clear H; have H := H5; clear H5)))
    (try simp only [Exit.inBlock, Exit.then])
    apply hp_ret_c tyapi_Call H
    · exact rfl
    · exact rfl
    · exact rfl
    · (repeat (first | exact List.Mem.head _ | apply List.Mem.tail))
    · exact rfl
    · exact ⟨by simp [freeV, q0, noCall], H.out.off⟩
theorem callFreeX (x_id : Int) (x_kind : Int) (x_src : Int) (x_dst : Int) (x_car : Int) (x_state : Int) (x_owner : Int) (x_born : Int) (s : Int) (w : World) : Calls Try.prog 63 #[.agg #[.int .i64 x_id, .int .i64 x_kind, .int .i64 x_src, .int .i64 x_dst, .int .i64 x_car, .int .i64 x_state, .int .i64 x_owner, .int .i64 x_born], .int .i64 s] w fun e w' => e = .returned (.agg #[.int .i64 (freeV (⟨x_id, x_kind, x_src, x_dst, x_car, x_state, x_owner, x_born⟩ : CallV) s).id, .int .i64 (freeV (⟨x_id, x_kind, x_src, x_dst, x_car, x_state, x_owner, x_born⟩ : CallV) s).kind, .int .i64 (freeV (⟨x_id, x_kind, x_src, x_dst, x_car, x_state, x_owner, x_born⟩ : CallV) s).src, .int .i64 (freeV (⟨x_id, x_kind, x_src, x_dst, x_car, x_state, x_owner, x_born⟩ : CallV) s).dst, .int .i64 (freeV (⟨x_id, x_kind, x_src, x_dst, x_car, x_state, x_owner, x_born⟩ : CallV) s).car, .int .i64 (freeV (⟨x_id, x_kind, x_src, x_dst, x_car, x_state, x_owner, x_born⟩ : CallV) s).state, .int .i64 (freeV (⟨x_id, x_kind, x_src, x_dst, x_car, x_state, x_owner, x_born⟩ : CallV) s).owner, .int .i64 (freeV (⟨x_id, x_kind, x_src, x_dst, x_car, x_state, x_owner, x_born⟩ : CallV) s).born]) ∧ Off [] w w' := callFree (⟨x_id, x_kind, x_src, x_dst, x_car, x_state, x_owner, x_born⟩ : CallV) s w
set_option maxHeartbeats 16000000 in
theorem callAssign (c : Cfg) (x : CallV) (n : Int) (w : World) : Calls Try.prog 15 #[.agg #[.int .i64 c.floors, .int .i64 c.cars, .int .i64 c.seats, .int .i64 c.calls, .int .i64 c.lines, .int .i64 c.keys, .int .i64 c.window, .int .i64 c.burst, .int .i64 c.rate, .int .i64 c.idle, .int .i64 c.inn, .int .i64 c.out, .int .i64 c.feed, .int .i64 c.retries, .int .i64 c.life, .int .i64 c.door, .int .i64 c.holds, .int .u32 c.secret], .agg #[.int .i64 x.id, .int .i64 x.kind, .int .i64 x.src, .int .i64 x.dst, .int .i64 x.car, .int .i64 x.state, .int .i64 x.owner, .int .i64 x.born], .int .i64 n] w fun e w' => e = .returned (.tuple #[.agg #[.int .i64 ((assignV c x n).1).id, .int .i64 ((assignV c x n).1).kind, .int .i64 ((assignV c x n).1).src, .int .i64 ((assignV c x n).1).dst, .int .i64 ((assignV c x n).1).car, .int .i64 ((assignV c x n).1).state, .int .i64 ((assignV c x n).1).owner, .int .i64 ((assignV c x n).1).born], .int .i64 (assignV c x n).2]) ∧ Off [] w w' := by
  have H := Lib.hid (Hp.start [] w)
  rcases Bool.eq_false_or_eq_true (x.state != 1) with q0 | q0
  · go_enter Try.func15, Try.ntmps15
    go_wp2_with (first
      | ((with_reducible apply g_mem); (focus (exact rfl)); first
      | ((with_reducible apply hpA_box 24 H); (focus (exact rfl)); (focus (exact rfl)); (focus (exact rfl)); (focus (exact rfl)); intro w5 b5 H5; clear H; have H := H5; clear H5)
      | ((with_reducible apply hpA_box 26 H); (focus (exact rfl)); (focus (exact rfl)); (focus (exact rfl)); (focus (exact rfl)); intro w5 b5 H5; clear H; have H := H5; clear H5)
      | ((with_reducible apply hpA_alloc tyapi_Call H); (focus (exact rfl)); (focus (exact rfl)); intro w5 b5 H5; clear H; have H := H5; clear H5)
      | ((with_reducible apply hpA_load1 tyint H); (focus (exact rfl)); (focus (exact rfl)); (focus (first | (exact rfl) | (simp [Region.wanted]; done) | (simp only [Region.wanted]; go_simp; done))); (focus (repeat (first | exact List.Mem.head _ | apply List.Mem.tail))); (focus ((try simp only [List.getElem?_cons_zero, List.getElem?_cons_succ]); exact rfl)))
      | ((with_reducible apply hpA_store tyapi_Call H); (focus (exact rfl)); (focus (exact rfl)); (focus (exact rfl)); (focus (exact rfl)); (focus (exact rfl)); (focus (repeat (first | apply Put.head | apply Put.tail))); (focus (first | (simp; done) | (simp [Value.oneCell']; done))); (focus (first | (simp; done) | (simp [Value.oneCell']; done))); (focus ((try simp only [spl]); exact rfl)); (focus (exact rfl)); intro w5 H5; clear H; have H := H5; clear H5)
      | ((with_reducible apply hpA_load tyapi_Config H); (focus (exact rfl)); (focus (exact rfl)); (focus (first | (exact rfl) | (simp [Region.wanted]; done) | (simp only [Region.wanted]; go_simp; done))); (focus (repeat (first | exact List.Mem.head _ | apply List.Mem.tail))); (focus ((try simp only [List.drop_zero, List.drop_succ_cons, List.take_succ_cons, List.take_zero]); exact rfl)); (focus (exact rfl)))
      | ((with_reducible apply hpA_store1 tyint H); (focus (exact rfl)); (focus (exact rfl)); (focus (exact rfl)); (focus (first | (go_simp; exact rfl) | exact rfl)); (focus (exact rfl)); (focus (repeat (first | apply Put.head | apply Put.tail))); (focus (first | (simp; done) | (simp [Value.oneCell']; done))); (focus (first | (simp; done) | (simp [Value.oneCell']; done))); (focus ((try simp only [List.set_cons_zero, List.set_cons_succ]); exact rfl)); (focus (exact rfl)); intro w5 H5; clear H; have H := H5; clear H5)
      | ((with_reducible apply hpA_load tyapi_Call H); (focus (exact rfl)); (focus (exact rfl)); (focus (first | (exact rfl) | (simp [Region.wanted]; done) | (simp only [Region.wanted]; go_simp; done))); (focus (repeat (first | exact List.Mem.head _ | apply List.Mem.tail))); (focus ((try simp only [List.drop_zero, List.drop_succ_cons, List.take_succ_cons, List.take_zero]); exact rfl)); (focus (exact rfl))))
      | (go_at_call 61; (with_reducible refine (isCarL _ _ _).mono ?_); rintro e w5 ⟨rfl, ho⟩; have H5 := Lib.hid (H.out.quiet ho); clear H ho; have H := H5; clear H5)
      | (go_at_call 61; (with_reducible refine (isCarLX _ _ _ _ _ _ _ _ _ _ _ _ _ _ _ _ _ _ _ _).mono ?_); rintro e w5 ⟨rfl, ho⟩; have H5 := Lib.hid (H.out.quiet ho); clear H ho; have H := H5; clear H5))
    (try simp only [Exit.inBlock, Exit.then])
    apply hp_ret_ct tyapi_Call H
    · exact rfl
    · exact rfl
    · exact rfl
    · exact rfl
    · (repeat (first | exact List.Mem.head _ | apply List.Mem.tail))
    · exact rfl
    · exact ⟨by simp [assignV, q0, noCall], H.out.off⟩
  · rcases Bool.eq_false_or_eq_true (carV c n) with q1 | q1
    · rcases Bool.eq_false_or_eq_true (x.kind == 3) with q2 | q2
      · rcases Bool.eq_false_or_eq_true (x.car != n) with q3 | q3
        · go_enter Try.func15, Try.ntmps15
          go_wp2_with (first
            | ((with_reducible apply g_mem); (focus (exact rfl)); first
      | ((with_reducible apply hpA_box 24 H); (focus (exact rfl)); (focus (exact rfl)); (focus (exact rfl)); (focus (exact rfl)); intro w5 b5 H5; clear H; have H := H5; clear H5)
      | ((with_reducible apply hpA_box 26 H); (focus (exact rfl)); (focus (exact rfl)); (focus (exact rfl)); (focus (exact rfl)); intro w5 b5 H5; clear H; have H := H5; clear H5)
      | ((with_reducible apply hpA_alloc tyapi_Call H); (focus (exact rfl)); (focus (exact rfl)); intro w5 b5 H5; clear H; have H := H5; clear H5)
      | ((with_reducible apply hpA_load1 tyint H); (focus (exact rfl)); (focus (exact rfl)); (focus (first | (exact rfl) | (simp [Region.wanted]; done) | (simp only [Region.wanted]; go_simp; done))); (focus (repeat (first | exact List.Mem.head _ | apply List.Mem.tail))); (focus ((try simp only [List.getElem?_cons_zero, List.getElem?_cons_succ]); exact rfl)))
      | ((with_reducible apply hpA_store tyapi_Call H); (focus (exact rfl)); (focus (exact rfl)); (focus (exact rfl)); (focus (exact rfl)); (focus (exact rfl)); (focus (repeat (first | apply Put.head | apply Put.tail))); (focus (first | (simp; done) | (simp [Value.oneCell']; done))); (focus (first | (simp; done) | (simp [Value.oneCell']; done))); (focus ((try simp only [spl]); exact rfl)); (focus (exact rfl)); intro w5 H5; clear H; have H := H5; clear H5)
      | ((with_reducible apply hpA_load tyapi_Config H); (focus (exact rfl)); (focus (exact rfl)); (focus (first | (exact rfl) | (simp [Region.wanted]; done) | (simp only [Region.wanted]; go_simp; done))); (focus (repeat (first | exact List.Mem.head _ | apply List.Mem.tail))); (focus ((try simp only [List.drop_zero, List.drop_succ_cons, List.take_succ_cons, List.take_zero]); exact rfl)); (focus (exact rfl)))
      | ((with_reducible apply hpA_store1 tyint H); (focus (exact rfl)); (focus (exact rfl)); (focus (exact rfl)); (focus (first | (go_simp; exact rfl) | exact rfl)); (focus (exact rfl)); (focus (repeat (first | apply Put.head | apply Put.tail))); (focus (first | (simp; done) | (simp [Value.oneCell']; done))); (focus (first | (simp; done) | (simp [Value.oneCell']; done))); (focus ((try simp only [List.set_cons_zero, List.set_cons_succ]); exact rfl)); (focus (exact rfl)); intro w5 H5; clear H; have H := H5; clear H5)
      | ((with_reducible apply hpA_load tyapi_Call H); (focus (exact rfl)); (focus (exact rfl)); (focus (first | (exact rfl) | (simp [Region.wanted]; done) | (simp only [Region.wanted]; go_simp; done))); (focus (repeat (first | exact List.Mem.head _ | apply List.Mem.tail))); (focus ((try simp only [List.drop_zero, List.drop_succ_cons, List.take_succ_cons, List.take_zero]); exact rfl)); (focus (exact rfl))))
            | (go_at_call 61; (with_reducible refine (isCarL _ _ _).mono ?_); rintro e w5 ⟨rfl, ho⟩; have H5 := Lib.hid (H.out.quiet ho); clear H ho; have H := H5; clear H5)
            | (go_at_call 61; (with_reducible refine (isCarLX _ _ _ _ _ _ _ _ _ _ _ _ _ _ _ _ _ _ _ _).mono ?_); rintro e w5 ⟨rfl, ho⟩; have H5 := Lib.hid (H.out.quiet ho); clear H ho; have H := H5; clear H5))
          (try simp only [Exit.inBlock, Exit.then])
          apply hp_ret_ct tyapi_Call H
          · exact rfl
          · exact rfl
          · exact rfl
          · exact rfl
          · (repeat (first | exact List.Mem.head _ | apply List.Mem.tail))
          · exact rfl
          · exact ⟨by simp [assignV, q0, q1, q2, q3, noCall], H.out.off⟩
        · go_enter Try.func15, Try.ntmps15
          go_wp2_with (first
            | ((with_reducible apply g_mem); (focus (exact rfl)); first
      | ((with_reducible apply hpA_box 24 H); (focus (exact rfl)); (focus (exact rfl)); (focus (exact rfl)); (focus (exact rfl)); intro w5 b5 H5; clear H; have H := H5; clear H5)
      | ((with_reducible apply hpA_box 26 H); (focus (exact rfl)); (focus (exact rfl)); (focus (exact rfl)); (focus (exact rfl)); intro w5 b5 H5; clear H; have H := H5; clear H5)
      | ((with_reducible apply hpA_alloc tyapi_Call H); (focus (exact rfl)); (focus (exact rfl)); intro w5 b5 H5; clear H; have H := H5; clear H5)
      | ((with_reducible apply hpA_load1 tyint H); (focus (exact rfl)); (focus (exact rfl)); (focus (first | (exact rfl) | (simp [Region.wanted]; done) | (simp only [Region.wanted]; go_simp; done))); (focus (repeat (first | exact List.Mem.head _ | apply List.Mem.tail))); (focus ((try simp only [List.getElem?_cons_zero, List.getElem?_cons_succ]); exact rfl)))
      | ((with_reducible apply hpA_store tyapi_Call H); (focus (exact rfl)); (focus (exact rfl)); (focus (exact rfl)); (focus (exact rfl)); (focus (exact rfl)); (focus (repeat (first | apply Put.head | apply Put.tail))); (focus (first | (simp; done) | (simp [Value.oneCell']; done))); (focus (first | (simp; done) | (simp [Value.oneCell']; done))); (focus ((try simp only [spl]); exact rfl)); (focus (exact rfl)); intro w5 H5; clear H; have H := H5; clear H5)
      | ((with_reducible apply hpA_load tyapi_Config H); (focus (exact rfl)); (focus (exact rfl)); (focus (first | (exact rfl) | (simp [Region.wanted]; done) | (simp only [Region.wanted]; go_simp; done))); (focus (repeat (first | exact List.Mem.head _ | apply List.Mem.tail))); (focus ((try simp only [List.drop_zero, List.drop_succ_cons, List.take_succ_cons, List.take_zero]); exact rfl)); (focus (exact rfl)))
      | ((with_reducible apply hpA_store1 tyint H); (focus (exact rfl)); (focus (exact rfl)); (focus (exact rfl)); (focus (first | (go_simp; exact rfl) | exact rfl)); (focus (exact rfl)); (focus (repeat (first | apply Put.head | apply Put.tail))); (focus (first | (simp; done) | (simp [Value.oneCell']; done))); (focus (first | (simp; done) | (simp [Value.oneCell']; done))); (focus ((try simp only [List.set_cons_zero, List.set_cons_succ]); exact rfl)); (focus (exact rfl)); intro w5 H5; clear H; have H := H5; clear H5)
      | ((with_reducible apply hpA_load tyapi_Call H); (focus (exact rfl)); (focus (exact rfl)); (focus (first | (exact rfl) | (simp [Region.wanted]; done) | (simp only [Region.wanted]; go_simp; done))); (focus (repeat (first | exact List.Mem.head _ | apply List.Mem.tail))); (focus ((try simp only [List.drop_zero, List.drop_succ_cons, List.take_succ_cons, List.take_zero]); exact rfl)); (focus (exact rfl))))
            | (go_at_call 61; (with_reducible refine (isCarL _ _ _).mono ?_); rintro e w5 ⟨rfl, ho⟩; have H5 := Lib.hid (H.out.quiet ho); clear H ho; have H := H5; clear H5)
            | (go_at_call 61; (with_reducible refine (isCarLX _ _ _ _ _ _ _ _ _ _ _ _ _ _ _ _ _ _ _ _).mono ?_); rintro e w5 ⟨rfl, ho⟩; have H5 := Lib.hid (H.out.quiet ho); clear H ho; have H := H5; clear H5))
          (try simp only [Exit.inBlock, Exit.then])
          apply hp_ret_ct tyapi_Call H
          · exact rfl
          · exact rfl
          · exact rfl
          · exact rfl
          · (repeat (first | exact List.Mem.head _ | apply List.Mem.tail))
          · exact rfl
          · exact ⟨by simp [assignV, q0, q1, q2, q3, noCall], H.out.off⟩
      · go_enter Try.func15, Try.ntmps15
        go_wp2_with (first
          | ((with_reducible apply g_mem); (focus (exact rfl)); first
      | ((with_reducible apply hpA_box 24 H); (focus (exact rfl)); (focus (exact rfl)); (focus (exact rfl)); (focus (exact rfl)); intro w5 b5 H5; clear H; have H := H5; clear H5)
      | ((with_reducible apply hpA_box 26 H); (focus (exact rfl)); (focus (exact rfl)); (focus (exact rfl)); (focus (exact rfl)); intro w5 b5 H5; clear H; have H := H5; clear H5)
      | ((with_reducible apply hpA_alloc tyapi_Call H); (focus (exact rfl)); (focus (exact rfl)); intro w5 b5 H5; clear H; have H := H5; clear H5)
      | ((with_reducible apply hpA_load1 tyint H); (focus (exact rfl)); (focus (exact rfl)); (focus (first | (exact rfl) | (simp [Region.wanted]; done) | (simp only [Region.wanted]; go_simp; done))); (focus (repeat (first | exact List.Mem.head _ | apply List.Mem.tail))); (focus ((try simp only [List.getElem?_cons_zero, List.getElem?_cons_succ]); exact rfl)))
      | ((with_reducible apply hpA_store tyapi_Call H); (focus (exact rfl)); (focus (exact rfl)); (focus (exact rfl)); (focus (exact rfl)); (focus (exact rfl)); (focus (repeat (first | apply Put.head | apply Put.tail))); (focus (first | (simp; done) | (simp [Value.oneCell']; done))); (focus (first | (simp; done) | (simp [Value.oneCell']; done))); (focus ((try simp only [spl]); exact rfl)); (focus (exact rfl)); intro w5 H5; clear H; have H := H5; clear H5)
      | ((with_reducible apply hpA_load tyapi_Config H); (focus (exact rfl)); (focus (exact rfl)); (focus (first | (exact rfl) | (simp [Region.wanted]; done) | (simp only [Region.wanted]; go_simp; done))); (focus (repeat (first | exact List.Mem.head _ | apply List.Mem.tail))); (focus ((try simp only [List.drop_zero, List.drop_succ_cons, List.take_succ_cons, List.take_zero]); exact rfl)); (focus (exact rfl)))
      | ((with_reducible apply hpA_store1 tyint H); (focus (exact rfl)); (focus (exact rfl)); (focus (exact rfl)); (focus (first | (go_simp; exact rfl) | exact rfl)); (focus (exact rfl)); (focus (repeat (first | apply Put.head | apply Put.tail))); (focus (first | (simp; done) | (simp [Value.oneCell']; done))); (focus (first | (simp; done) | (simp [Value.oneCell']; done))); (focus ((try simp only [List.set_cons_zero, List.set_cons_succ]); exact rfl)); (focus (exact rfl)); intro w5 H5; clear H; have H := H5; clear H5)
      | ((with_reducible apply hpA_load tyapi_Call H); (focus (exact rfl)); (focus (exact rfl)); (focus (first | (exact rfl) | (simp [Region.wanted]; done) | (simp only [Region.wanted]; go_simp; done))); (focus (repeat (first | exact List.Mem.head _ | apply List.Mem.tail))); (focus ((try simp only [List.drop_zero, List.drop_succ_cons, List.take_succ_cons, List.take_zero]); exact rfl)); (focus (exact rfl))))
          | (go_at_call 61; (with_reducible refine (isCarL _ _ _).mono ?_); rintro e w5 ⟨rfl, ho⟩; have H5 := Lib.hid (H.out.quiet ho); clear H ho; have H := H5; clear H5)
          | (go_at_call 61; (with_reducible refine (isCarLX _ _ _ _ _ _ _ _ _ _ _ _ _ _ _ _ _ _ _ _).mono ?_); rintro e w5 ⟨rfl, ho⟩; have H5 := Lib.hid (H.out.quiet ho); clear H ho; have H := H5; clear H5))
        (try simp only [Exit.inBlock, Exit.then])
        apply hp_ret_ct tyapi_Call H
        · exact rfl
        · exact rfl
        · exact rfl
        · exact rfl
        · (repeat (first | exact List.Mem.head _ | apply List.Mem.tail))
        · exact rfl
        · exact ⟨by simp [assignV, q0, q1, q2, noCall], H.out.off⟩
    · go_enter Try.func15, Try.ntmps15
      go_wp2_with (first
        | ((with_reducible apply g_mem); (focus (exact rfl)); first
      | ((with_reducible apply hpA_box 24 H); (focus (exact rfl)); (focus (exact rfl)); (focus (exact rfl)); (focus (exact rfl)); intro w5 b5 H5; clear H; have H := H5; clear H5)
      | ((with_reducible apply hpA_box 26 H); (focus (exact rfl)); (focus (exact rfl)); (focus (exact rfl)); (focus (exact rfl)); intro w5 b5 H5; clear H; have H := H5; clear H5)
      | ((with_reducible apply hpA_alloc tyapi_Call H); (focus (exact rfl)); (focus (exact rfl)); intro w5 b5 H5; clear H; have H := H5; clear H5)
      | ((with_reducible apply hpA_load1 tyint H); (focus (exact rfl)); (focus (exact rfl)); (focus (first | (exact rfl) | (simp [Region.wanted]; done) | (simp only [Region.wanted]; go_simp; done))); (focus (repeat (first | exact List.Mem.head _ | apply List.Mem.tail))); (focus ((try simp only [List.getElem?_cons_zero, List.getElem?_cons_succ]); exact rfl)))
      | ((with_reducible apply hpA_store tyapi_Call H); (focus (exact rfl)); (focus (exact rfl)); (focus (exact rfl)); (focus (exact rfl)); (focus (exact rfl)); (focus (repeat (first | apply Put.head | apply Put.tail))); (focus (first | (simp; done) | (simp [Value.oneCell']; done))); (focus (first | (simp; done) | (simp [Value.oneCell']; done))); (focus ((try simp only [spl]); exact rfl)); (focus (exact rfl)); intro w5 H5; clear H; have H := H5; clear H5)
      | ((with_reducible apply hpA_load tyapi_Config H); (focus (exact rfl)); (focus (exact rfl)); (focus (first | (exact rfl) | (simp [Region.wanted]; done) | (simp only [Region.wanted]; go_simp; done))); (focus (repeat (first | exact List.Mem.head _ | apply List.Mem.tail))); (focus ((try simp only [List.drop_zero, List.drop_succ_cons, List.take_succ_cons, List.take_zero]); exact rfl)); (focus (exact rfl)))
      | ((with_reducible apply hpA_store1 tyint H); (focus (exact rfl)); (focus (exact rfl)); (focus (exact rfl)); (focus (first | (go_simp; exact rfl) | exact rfl)); (focus (exact rfl)); (focus (repeat (first | apply Put.head | apply Put.tail))); (focus (first | (simp; done) | (simp [Value.oneCell']; done))); (focus (first | (simp; done) | (simp [Value.oneCell']; done))); (focus ((try simp only [List.set_cons_zero, List.set_cons_succ]); exact rfl)); (focus (exact rfl)); intro w5 H5; clear H; have H := H5; clear H5)
      | ((with_reducible apply hpA_load tyapi_Call H); (focus (exact rfl)); (focus (exact rfl)); (focus (first | (exact rfl) | (simp [Region.wanted]; done) | (simp only [Region.wanted]; go_simp; done))); (focus (repeat (first | exact List.Mem.head _ | apply List.Mem.tail))); (focus ((try simp only [List.drop_zero, List.drop_succ_cons, List.take_succ_cons, List.take_zero]); exact rfl)); (focus (exact rfl))))
        | (go_at_call 61; (with_reducible refine (isCarL _ _ _).mono ?_); rintro e w5 ⟨rfl, ho⟩; have H5 := Lib.hid (H.out.quiet ho); clear H ho; have H := H5; clear H5)
        | (go_at_call 61; (with_reducible refine (isCarLX _ _ _ _ _ _ _ _ _ _ _ _ _ _ _ _ _ _ _ _).mono ?_); rintro e w5 ⟨rfl, ho⟩; have H5 := Lib.hid (H.out.quiet ho); clear H ho; have H := H5; clear H5))
      (try simp only [Exit.inBlock, Exit.then])
      apply hp_ret_ct tyapi_Call H
      · exact rfl
      · exact rfl
      · exact rfl
      · exact rfl
      · (repeat (first | exact List.Mem.head _ | apply List.Mem.tail))
      · exact rfl
      · exact ⟨by simp [assignV, q0, q1, noCall], H.out.off⟩
theorem callAssignX (c_floors : Int) (c_cars : Int) (c_seats : Int) (c_calls : Int) (c_lines : Int) (c_keys : Int) (c_window : Int) (c_burst : Int) (c_rate : Int) (c_idle : Int) (c_inn : Int) (c_out : Int) (c_feed : Int) (c_retries : Int) (c_life : Int) (c_door : Int) (c_holds : Int) (c_secret : Int) (x_id : Int) (x_kind : Int) (x_src : Int) (x_dst : Int) (x_car : Int) (x_state : Int) (x_owner : Int) (x_born : Int) (n : Int) (w : World) : Calls Try.prog 15 #[.agg #[.int .i64 c_floors, .int .i64 c_cars, .int .i64 c_seats, .int .i64 c_calls, .int .i64 c_lines, .int .i64 c_keys, .int .i64 c_window, .int .i64 c_burst, .int .i64 c_rate, .int .i64 c_idle, .int .i64 c_inn, .int .i64 c_out, .int .i64 c_feed, .int .i64 c_retries, .int .i64 c_life, .int .i64 c_door, .int .i64 c_holds, .int .u32 c_secret], .agg #[.int .i64 x_id, .int .i64 x_kind, .int .i64 x_src, .int .i64 x_dst, .int .i64 x_car, .int .i64 x_state, .int .i64 x_owner, .int .i64 x_born], .int .i64 n] w fun e w' => e = .returned (.tuple #[.agg #[.int .i64 ((assignV (⟨c_floors, c_cars, c_seats, c_calls, c_lines, c_keys, c_window, c_burst, c_rate, c_idle, c_inn, c_out, c_feed, c_retries, c_life, c_door, c_holds, c_secret⟩ : Cfg) (⟨x_id, x_kind, x_src, x_dst, x_car, x_state, x_owner, x_born⟩ : CallV) n).1).id, .int .i64 ((assignV (⟨c_floors, c_cars, c_seats, c_calls, c_lines, c_keys, c_window, c_burst, c_rate, c_idle, c_inn, c_out, c_feed, c_retries, c_life, c_door, c_holds, c_secret⟩ : Cfg) (⟨x_id, x_kind, x_src, x_dst, x_car, x_state, x_owner, x_born⟩ : CallV) n).1).kind, .int .i64 ((assignV (⟨c_floors, c_cars, c_seats, c_calls, c_lines, c_keys, c_window, c_burst, c_rate, c_idle, c_inn, c_out, c_feed, c_retries, c_life, c_door, c_holds, c_secret⟩ : Cfg) (⟨x_id, x_kind, x_src, x_dst, x_car, x_state, x_owner, x_born⟩ : CallV) n).1).src, .int .i64 ((assignV (⟨c_floors, c_cars, c_seats, c_calls, c_lines, c_keys, c_window, c_burst, c_rate, c_idle, c_inn, c_out, c_feed, c_retries, c_life, c_door, c_holds, c_secret⟩ : Cfg) (⟨x_id, x_kind, x_src, x_dst, x_car, x_state, x_owner, x_born⟩ : CallV) n).1).dst, .int .i64 ((assignV (⟨c_floors, c_cars, c_seats, c_calls, c_lines, c_keys, c_window, c_burst, c_rate, c_idle, c_inn, c_out, c_feed, c_retries, c_life, c_door, c_holds, c_secret⟩ : Cfg) (⟨x_id, x_kind, x_src, x_dst, x_car, x_state, x_owner, x_born⟩ : CallV) n).1).car, .int .i64 ((assignV (⟨c_floors, c_cars, c_seats, c_calls, c_lines, c_keys, c_window, c_burst, c_rate, c_idle, c_inn, c_out, c_feed, c_retries, c_life, c_door, c_holds, c_secret⟩ : Cfg) (⟨x_id, x_kind, x_src, x_dst, x_car, x_state, x_owner, x_born⟩ : CallV) n).1).state, .int .i64 ((assignV (⟨c_floors, c_cars, c_seats, c_calls, c_lines, c_keys, c_window, c_burst, c_rate, c_idle, c_inn, c_out, c_feed, c_retries, c_life, c_door, c_holds, c_secret⟩ : Cfg) (⟨x_id, x_kind, x_src, x_dst, x_car, x_state, x_owner, x_born⟩ : CallV) n).1).owner, .int .i64 ((assignV (⟨c_floors, c_cars, c_seats, c_calls, c_lines, c_keys, c_window, c_burst, c_rate, c_idle, c_inn, c_out, c_feed, c_retries, c_life, c_door, c_holds, c_secret⟩ : Cfg) (⟨x_id, x_kind, x_src, x_dst, x_car, x_state, x_owner, x_born⟩ : CallV) n).1).born], .int .i64 (assignV (⟨c_floors, c_cars, c_seats, c_calls, c_lines, c_keys, c_window, c_burst, c_rate, c_idle, c_inn, c_out, c_feed, c_retries, c_life, c_door, c_holds, c_secret⟩ : Cfg) (⟨x_id, x_kind, x_src, x_dst, x_car, x_state, x_owner, x_born⟩ : CallV) n).2]) ∧ Off [] w w' := callAssign (⟨c_floors, c_cars, c_seats, c_calls, c_lines, c_keys, c_window, c_burst, c_rate, c_idle, c_inn, c_out, c_feed, c_retries, c_life, c_door, c_holds, c_secret⟩ : Cfg) (⟨x_id, x_kind, x_src, x_dst, x_car, x_state, x_owner, x_born⟩ : CallV) n w
set_option maxHeartbeats 16000000 in
theorem callLeave (c : Cfg) (x : CallV) (n : Int) (w : World) : Calls Try.prog 16 #[.agg #[.int .i64 c.floors, .int .i64 c.cars, .int .i64 c.seats, .int .i64 c.calls, .int .i64 c.lines, .int .i64 c.keys, .int .i64 c.window, .int .i64 c.burst, .int .i64 c.rate, .int .i64 c.idle, .int .i64 c.inn, .int .i64 c.out, .int .i64 c.feed, .int .i64 c.retries, .int .i64 c.life, .int .i64 c.door, .int .i64 c.holds, .int .u32 c.secret], .agg #[.int .i64 x.id, .int .i64 x.kind, .int .i64 x.src, .int .i64 x.dst, .int .i64 x.car, .int .i64 x.state, .int .i64 x.owner, .int .i64 x.born], .int .i64 n] w fun e w' => e = .returned (.tuple #[.agg #[.int .i64 ((leaveV c x n).1).id, .int .i64 ((leaveV c x n).1).kind, .int .i64 ((leaveV c x n).1).src, .int .i64 ((leaveV c x n).1).dst, .int .i64 ((leaveV c x n).1).car, .int .i64 ((leaveV c x n).1).state, .int .i64 ((leaveV c x n).1).owner, .int .i64 ((leaveV c x n).1).born], .int .i64 (leaveV c x n).2]) ∧ Off [] w w' := by
  have H := Lib.hid (Hp.start [] w)
  rcases Bool.eq_false_or_eq_true (x.state != 2) with q0 | q0
  · have d0 : (x.state == 2) = false := by simpa using q0
    rcases Bool.eq_false_or_eq_true (x.state != 3) with q1 | q1
    · go_enter Try.func16, Try.ntmps16
      go_wp2_with (first
        | ((with_reducible apply g_mem); (focus (exact rfl)); first
      | ((with_reducible apply hpA_box 24 H); (focus (exact rfl)); (focus (exact rfl)); (focus (exact rfl)); (focus (exact rfl)); intro w5 b5 H5; clear H; have H := H5; clear H5)
      | ((with_reducible apply hpA_box 26 H); (focus (exact rfl)); (focus (exact rfl)); (focus (exact rfl)); (focus (exact rfl)); intro w5 b5 H5; clear H; have H := H5; clear H5)
      | ((with_reducible apply hpA_alloc tyapi_Call H); (focus (exact rfl)); (focus (exact rfl)); intro w5 b5 H5; clear H; have H := H5; clear H5)
      | ((with_reducible apply hpA_load1 tyint H); (focus (exact rfl)); (focus (exact rfl)); (focus (first | (exact rfl) | (simp [Region.wanted]; done) | (simp only [Region.wanted]; go_simp; done))); (focus (repeat (first | exact List.Mem.head _ | apply List.Mem.tail))); (focus ((try simp only [List.getElem?_cons_zero, List.getElem?_cons_succ]); exact rfl)))
      | ((with_reducible apply hpA_store tyapi_Call H); (focus (exact rfl)); (focus (exact rfl)); (focus (exact rfl)); (focus (exact rfl)); (focus (exact rfl)); (focus (repeat (first | apply Put.head | apply Put.tail))); (focus (first | (simp; done) | (simp [Value.oneCell']; done))); (focus (first | (simp; done) | (simp [Value.oneCell']; done))); (focus ((try simp only [spl]); exact rfl)); (focus (exact rfl)); intro w5 H5; clear H; have H := H5; clear H5)
      | ((with_reducible apply hpA_load tyapi_Config H); (focus (exact rfl)); (focus (exact rfl)); (focus (first | (exact rfl) | (simp [Region.wanted]; done) | (simp only [Region.wanted]; go_simp; done))); (focus (repeat (first | exact List.Mem.head _ | apply List.Mem.tail))); (focus ((try simp only [List.drop_zero, List.drop_succ_cons, List.take_succ_cons, List.take_zero]); exact rfl)); (focus (exact rfl)))
      | ((with_reducible apply hpA_load tyapi_Call H); (focus (exact rfl)); (focus (exact rfl)); (focus (first | (exact rfl) | (simp [Region.wanted]; done) | (simp only [Region.wanted]; go_simp; done))); (focus (repeat (first | exact List.Mem.head _ | apply List.Mem.tail))); (focus ((try simp only [List.drop_zero, List.drop_succ_cons, List.take_succ_cons, List.take_zero]); exact rfl)); (focus (exact rfl)))
      | ((with_reducible apply hpA_store1 tyint H); (focus (exact rfl)); (focus (exact rfl)); (focus (exact rfl)); (focus (first | (go_simp; exact rfl) | exact rfl)); (focus (exact rfl)); (focus (repeat (first | apply Put.head | apply Put.tail))); (focus (first | (simp; done) | (simp [Value.oneCell']; done))); (focus (first | (simp; done) | (simp [Value.oneCell']; done))); (focus ((try simp only [List.set_cons_zero, List.set_cons_succ]); exact rfl)); (focus (exact rfl)); intro w5 H5; clear H; have H := H5; clear H5))
        | (go_at_call 62; (with_reducible refine (isFloorL _ _ _).mono ?_); rintro e w5 ⟨rfl, ho⟩; have H5 := Lib.hid (H.out.quiet ho); clear H ho; have H := H5; clear H5)
        | (go_at_call 62; (with_reducible refine (isFloorLX _ _ _ _ _ _ _ _ _ _ _ _ _ _ _ _ _ _ _ _).mono ?_); rintro e w5 ⟨rfl, ho⟩; have H5 := Lib.hid (H.out.quiet ho); clear H ho; have H := H5; clear H5)
        | (go_at_call 63; (with_reducible refine (callFree _ _ _).mono ?_); rintro e w5 ⟨rfl, ho⟩; have H5 := Lib.hid (H.out.quiet ho); clear H ho; have H := H5; clear H5)
        | (go_at_call 63; (with_reducible refine (callFreeX _ _ _ _ _ _ _ _ _ _).mono ?_); rintro e w5 ⟨rfl, ho⟩; have H5 := Lib.hid (H.out.quiet ho); clear H ho; have H := H5; clear H5))
      (try simp only [Exit.inBlock, Exit.then])
      apply hp_ret_ct tyapi_Call H
      · exact rfl
      · exact rfl
      · exact rfl
      · exact rfl
      · (repeat (first | exact List.Mem.head _ | apply List.Mem.tail))
      · exact rfl
      · exact ⟨by simp [leaveV, q0, q1, *, noCall], H.out.off⟩
    · rcases Bool.eq_false_or_eq_true (floorV c n) with q2 | q2
      · rcases Bool.eq_false_or_eq_true (x.dst == n) with q3 | q3
        · go_enter Try.func16, Try.ntmps16
          go_wp2_with (first
            | ((with_reducible apply g_mem); (focus (exact rfl)); first
      | ((with_reducible apply hpA_box 24 H); (focus (exact rfl)); (focus (exact rfl)); (focus (exact rfl)); (focus (exact rfl)); intro w5 b5 H5; clear H; have H := H5; clear H5)
      | ((with_reducible apply hpA_box 26 H); (focus (exact rfl)); (focus (exact rfl)); (focus (exact rfl)); (focus (exact rfl)); intro w5 b5 H5; clear H; have H := H5; clear H5)
      | ((with_reducible apply hpA_alloc tyapi_Call H); (focus (exact rfl)); (focus (exact rfl)); intro w5 b5 H5; clear H; have H := H5; clear H5)
      | ((with_reducible apply hpA_load1 tyint H); (focus (exact rfl)); (focus (exact rfl)); (focus (first | (exact rfl) | (simp [Region.wanted]; done) | (simp only [Region.wanted]; go_simp; done))); (focus (repeat (first | exact List.Mem.head _ | apply List.Mem.tail))); (focus ((try simp only [List.getElem?_cons_zero, List.getElem?_cons_succ]); exact rfl)))
      | ((with_reducible apply hpA_store tyapi_Call H); (focus (exact rfl)); (focus (exact rfl)); (focus (exact rfl)); (focus (exact rfl)); (focus (exact rfl)); (focus (repeat (first | apply Put.head | apply Put.tail))); (focus (first | (simp; done) | (simp [Value.oneCell']; done))); (focus (first | (simp; done) | (simp [Value.oneCell']; done))); (focus ((try simp only [spl]); exact rfl)); (focus (exact rfl)); intro w5 H5; clear H; have H := H5; clear H5)
      | ((with_reducible apply hpA_load tyapi_Config H); (focus (exact rfl)); (focus (exact rfl)); (focus (first | (exact rfl) | (simp [Region.wanted]; done) | (simp only [Region.wanted]; go_simp; done))); (focus (repeat (first | exact List.Mem.head _ | apply List.Mem.tail))); (focus ((try simp only [List.drop_zero, List.drop_succ_cons, List.take_succ_cons, List.take_zero]); exact rfl)); (focus (exact rfl)))
      | ((with_reducible apply hpA_load tyapi_Call H); (focus (exact rfl)); (focus (exact rfl)); (focus (first | (exact rfl) | (simp [Region.wanted]; done) | (simp only [Region.wanted]; go_simp; done))); (focus (repeat (first | exact List.Mem.head _ | apply List.Mem.tail))); (focus ((try simp only [List.drop_zero, List.drop_succ_cons, List.take_succ_cons, List.take_zero]); exact rfl)); (focus (exact rfl)))
      | ((with_reducible apply hpA_store1 tyint H); (focus (exact rfl)); (focus (exact rfl)); (focus (exact rfl)); (focus (first | (go_simp; exact rfl) | exact rfl)); (focus (exact rfl)); (focus (repeat (first | apply Put.head | apply Put.tail))); (focus (first | (simp; done) | (simp [Value.oneCell']; done))); (focus (first | (simp; done) | (simp [Value.oneCell']; done))); (focus ((try simp only [List.set_cons_zero, List.set_cons_succ]); exact rfl)); (focus (exact rfl)); intro w5 H5; clear H; have H := H5; clear H5))
            | (go_at_call 62; (with_reducible refine (isFloorL _ _ _).mono ?_); rintro e w5 ⟨rfl, ho⟩; have H5 := Lib.hid (H.out.quiet ho); clear H ho; have H := H5; clear H5)
            | (go_at_call 62; (with_reducible refine (isFloorLX _ _ _ _ _ _ _ _ _ _ _ _ _ _ _ _ _ _ _ _).mono ?_); rintro e w5 ⟨rfl, ho⟩; have H5 := Lib.hid (H.out.quiet ho); clear H ho; have H := H5; clear H5)
            | (go_at_call 63; (with_reducible refine (callFree _ _ _).mono ?_); rintro e w5 ⟨rfl, ho⟩; have H5 := Lib.hid (H.out.quiet ho); clear H ho; have H := H5; clear H5)
            | (go_at_call 63; (with_reducible refine (callFreeX _ _ _ _ _ _ _ _ _ _).mono ?_); rintro e w5 ⟨rfl, ho⟩; have H5 := Lib.hid (H.out.quiet ho); clear H ho; have H := H5; clear H5))
          (try simp only [Exit.inBlock, Exit.then])
          apply hp_ret_ct tyapi_Call H
          · exact rfl
          · exact rfl
          · exact rfl
          · exact rfl
          · (repeat (first | exact List.Mem.head _ | apply List.Mem.tail))
          · exact rfl
          · exact ⟨by simp [leaveV, q0, q1, q2, q3, *, noCall], H.out.off⟩
        · go_enter Try.func16, Try.ntmps16
          go_wp2_with (first
            | ((with_reducible apply g_mem); (focus (exact rfl)); first
      | ((with_reducible apply hpA_box 24 H); (focus (exact rfl)); (focus (exact rfl)); (focus (exact rfl)); (focus (exact rfl)); intro w5 b5 H5; clear H; have H := H5; clear H5)
      | ((with_reducible apply hpA_box 26 H); (focus (exact rfl)); (focus (exact rfl)); (focus (exact rfl)); (focus (exact rfl)); intro w5 b5 H5; clear H; have H := H5; clear H5)
      | ((with_reducible apply hpA_alloc tyapi_Call H); (focus (exact rfl)); (focus (exact rfl)); intro w5 b5 H5; clear H; have H := H5; clear H5)
      | ((with_reducible apply hpA_load1 tyint H); (focus (exact rfl)); (focus (exact rfl)); (focus (first | (exact rfl) | (simp [Region.wanted]; done) | (simp only [Region.wanted]; go_simp; done))); (focus (repeat (first | exact List.Mem.head _ | apply List.Mem.tail))); (focus ((try simp only [List.getElem?_cons_zero, List.getElem?_cons_succ]); exact rfl)))
      | ((with_reducible apply hpA_store tyapi_Call H); (focus (exact rfl)); (focus (exact rfl)); (focus (exact rfl)); (focus (exact rfl)); (focus (exact rfl)); (focus (repeat (first | apply Put.head | apply Put.tail))); (focus (first | (simp; done) | (simp [Value.oneCell']; done))); (focus (first | (simp; done) | (simp [Value.oneCell']; done))); (focus ((try simp only [spl]); exact rfl)); (focus (exact rfl)); intro w5 H5; clear H; have H := H5; clear H5)
      | ((with_reducible apply hpA_load tyapi_Config H); (focus (exact rfl)); (focus (exact rfl)); (focus (first | (exact rfl) | (simp [Region.wanted]; done) | (simp only [Region.wanted]; go_simp; done))); (focus (repeat (first | exact List.Mem.head _ | apply List.Mem.tail))); (focus ((try simp only [List.drop_zero, List.drop_succ_cons, List.take_succ_cons, List.take_zero]); exact rfl)); (focus (exact rfl)))
      | ((with_reducible apply hpA_load tyapi_Call H); (focus (exact rfl)); (focus (exact rfl)); (focus (first | (exact rfl) | (simp [Region.wanted]; done) | (simp only [Region.wanted]; go_simp; done))); (focus (repeat (first | exact List.Mem.head _ | apply List.Mem.tail))); (focus ((try simp only [List.drop_zero, List.drop_succ_cons, List.take_succ_cons, List.take_zero]); exact rfl)); (focus (exact rfl)))
      | ((with_reducible apply hpA_store1 tyint H); (focus (exact rfl)); (focus (exact rfl)); (focus (exact rfl)); (focus (first | (go_simp; exact rfl) | exact rfl)); (focus (exact rfl)); (focus (repeat (first | apply Put.head | apply Put.tail))); (focus (first | (simp; done) | (simp [Value.oneCell']; done))); (focus (first | (simp; done) | (simp [Value.oneCell']; done))); (focus ((try simp only [List.set_cons_zero, List.set_cons_succ]); exact rfl)); (focus (exact rfl)); intro w5 H5; clear H; have H := H5; clear H5))
            | (go_at_call 62; (with_reducible refine (isFloorL _ _ _).mono ?_); rintro e w5 ⟨rfl, ho⟩; have H5 := Lib.hid (H.out.quiet ho); clear H ho; have H := H5; clear H5)
            | (go_at_call 62; (with_reducible refine (isFloorLX _ _ _ _ _ _ _ _ _ _ _ _ _ _ _ _ _ _ _ _).mono ?_); rintro e w5 ⟨rfl, ho⟩; have H5 := Lib.hid (H.out.quiet ho); clear H ho; have H := H5; clear H5)
            | (go_at_call 63; (with_reducible refine (callFree _ _ _).mono ?_); rintro e w5 ⟨rfl, ho⟩; have H5 := Lib.hid (H.out.quiet ho); clear H ho; have H := H5; clear H5)
            | (go_at_call 63; (with_reducible refine (callFreeX _ _ _ _ _ _ _ _ _ _).mono ?_); rintro e w5 ⟨rfl, ho⟩; have H5 := Lib.hid (H.out.quiet ho); clear H ho; have H := H5; clear H5))
          (try simp only [Exit.inBlock, Exit.then])
          apply hp_ret_ct tyapi_Call H
          · exact rfl
          · exact rfl
          · exact rfl
          · exact rfl
          · (repeat (first | exact List.Mem.head _ | apply List.Mem.tail))
          · exact rfl
          · exact ⟨by simp [leaveV, q0, q1, q2, q3, *, noCall], H.out.off⟩
      · go_enter Try.func16, Try.ntmps16
        go_wp2_with (first
          | ((with_reducible apply g_mem); (focus (exact rfl)); first
      | ((with_reducible apply hpA_box 24 H); (focus (exact rfl)); (focus (exact rfl)); (focus (exact rfl)); (focus (exact rfl)); intro w5 b5 H5; clear H; have H := H5; clear H5)
      | ((with_reducible apply hpA_box 26 H); (focus (exact rfl)); (focus (exact rfl)); (focus (exact rfl)); (focus (exact rfl)); intro w5 b5 H5; clear H; have H := H5; clear H5)
      | ((with_reducible apply hpA_alloc tyapi_Call H); (focus (exact rfl)); (focus (exact rfl)); intro w5 b5 H5; clear H; have H := H5; clear H5)
      | ((with_reducible apply hpA_load1 tyint H); (focus (exact rfl)); (focus (exact rfl)); (focus (first | (exact rfl) | (simp [Region.wanted]; done) | (simp only [Region.wanted]; go_simp; done))); (focus (repeat (first | exact List.Mem.head _ | apply List.Mem.tail))); (focus ((try simp only [List.getElem?_cons_zero, List.getElem?_cons_succ]); exact rfl)))
      | ((with_reducible apply hpA_store tyapi_Call H); (focus (exact rfl)); (focus (exact rfl)); (focus (exact rfl)); (focus (exact rfl)); (focus (exact rfl)); (focus (repeat (first | apply Put.head | apply Put.tail))); (focus (first | (simp; done) | (simp [Value.oneCell']; done))); (focus (first | (simp; done) | (simp [Value.oneCell']; done))); (focus ((try simp only [spl]); exact rfl)); (focus (exact rfl)); intro w5 H5; clear H; have H := H5; clear H5)
      | ((with_reducible apply hpA_load tyapi_Config H); (focus (exact rfl)); (focus (exact rfl)); (focus (first | (exact rfl) | (simp [Region.wanted]; done) | (simp only [Region.wanted]; go_simp; done))); (focus (repeat (first | exact List.Mem.head _ | apply List.Mem.tail))); (focus ((try simp only [List.drop_zero, List.drop_succ_cons, List.take_succ_cons, List.take_zero]); exact rfl)); (focus (exact rfl)))
      | ((with_reducible apply hpA_load tyapi_Call H); (focus (exact rfl)); (focus (exact rfl)); (focus (first | (exact rfl) | (simp [Region.wanted]; done) | (simp only [Region.wanted]; go_simp; done))); (focus (repeat (first | exact List.Mem.head _ | apply List.Mem.tail))); (focus ((try simp only [List.drop_zero, List.drop_succ_cons, List.take_succ_cons, List.take_zero]); exact rfl)); (focus (exact rfl)))
      | ((with_reducible apply hpA_store1 tyint H); (focus (exact rfl)); (focus (exact rfl)); (focus (exact rfl)); (focus (first | (go_simp; exact rfl) | exact rfl)); (focus (exact rfl)); (focus (repeat (first | apply Put.head | apply Put.tail))); (focus (first | (simp; done) | (simp [Value.oneCell']; done))); (focus (first | (simp; done) | (simp [Value.oneCell']; done))); (focus ((try simp only [List.set_cons_zero, List.set_cons_succ]); exact rfl)); (focus (exact rfl)); intro w5 H5; clear H; have H := H5; clear H5))
          | (go_at_call 62; (with_reducible refine (isFloorL _ _ _).mono ?_); rintro e w5 ⟨rfl, ho⟩; have H5 := Lib.hid (H.out.quiet ho); clear H ho; have H := H5; clear H5)
          | (go_at_call 62; (with_reducible refine (isFloorLX _ _ _ _ _ _ _ _ _ _ _ _ _ _ _ _ _ _ _ _).mono ?_); rintro e w5 ⟨rfl, ho⟩; have H5 := Lib.hid (H.out.quiet ho); clear H ho; have H := H5; clear H5)
          | (go_at_call 63; (with_reducible refine (callFree _ _ _).mono ?_); rintro e w5 ⟨rfl, ho⟩; have H5 := Lib.hid (H.out.quiet ho); clear H ho; have H := H5; clear H5)
          | (go_at_call 63; (with_reducible refine (callFreeX _ _ _ _ _ _ _ _ _ _).mono ?_); rintro e w5 ⟨rfl, ho⟩; have H5 := Lib.hid (H.out.quiet ho); clear H ho; have H := H5; clear H5))
        (try simp only [Exit.inBlock, Exit.then])
        apply hp_ret_ct tyapi_Call H
        · exact rfl
        · exact rfl
        · exact rfl
        · exact rfl
        · (repeat (first | exact List.Mem.head _ | apply List.Mem.tail))
        · exact rfl
        · exact ⟨by simp [leaveV, q0, q1, q2, *, noCall], H.out.off⟩
  · have d0 : (x.state == 2) = true := by simpa using q0
    rcases Bool.eq_false_or_eq_true (floorV c n) with q2 | q2
    · go_enter Try.func16, Try.ntmps16
      go_wp2_with (first
        | ((with_reducible apply g_mem); (focus (exact rfl)); first
      | ((with_reducible apply hpA_box 24 H); (focus (exact rfl)); (focus (exact rfl)); (focus (exact rfl)); (focus (exact rfl)); intro w5 b5 H5; clear H; have H := H5; clear H5)
      | ((with_reducible apply hpA_box 26 H); (focus (exact rfl)); (focus (exact rfl)); (focus (exact rfl)); (focus (exact rfl)); intro w5 b5 H5; clear H; have H := H5; clear H5)
      | ((with_reducible apply hpA_alloc tyapi_Call H); (focus (exact rfl)); (focus (exact rfl)); intro w5 b5 H5; clear H; have H := H5; clear H5)
      | ((with_reducible apply hpA_load1 tyint H); (focus (exact rfl)); (focus (exact rfl)); (focus (first | (exact rfl) | (simp [Region.wanted]; done) | (simp only [Region.wanted]; go_simp; done))); (focus (repeat (first | exact List.Mem.head _ | apply List.Mem.tail))); (focus ((try simp only [List.getElem?_cons_zero, List.getElem?_cons_succ]); exact rfl)))
      | ((with_reducible apply hpA_store tyapi_Call H); (focus (exact rfl)); (focus (exact rfl)); (focus (exact rfl)); (focus (exact rfl)); (focus (exact rfl)); (focus (repeat (first | apply Put.head | apply Put.tail))); (focus (first | (simp; done) | (simp [Value.oneCell']; done))); (focus (first | (simp; done) | (simp [Value.oneCell']; done))); (focus ((try simp only [spl]); exact rfl)); (focus (exact rfl)); intro w5 H5; clear H; have H := H5; clear H5)
      | ((with_reducible apply hpA_load tyapi_Config H); (focus (exact rfl)); (focus (exact rfl)); (focus (first | (exact rfl) | (simp [Region.wanted]; done) | (simp only [Region.wanted]; go_simp; done))); (focus (repeat (first | exact List.Mem.head _ | apply List.Mem.tail))); (focus ((try simp only [List.drop_zero, List.drop_succ_cons, List.take_succ_cons, List.take_zero]); exact rfl)); (focus (exact rfl)))
      | ((with_reducible apply hpA_load tyapi_Call H); (focus (exact rfl)); (focus (exact rfl)); (focus (first | (exact rfl) | (simp [Region.wanted]; done) | (simp only [Region.wanted]; go_simp; done))); (focus (repeat (first | exact List.Mem.head _ | apply List.Mem.tail))); (focus ((try simp only [List.drop_zero, List.drop_succ_cons, List.take_succ_cons, List.take_zero]); exact rfl)); (focus (exact rfl)))
      | ((with_reducible apply hpA_store1 tyint H); (focus (exact rfl)); (focus (exact rfl)); (focus (exact rfl)); (focus (first | (go_simp; exact rfl) | exact rfl)); (focus (exact rfl)); (focus (repeat (first | apply Put.head | apply Put.tail))); (focus (first | (simp; done) | (simp [Value.oneCell']; done))); (focus (first | (simp; done) | (simp [Value.oneCell']; done))); (focus ((try simp only [List.set_cons_zero, List.set_cons_succ]); exact rfl)); (focus (exact rfl)); intro w5 H5; clear H; have H := H5; clear H5))
        | (go_at_call 62; (with_reducible refine (isFloorL _ _ _).mono ?_); rintro e w5 ⟨rfl, ho⟩; have H5 := Lib.hid (H.out.quiet ho); clear H ho; have H := H5; clear H5)
        | (go_at_call 62; (with_reducible refine (isFloorLX _ _ _ _ _ _ _ _ _ _ _ _ _ _ _ _ _ _ _ _).mono ?_); rintro e w5 ⟨rfl, ho⟩; have H5 := Lib.hid (H.out.quiet ho); clear H ho; have H := H5; clear H5)
        | (go_at_call 63; (with_reducible refine (callFree _ _ _).mono ?_); rintro e w5 ⟨rfl, ho⟩; have H5 := Lib.hid (H.out.quiet ho); clear H ho; have H := H5; clear H5)
        | (go_at_call 63; (with_reducible refine (callFreeX _ _ _ _ _ _ _ _ _ _).mono ?_); rintro e w5 ⟨rfl, ho⟩; have H5 := Lib.hid (H.out.quiet ho); clear H ho; have H := H5; clear H5))
      (try simp only [Exit.inBlock, Exit.then])
      apply hp_ret_ct tyapi_Call H
      · exact rfl
      · exact rfl
      · exact rfl
      · exact rfl
      · (repeat (first | exact List.Mem.head _ | apply List.Mem.tail))
      · exact rfl
      · exact ⟨by simp [leaveV, q0, q2, *, noCall], H.out.off⟩
    · go_enter Try.func16, Try.ntmps16
      go_wp2_with (first
        | ((with_reducible apply g_mem); (focus (exact rfl)); first
      | ((with_reducible apply hpA_box 24 H); (focus (exact rfl)); (focus (exact rfl)); (focus (exact rfl)); (focus (exact rfl)); intro w5 b5 H5; clear H; have H := H5; clear H5)
      | ((with_reducible apply hpA_box 26 H); (focus (exact rfl)); (focus (exact rfl)); (focus (exact rfl)); (focus (exact rfl)); intro w5 b5 H5; clear H; have H := H5; clear H5)
      | ((with_reducible apply hpA_alloc tyapi_Call H); (focus (exact rfl)); (focus (exact rfl)); intro w5 b5 H5; clear H; have H := H5; clear H5)
      | ((with_reducible apply hpA_load1 tyint H); (focus (exact rfl)); (focus (exact rfl)); (focus (first | (exact rfl) | (simp [Region.wanted]; done) | (simp only [Region.wanted]; go_simp; done))); (focus (repeat (first | exact List.Mem.head _ | apply List.Mem.tail))); (focus ((try simp only [List.getElem?_cons_zero, List.getElem?_cons_succ]); exact rfl)))
      | ((with_reducible apply hpA_store tyapi_Call H); (focus (exact rfl)); (focus (exact rfl)); (focus (exact rfl)); (focus (exact rfl)); (focus (exact rfl)); (focus (repeat (first | apply Put.head | apply Put.tail))); (focus (first | (simp; done) | (simp [Value.oneCell']; done))); (focus (first | (simp; done) | (simp [Value.oneCell']; done))); (focus ((try simp only [spl]); exact rfl)); (focus (exact rfl)); intro w5 H5; clear H; have H := H5; clear H5)
      | ((with_reducible apply hpA_load tyapi_Config H); (focus (exact rfl)); (focus (exact rfl)); (focus (first | (exact rfl) | (simp [Region.wanted]; done) | (simp only [Region.wanted]; go_simp; done))); (focus (repeat (first | exact List.Mem.head _ | apply List.Mem.tail))); (focus ((try simp only [List.drop_zero, List.drop_succ_cons, List.take_succ_cons, List.take_zero]); exact rfl)); (focus (exact rfl)))
      | ((with_reducible apply hpA_load tyapi_Call H); (focus (exact rfl)); (focus (exact rfl)); (focus (first | (exact rfl) | (simp [Region.wanted]; done) | (simp only [Region.wanted]; go_simp; done))); (focus (repeat (first | exact List.Mem.head _ | apply List.Mem.tail))); (focus ((try simp only [List.drop_zero, List.drop_succ_cons, List.take_succ_cons, List.take_zero]); exact rfl)); (focus (exact rfl)))
      | ((with_reducible apply hpA_store1 tyint H); (focus (exact rfl)); (focus (exact rfl)); (focus (exact rfl)); (focus (first | (go_simp; exact rfl) | exact rfl)); (focus (exact rfl)); (focus (repeat (first | apply Put.head | apply Put.tail))); (focus (first | (simp; done) | (simp [Value.oneCell']; done))); (focus (first | (simp; done) | (simp [Value.oneCell']; done))); (focus ((try simp only [List.set_cons_zero, List.set_cons_succ]); exact rfl)); (focus (exact rfl)); intro w5 H5; clear H; have H := H5; clear H5))
        | (go_at_call 62; (with_reducible refine (isFloorL _ _ _).mono ?_); rintro e w5 ⟨rfl, ho⟩; have H5 := Lib.hid (H.out.quiet ho); clear H ho; have H := H5; clear H5)
        | (go_at_call 62; (with_reducible refine (isFloorLX _ _ _ _ _ _ _ _ _ _ _ _ _ _ _ _ _ _ _ _).mono ?_); rintro e w5 ⟨rfl, ho⟩; have H5 := Lib.hid (H.out.quiet ho); clear H ho; have H := H5; clear H5)
        | (go_at_call 63; (with_reducible refine (callFree _ _ _).mono ?_); rintro e w5 ⟨rfl, ho⟩; have H5 := Lib.hid (H.out.quiet ho); clear H ho; have H := H5; clear H5)
        | (go_at_call 63; (with_reducible refine (callFreeX _ _ _ _ _ _ _ _ _ _).mono ?_); rintro e w5 ⟨rfl, ho⟩; have H5 := Lib.hid (H.out.quiet ho); clear H ho; have H := H5; clear H5))
      (try simp only [Exit.inBlock, Exit.then])
      apply hp_ret_ct tyapi_Call H
      · exact rfl
      · exact rfl
      · exact rfl
      · exact rfl
      · (repeat (first | exact List.Mem.head _ | apply List.Mem.tail))
      · exact rfl
      · exact ⟨by simp [leaveV, q0, q2, *, noCall], H.out.off⟩
theorem callLeaveX (c_floors : Int) (c_cars : Int) (c_seats : Int) (c_calls : Int) (c_lines : Int) (c_keys : Int) (c_window : Int) (c_burst : Int) (c_rate : Int) (c_idle : Int) (c_inn : Int) (c_out : Int) (c_feed : Int) (c_retries : Int) (c_life : Int) (c_door : Int) (c_holds : Int) (c_secret : Int) (x_id : Int) (x_kind : Int) (x_src : Int) (x_dst : Int) (x_car : Int) (x_state : Int) (x_owner : Int) (x_born : Int) (n : Int) (w : World) : Calls Try.prog 16 #[.agg #[.int .i64 c_floors, .int .i64 c_cars, .int .i64 c_seats, .int .i64 c_calls, .int .i64 c_lines, .int .i64 c_keys, .int .i64 c_window, .int .i64 c_burst, .int .i64 c_rate, .int .i64 c_idle, .int .i64 c_inn, .int .i64 c_out, .int .i64 c_feed, .int .i64 c_retries, .int .i64 c_life, .int .i64 c_door, .int .i64 c_holds, .int .u32 c_secret], .agg #[.int .i64 x_id, .int .i64 x_kind, .int .i64 x_src, .int .i64 x_dst, .int .i64 x_car, .int .i64 x_state, .int .i64 x_owner, .int .i64 x_born], .int .i64 n] w fun e w' => e = .returned (.tuple #[.agg #[.int .i64 ((leaveV (⟨c_floors, c_cars, c_seats, c_calls, c_lines, c_keys, c_window, c_burst, c_rate, c_idle, c_inn, c_out, c_feed, c_retries, c_life, c_door, c_holds, c_secret⟩ : Cfg) (⟨x_id, x_kind, x_src, x_dst, x_car, x_state, x_owner, x_born⟩ : CallV) n).1).id, .int .i64 ((leaveV (⟨c_floors, c_cars, c_seats, c_calls, c_lines, c_keys, c_window, c_burst, c_rate, c_idle, c_inn, c_out, c_feed, c_retries, c_life, c_door, c_holds, c_secret⟩ : Cfg) (⟨x_id, x_kind, x_src, x_dst, x_car, x_state, x_owner, x_born⟩ : CallV) n).1).kind, .int .i64 ((leaveV (⟨c_floors, c_cars, c_seats, c_calls, c_lines, c_keys, c_window, c_burst, c_rate, c_idle, c_inn, c_out, c_feed, c_retries, c_life, c_door, c_holds, c_secret⟩ : Cfg) (⟨x_id, x_kind, x_src, x_dst, x_car, x_state, x_owner, x_born⟩ : CallV) n).1).src, .int .i64 ((leaveV (⟨c_floors, c_cars, c_seats, c_calls, c_lines, c_keys, c_window, c_burst, c_rate, c_idle, c_inn, c_out, c_feed, c_retries, c_life, c_door, c_holds, c_secret⟩ : Cfg) (⟨x_id, x_kind, x_src, x_dst, x_car, x_state, x_owner, x_born⟩ : CallV) n).1).dst, .int .i64 ((leaveV (⟨c_floors, c_cars, c_seats, c_calls, c_lines, c_keys, c_window, c_burst, c_rate, c_idle, c_inn, c_out, c_feed, c_retries, c_life, c_door, c_holds, c_secret⟩ : Cfg) (⟨x_id, x_kind, x_src, x_dst, x_car, x_state, x_owner, x_born⟩ : CallV) n).1).car, .int .i64 ((leaveV (⟨c_floors, c_cars, c_seats, c_calls, c_lines, c_keys, c_window, c_burst, c_rate, c_idle, c_inn, c_out, c_feed, c_retries, c_life, c_door, c_holds, c_secret⟩ : Cfg) (⟨x_id, x_kind, x_src, x_dst, x_car, x_state, x_owner, x_born⟩ : CallV) n).1).state, .int .i64 ((leaveV (⟨c_floors, c_cars, c_seats, c_calls, c_lines, c_keys, c_window, c_burst, c_rate, c_idle, c_inn, c_out, c_feed, c_retries, c_life, c_door, c_holds, c_secret⟩ : Cfg) (⟨x_id, x_kind, x_src, x_dst, x_car, x_state, x_owner, x_born⟩ : CallV) n).1).owner, .int .i64 ((leaveV (⟨c_floors, c_cars, c_seats, c_calls, c_lines, c_keys, c_window, c_burst, c_rate, c_idle, c_inn, c_out, c_feed, c_retries, c_life, c_door, c_holds, c_secret⟩ : Cfg) (⟨x_id, x_kind, x_src, x_dst, x_car, x_state, x_owner, x_born⟩ : CallV) n).1).born], .int .i64 (leaveV (⟨c_floors, c_cars, c_seats, c_calls, c_lines, c_keys, c_window, c_burst, c_rate, c_idle, c_inn, c_out, c_feed, c_retries, c_life, c_door, c_holds, c_secret⟩ : Cfg) (⟨x_id, x_kind, x_src, x_dst, x_car, x_state, x_owner, x_born⟩ : CallV) n).2]) ∧ Off [] w w' := callLeave (⟨c_floors, c_cars, c_seats, c_calls, c_lines, c_keys, c_window, c_burst, c_rate, c_idle, c_inn, c_out, c_feed, c_retries, c_life, c_door, c_holds, c_secret⟩ : Cfg) (⟨x_id, x_kind, x_src, x_dst, x_car, x_state, x_owner, x_born⟩ : CallV) n w
set_option maxHeartbeats 16000000 in
theorem callBoard (x : CallV) (w : World) : Calls Try.prog 17 #[.agg #[.int .i64 x.id, .int .i64 x.kind, .int .i64 x.src, .int .i64 x.dst, .int .i64 x.car, .int .i64 x.state, .int .i64 x.owner, .int .i64 x.born]] w fun e w' => e = .returned (.tuple #[.agg #[.int .i64 ((boardV x).1).id, .int .i64 ((boardV x).1).kind, .int .i64 ((boardV x).1).src, .int .i64 ((boardV x).1).dst, .int .i64 ((boardV x).1).car, .int .i64 ((boardV x).1).state, .int .i64 ((boardV x).1).owner, .int .i64 ((boardV x).1).born], .int .i64 (boardV x).2]) ∧ Off [] w w' := by
  have H := Lib.hid (Hp.start [] w)
  rcases Bool.eq_false_or_eq_true (x.state == 2) with q0 | q0
  · rcases Bool.eq_false_or_eq_true (x.kind == 4) with q1 | q1
    · go_enter Try.func17, Try.ntmps17
      go_wp2_with (first
        | ((with_reducible apply g_mem); (focus (exact rfl)); first
      | ((with_reducible apply hpA_box 26 H); (focus (exact rfl)); (focus (exact rfl)); (focus (exact rfl)); (focus (exact rfl)); intro w5 b5 H5; clear H; have H := H5; clear H5)
      | ((with_reducible apply hpA_alloc tyapi_Call H); (focus (exact rfl)); (focus (exact rfl)); intro w5 b5 H5; clear H; have H := H5; clear H5)
      | ((with_reducible apply hpA_load tyapi_Call H); (focus (exact rfl)); (focus (exact rfl)); (focus (first | (exact rfl) | (simp [Region.wanted]; done) | (simp only [Region.wanted]; go_simp; done))); (focus (repeat (first | exact List.Mem.head _ | apply List.Mem.tail))); (focus ((try simp only [List.drop_zero, List.drop_succ_cons, List.take_succ_cons, List.take_zero]); exact rfl)); (focus (exact rfl)))
      | ((with_reducible apply hpA_load1 tyint H); (focus (exact rfl)); (focus (exact rfl)); (focus (first | (exact rfl) | (simp [Region.wanted]; done) | (simp only [Region.wanted]; go_simp; done))); (focus (repeat (first | exact List.Mem.head _ | apply List.Mem.tail))); (focus ((try simp only [List.getElem?_cons_zero, List.getElem?_cons_succ]); exact rfl)))
      | ((with_reducible apply hpA_store tyapi_Call H); (focus (exact rfl)); (focus (exact rfl)); (focus (exact rfl)); (focus (exact rfl)); (focus (exact rfl)); (focus (repeat (first | apply Put.head | apply Put.tail))); (focus (first | (simp; done) | (simp [Value.oneCell']; done))); (focus (first | (simp; done) | (simp [Value.oneCell']; done))); (focus ((try simp only [spl]); exact rfl)); (focus (exact rfl)); intro w5 H5; clear H; have H := H5; clear H5))
        | (go_at_call 64; (with_reducible refine (callTo _ _ _ _).mono ?_); rintro e w5 ⟨rfl, ho⟩; have H5 := Lib.hid (H.out.quiet ho); clear H ho; have H := H5; clear H5)
        | (go_at_call 64; (with_reducible refine (callToX _ _ _ _ _ _ _ _ _ _ _).mono ?_); rintro e w5 ⟨rfl, ho⟩; have H5 := Lib.hid (H.out.quiet ho); clear H ho; have H := H5; clear H5))
      (try simp only [Exit.inBlock, Exit.then])
      apply hp_ret_ct tyapi_Call H
      · exact rfl
      · exact rfl
      · exact rfl
      · exact rfl
      · (repeat (first | exact List.Mem.head _ | apply List.Mem.tail))
      · exact rfl
      · exact ⟨by simp [boardV, q0, q1, noCall], H.out.off⟩
    · go_enter Try.func17, Try.ntmps17
      go_wp2_with (first
        | ((with_reducible apply g_mem); (focus (exact rfl)); first
      | ((with_reducible apply hpA_box 26 H); (focus (exact rfl)); (focus (exact rfl)); (focus (exact rfl)); (focus (exact rfl)); intro w5 b5 H5; clear H; have H := H5; clear H5)
      | ((with_reducible apply hpA_alloc tyapi_Call H); (focus (exact rfl)); (focus (exact rfl)); intro w5 b5 H5; clear H; have H := H5; clear H5)
      | ((with_reducible apply hpA_load tyapi_Call H); (focus (exact rfl)); (focus (exact rfl)); (focus (first | (exact rfl) | (simp [Region.wanted]; done) | (simp only [Region.wanted]; go_simp; done))); (focus (repeat (first | exact List.Mem.head _ | apply List.Mem.tail))); (focus ((try simp only [List.drop_zero, List.drop_succ_cons, List.take_succ_cons, List.take_zero]); exact rfl)); (focus (exact rfl)))
      | ((with_reducible apply hpA_load1 tyint H); (focus (exact rfl)); (focus (exact rfl)); (focus (first | (exact rfl) | (simp [Region.wanted]; done) | (simp only [Region.wanted]; go_simp; done))); (focus (repeat (first | exact List.Mem.head _ | apply List.Mem.tail))); (focus ((try simp only [List.getElem?_cons_zero, List.getElem?_cons_succ]); exact rfl)))
      | ((with_reducible apply hpA_store tyapi_Call H); (focus (exact rfl)); (focus (exact rfl)); (focus (exact rfl)); (focus (exact rfl)); (focus (exact rfl)); (focus (repeat (first | apply Put.head | apply Put.tail))); (focus (first | (simp; done) | (simp [Value.oneCell']; done))); (focus (first | (simp; done) | (simp [Value.oneCell']; done))); (focus ((try simp only [spl]); exact rfl)); (focus (exact rfl)); intro w5 H5; clear H; have H := H5; clear H5))
        | (go_at_call 64; (with_reducible refine (callTo _ _ _ _).mono ?_); rintro e w5 ⟨rfl, ho⟩; have H5 := Lib.hid (H.out.quiet ho); clear H ho; have H := H5; clear H5)
        | (go_at_call 64; (with_reducible refine (callToX _ _ _ _ _ _ _ _ _ _ _).mono ?_); rintro e w5 ⟨rfl, ho⟩; have H5 := Lib.hid (H.out.quiet ho); clear H ho; have H := H5; clear H5))
      (try simp only [Exit.inBlock, Exit.then])
      apply hp_ret_ct tyapi_Call H
      · exact rfl
      · exact rfl
      · exact rfl
      · exact rfl
      · (repeat (first | exact List.Mem.head _ | apply List.Mem.tail))
      · exact rfl
      · exact ⟨by simp [boardV, q0, q1, noCall], H.out.off⟩
  · go_enter Try.func17, Try.ntmps17
    go_wp2_with (first
      | ((with_reducible apply g_mem); (focus (exact rfl)); first
      | ((with_reducible apply hpA_box 26 H); (focus (exact rfl)); (focus (exact rfl)); (focus (exact rfl)); (focus (exact rfl)); intro w5 b5 H5; clear H; have H := H5; clear H5)
      | ((with_reducible apply hpA_alloc tyapi_Call H); (focus (exact rfl)); (focus (exact rfl)); intro w5 b5 H5; clear H; have H := H5; clear H5)
      | ((with_reducible apply hpA_load tyapi_Call H); (focus (exact rfl)); (focus (exact rfl)); (focus (first | (exact rfl) | (simp [Region.wanted]; done) | (simp only [Region.wanted]; go_simp; done))); (focus (repeat (first | exact List.Mem.head _ | apply List.Mem.tail))); (focus ((try simp only [List.drop_zero, List.drop_succ_cons, List.take_succ_cons, List.take_zero]); exact rfl)); (focus (exact rfl)))
      | ((with_reducible apply hpA_load1 tyint H); (focus (exact rfl)); (focus (exact rfl)); (focus (first | (exact rfl) | (simp [Region.wanted]; done) | (simp only [Region.wanted]; go_simp; done))); (focus (repeat (first | exact List.Mem.head _ | apply List.Mem.tail))); (focus ((try simp only [List.getElem?_cons_zero, List.getElem?_cons_succ]); exact rfl)))
      | ((with_reducible apply hpA_store tyapi_Call H); (focus (exact rfl)); (focus (exact rfl)); (focus (exact rfl)); (focus (exact rfl)); (focus (exact rfl)); (focus (repeat (first | apply Put.head | apply Put.tail))); (focus (first | (simp; done) | (simp [Value.oneCell']; done))); (focus (first | (simp; done) | (simp [Value.oneCell']; done))); (focus ((try simp only [spl]); exact rfl)); (focus (exact rfl)); intro w5 H5; clear H; have H := H5; clear H5))
      | (go_at_call 64; (with_reducible refine (callTo _ _ _ _).mono ?_); rintro e w5 ⟨rfl, ho⟩; have H5 := Lib.hid (H.out.quiet ho); clear H ho; have H := H5; clear H5)
      | (go_at_call 64; (with_reducible refine (callToX _ _ _ _ _ _ _ _ _ _ _).mono ?_); rintro e w5 ⟨rfl, ho⟩; have H5 := Lib.hid (H.out.quiet ho); clear H ho; have H := H5; clear H5))
    (try simp only [Exit.inBlock, Exit.then])
    apply hp_ret_ct tyapi_Call H
    · exact rfl
    · exact rfl
    · exact rfl
    · exact rfl
    · (repeat (first | exact List.Mem.head _ | apply List.Mem.tail))
    · exact rfl
    · exact ⟨by simp [boardV, q0, noCall], H.out.off⟩
theorem callBoardX (x_id : Int) (x_kind : Int) (x_src : Int) (x_dst : Int) (x_car : Int) (x_state : Int) (x_owner : Int) (x_born : Int) (w : World) : Calls Try.prog 17 #[.agg #[.int .i64 x_id, .int .i64 x_kind, .int .i64 x_src, .int .i64 x_dst, .int .i64 x_car, .int .i64 x_state, .int .i64 x_owner, .int .i64 x_born]] w fun e w' => e = .returned (.tuple #[.agg #[.int .i64 ((boardV (⟨x_id, x_kind, x_src, x_dst, x_car, x_state, x_owner, x_born⟩ : CallV)).1).id, .int .i64 ((boardV (⟨x_id, x_kind, x_src, x_dst, x_car, x_state, x_owner, x_born⟩ : CallV)).1).kind, .int .i64 ((boardV (⟨x_id, x_kind, x_src, x_dst, x_car, x_state, x_owner, x_born⟩ : CallV)).1).src, .int .i64 ((boardV (⟨x_id, x_kind, x_src, x_dst, x_car, x_state, x_owner, x_born⟩ : CallV)).1).dst, .int .i64 ((boardV (⟨x_id, x_kind, x_src, x_dst, x_car, x_state, x_owner, x_born⟩ : CallV)).1).car, .int .i64 ((boardV (⟨x_id, x_kind, x_src, x_dst, x_car, x_state, x_owner, x_born⟩ : CallV)).1).state, .int .i64 ((boardV (⟨x_id, x_kind, x_src, x_dst, x_car, x_state, x_owner, x_born⟩ : CallV)).1).owner, .int .i64 ((boardV (⟨x_id, x_kind, x_src, x_dst, x_car, x_state, x_owner, x_born⟩ : CallV)).1).born], .int .i64 (boardV (⟨x_id, x_kind, x_src, x_dst, x_car, x_state, x_owner, x_born⟩ : CallV)).2]) ∧ Off [] w w' := callBoard (⟨x_id, x_kind, x_src, x_dst, x_car, x_state, x_owner, x_born⟩ : CallV) w
set_option maxHeartbeats 16000000 in
theorem callServe (x : CallV) (w : World) : Calls Try.prog 18 #[.agg #[.int .i64 x.id, .int .i64 x.kind, .int .i64 x.src, .int .i64 x.dst, .int .i64 x.car, .int .i64 x.state, .int .i64 x.owner, .int .i64 x.born]] w fun e w' => e = .returned (.tuple #[.agg #[.int .i64 ((serveV x).1).id, .int .i64 ((serveV x).1).kind, .int .i64 ((serveV x).1).src, .int .i64 ((serveV x).1).dst, .int .i64 ((serveV x).1).car, .int .i64 ((serveV x).1).state, .int .i64 ((serveV x).1).owner, .int .i64 ((serveV x).1).born], .int .i64 (serveV x).2]) ∧ Off [] w w' := by
  have H := Lib.hid (Hp.start [] w)
  rcases Bool.eq_false_or_eq_true (x.state == 3) with q0 | q0
  · go_enter Try.func18, Try.ntmps18
    go_wp2_with (first
      | ((with_reducible apply g_mem); (focus (exact rfl)); first
      | ((with_reducible apply hpA_box 26 H); (focus (exact rfl)); (focus (exact rfl)); (focus (exact rfl)); (focus (exact rfl)); intro w5 b5 H5; clear H; have H := H5; clear H5)
      | ((with_reducible apply hpA_alloc tyapi_Call H); (focus (exact rfl)); (focus (exact rfl)); intro w5 b5 H5; clear H; have H := H5; clear H5)
      | ((with_reducible apply hpA_load tyapi_Call H); (focus (exact rfl)); (focus (exact rfl)); (focus (first | (exact rfl) | (simp [Region.wanted]; done) | (simp only [Region.wanted]; go_simp; done))); (focus (repeat (first | exact List.Mem.head _ | apply List.Mem.tail))); (focus ((try simp only [List.drop_zero, List.drop_succ_cons, List.take_succ_cons, List.take_zero]); exact rfl)); (focus (exact rfl)))
      | ((with_reducible apply hpA_load1 tyint H); (focus (exact rfl)); (focus (exact rfl)); (focus (first | (exact rfl) | (simp [Region.wanted]; done) | (simp only [Region.wanted]; go_simp; done))); (focus (repeat (first | exact List.Mem.head _ | apply List.Mem.tail))); (focus ((try simp only [List.getElem?_cons_zero, List.getElem?_cons_succ]); exact rfl)))
      | ((with_reducible apply hpA_store tyapi_Call H); (focus (exact rfl)); (focus (exact rfl)); (focus (exact rfl)); (focus (exact rfl)); (focus (exact rfl)); (focus (repeat (first | apply Put.head | apply Put.tail))); (focus (first | (simp; done) | (simp [Value.oneCell']; done))); (focus (first | (simp; done) | (simp [Value.oneCell']; done))); (focus ((try simp only [spl]); exact rfl)); (focus (exact rfl)); intro w5 H5; clear H; have H := H5; clear H5))
      | (go_at_call 64; (with_reducible refine (callTo _ _ _ _).mono ?_); rintro e w5 ⟨rfl, ho⟩; have H5 := Lib.hid (H.out.quiet ho); clear H ho; have H := H5; clear H5)
      | (go_at_call 64; (with_reducible refine (callToX _ _ _ _ _ _ _ _ _ _ _).mono ?_); rintro e w5 ⟨rfl, ho⟩; have H5 := Lib.hid (H.out.quiet ho); clear H ho; have H := H5; clear H5))
    (try simp only [Exit.inBlock, Exit.then])
    apply hp_ret_ct tyapi_Call H
    · exact rfl
    · exact rfl
    · exact rfl
    · exact rfl
    · (repeat (first | exact List.Mem.head _ | apply List.Mem.tail))
    · exact rfl
    · exact ⟨by simp [serveV, q0, noCall], H.out.off⟩
  · rcases Bool.eq_false_or_eq_true (x.state == 2) with q1 | q1
    · rcases Bool.eq_false_or_eq_true (x.kind != 4) with q2 | q2
      · go_enter Try.func18, Try.ntmps18
        go_wp2_with (first
          | ((with_reducible apply g_mem); (focus (exact rfl)); first
      | ((with_reducible apply hpA_box 26 H); (focus (exact rfl)); (focus (exact rfl)); (focus (exact rfl)); (focus (exact rfl)); intro w5 b5 H5; clear H; have H := H5; clear H5)
      | ((with_reducible apply hpA_alloc tyapi_Call H); (focus (exact rfl)); (focus (exact rfl)); intro w5 b5 H5; clear H; have H := H5; clear H5)
      | ((with_reducible apply hpA_load tyapi_Call H); (focus (exact rfl)); (focus (exact rfl)); (focus (first | (exact rfl) | (simp [Region.wanted]; done) | (simp only [Region.wanted]; go_simp; done))); (focus (repeat (first | exact List.Mem.head _ | apply List.Mem.tail))); (focus ((try simp only [List.drop_zero, List.drop_succ_cons, List.take_succ_cons, List.take_zero]); exact rfl)); (focus (exact rfl)))
      | ((with_reducible apply hpA_load1 tyint H); (focus (exact rfl)); (focus (exact rfl)); (focus (first | (exact rfl) | (simp [Region.wanted]; done) | (simp only [Region.wanted]; go_simp; done))); (focus (repeat (first | exact List.Mem.head _ | apply List.Mem.tail))); (focus ((try simp only [List.getElem?_cons_zero, List.getElem?_cons_succ]); exact rfl)))
      | ((with_reducible apply hpA_store tyapi_Call H); (focus (exact rfl)); (focus (exact rfl)); (focus (exact rfl)); (focus (exact rfl)); (focus (exact rfl)); (focus (repeat (first | apply Put.head | apply Put.tail))); (focus (first | (simp; done) | (simp [Value.oneCell']; done))); (focus (first | (simp; done) | (simp [Value.oneCell']; done))); (focus ((try simp only [spl]); exact rfl)); (focus (exact rfl)); intro w5 H5; clear H; have H := H5; clear H5))
          | (go_at_call 64; (with_reducible refine (callTo _ _ _ _).mono ?_); rintro e w5 ⟨rfl, ho⟩; have H5 := Lib.hid (H.out.quiet ho); clear H ho; have H := H5; clear H5)
          | (go_at_call 64; (with_reducible refine (callToX _ _ _ _ _ _ _ _ _ _ _).mono ?_); rintro e w5 ⟨rfl, ho⟩; have H5 := Lib.hid (H.out.quiet ho); clear H ho; have H := H5; clear H5))
        (try simp only [Exit.inBlock, Exit.then])
        apply hp_ret_ct tyapi_Call H
        · exact rfl
        · exact rfl
        · exact rfl
        · exact rfl
        · (repeat (first | exact List.Mem.head _ | apply List.Mem.tail))
        · exact rfl
        · exact ⟨by simp [serveV, q0, q1, q2, noCall], H.out.off⟩
      · go_enter Try.func18, Try.ntmps18
        go_wp2_with (first
          | ((with_reducible apply g_mem); (focus (exact rfl)); first
      | ((with_reducible apply hpA_box 26 H); (focus (exact rfl)); (focus (exact rfl)); (focus (exact rfl)); (focus (exact rfl)); intro w5 b5 H5; clear H; have H := H5; clear H5)
      | ((with_reducible apply hpA_alloc tyapi_Call H); (focus (exact rfl)); (focus (exact rfl)); intro w5 b5 H5; clear H; have H := H5; clear H5)
      | ((with_reducible apply hpA_load tyapi_Call H); (focus (exact rfl)); (focus (exact rfl)); (focus (first | (exact rfl) | (simp [Region.wanted]; done) | (simp only [Region.wanted]; go_simp; done))); (focus (repeat (first | exact List.Mem.head _ | apply List.Mem.tail))); (focus ((try simp only [List.drop_zero, List.drop_succ_cons, List.take_succ_cons, List.take_zero]); exact rfl)); (focus (exact rfl)))
      | ((with_reducible apply hpA_load1 tyint H); (focus (exact rfl)); (focus (exact rfl)); (focus (first | (exact rfl) | (simp [Region.wanted]; done) | (simp only [Region.wanted]; go_simp; done))); (focus (repeat (first | exact List.Mem.head _ | apply List.Mem.tail))); (focus ((try simp only [List.getElem?_cons_zero, List.getElem?_cons_succ]); exact rfl)))
      | ((with_reducible apply hpA_store tyapi_Call H); (focus (exact rfl)); (focus (exact rfl)); (focus (exact rfl)); (focus (exact rfl)); (focus (exact rfl)); (focus (repeat (first | apply Put.head | apply Put.tail))); (focus (first | (simp; done) | (simp [Value.oneCell']; done))); (focus (first | (simp; done) | (simp [Value.oneCell']; done))); (focus ((try simp only [spl]); exact rfl)); (focus (exact rfl)); intro w5 H5; clear H; have H := H5; clear H5))
          | (go_at_call 64; (with_reducible refine (callTo _ _ _ _).mono ?_); rintro e w5 ⟨rfl, ho⟩; have H5 := Lib.hid (H.out.quiet ho); clear H ho; have H := H5; clear H5)
          | (go_at_call 64; (with_reducible refine (callToX _ _ _ _ _ _ _ _ _ _ _).mono ?_); rintro e w5 ⟨rfl, ho⟩; have H5 := Lib.hid (H.out.quiet ho); clear H ho; have H := H5; clear H5))
        (try simp only [Exit.inBlock, Exit.then])
        apply hp_ret_ct tyapi_Call H
        · exact rfl
        · exact rfl
        · exact rfl
        · exact rfl
        · (repeat (first | exact List.Mem.head _ | apply List.Mem.tail))
        · exact rfl
        · exact ⟨by simp [serveV, q0, q1, q2, noCall], H.out.off⟩
    · go_enter Try.func18, Try.ntmps18
      go_wp2_with (first
        | ((with_reducible apply g_mem); (focus (exact rfl)); first
      | ((with_reducible apply hpA_box 26 H); (focus (exact rfl)); (focus (exact rfl)); (focus (exact rfl)); (focus (exact rfl)); intro w5 b5 H5; clear H; have H := H5; clear H5)
      | ((with_reducible apply hpA_alloc tyapi_Call H); (focus (exact rfl)); (focus (exact rfl)); intro w5 b5 H5; clear H; have H := H5; clear H5)
      | ((with_reducible apply hpA_load tyapi_Call H); (focus (exact rfl)); (focus (exact rfl)); (focus (first | (exact rfl) | (simp [Region.wanted]; done) | (simp only [Region.wanted]; go_simp; done))); (focus (repeat (first | exact List.Mem.head _ | apply List.Mem.tail))); (focus ((try simp only [List.drop_zero, List.drop_succ_cons, List.take_succ_cons, List.take_zero]); exact rfl)); (focus (exact rfl)))
      | ((with_reducible apply hpA_load1 tyint H); (focus (exact rfl)); (focus (exact rfl)); (focus (first | (exact rfl) | (simp [Region.wanted]; done) | (simp only [Region.wanted]; go_simp; done))); (focus (repeat (first | exact List.Mem.head _ | apply List.Mem.tail))); (focus ((try simp only [List.getElem?_cons_zero, List.getElem?_cons_succ]); exact rfl)))
      | ((with_reducible apply hpA_store tyapi_Call H); (focus (exact rfl)); (focus (exact rfl)); (focus (exact rfl)); (focus (exact rfl)); (focus (exact rfl)); (focus (repeat (first | apply Put.head | apply Put.tail))); (focus (first | (simp; done) | (simp [Value.oneCell']; done))); (focus (first | (simp; done) | (simp [Value.oneCell']; done))); (focus ((try simp only [spl]); exact rfl)); (focus (exact rfl)); intro w5 H5; clear H; have H := H5; clear H5))
        | (go_at_call 64; (with_reducible refine (callTo _ _ _ _).mono ?_); rintro e w5 ⟨rfl, ho⟩; have H5 := Lib.hid (H.out.quiet ho); clear H ho; have H := H5; clear H5)
        | (go_at_call 64; (with_reducible refine (callToX _ _ _ _ _ _ _ _ _ _ _).mono ?_); rintro e w5 ⟨rfl, ho⟩; have H5 := Lib.hid (H.out.quiet ho); clear H ho; have H := H5; clear H5))
      (try simp only [Exit.inBlock, Exit.then])
      apply hp_ret_ct tyapi_Call H
      · exact rfl
      · exact rfl
      · exact rfl
      · exact rfl
      · (repeat (first | exact List.Mem.head _ | apply List.Mem.tail))
      · exact rfl
      · exact ⟨by simp [serveV, q0, q1, noCall], H.out.off⟩
theorem callServeX (x_id : Int) (x_kind : Int) (x_src : Int) (x_dst : Int) (x_car : Int) (x_state : Int) (x_owner : Int) (x_born : Int) (w : World) : Calls Try.prog 18 #[.agg #[.int .i64 x_id, .int .i64 x_kind, .int .i64 x_src, .int .i64 x_dst, .int .i64 x_car, .int .i64 x_state, .int .i64 x_owner, .int .i64 x_born]] w fun e w' => e = .returned (.tuple #[.agg #[.int .i64 ((serveV (⟨x_id, x_kind, x_src, x_dst, x_car, x_state, x_owner, x_born⟩ : CallV)).1).id, .int .i64 ((serveV (⟨x_id, x_kind, x_src, x_dst, x_car, x_state, x_owner, x_born⟩ : CallV)).1).kind, .int .i64 ((serveV (⟨x_id, x_kind, x_src, x_dst, x_car, x_state, x_owner, x_born⟩ : CallV)).1).src, .int .i64 ((serveV (⟨x_id, x_kind, x_src, x_dst, x_car, x_state, x_owner, x_born⟩ : CallV)).1).dst, .int .i64 ((serveV (⟨x_id, x_kind, x_src, x_dst, x_car, x_state, x_owner, x_born⟩ : CallV)).1).car, .int .i64 ((serveV (⟨x_id, x_kind, x_src, x_dst, x_car, x_state, x_owner, x_born⟩ : CallV)).1).state, .int .i64 ((serveV (⟨x_id, x_kind, x_src, x_dst, x_car, x_state, x_owner, x_born⟩ : CallV)).1).owner, .int .i64 ((serveV (⟨x_id, x_kind, x_src, x_dst, x_car, x_state, x_owner, x_born⟩ : CallV)).1).born], .int .i64 (serveV (⟨x_id, x_kind, x_src, x_dst, x_car, x_state, x_owner, x_born⟩ : CallV)).2]) ∧ Off [] w w' := callServe (⟨x_id, x_kind, x_src, x_dst, x_car, x_state, x_owner, x_born⟩ : CallV) w
set_option maxHeartbeats 16000000 in
theorem callCancel (x : CallV) (w : World) : Calls Try.prog 19 #[.agg #[.int .i64 x.id, .int .i64 x.kind, .int .i64 x.src, .int .i64 x.dst, .int .i64 x.car, .int .i64 x.state, .int .i64 x.owner, .int .i64 x.born]] w fun e w' => e = .returned (.tuple #[.agg #[.int .i64 ((cancelV x).1).id, .int .i64 ((cancelV x).1).kind, .int .i64 ((cancelV x).1).src, .int .i64 ((cancelV x).1).dst, .int .i64 ((cancelV x).1).car, .int .i64 ((cancelV x).1).state, .int .i64 ((cancelV x).1).owner, .int .i64 ((cancelV x).1).born], .int .i64 (cancelV x).2]) ∧ Off [] w w' := by
  have H := Lib.hid (Hp.start [] w)
  rcases Bool.eq_false_or_eq_true (x.state == 1) with q0 | q0
  · go_enter Try.func19, Try.ntmps19
    go_wp2_with (first
      | ((with_reducible apply g_mem); (focus (exact rfl)); first
      | ((with_reducible apply hpA_box 26 H); (focus (exact rfl)); (focus (exact rfl)); (focus (exact rfl)); (focus (exact rfl)); intro w5 b5 H5; clear H; have H := H5; clear H5)
      | ((with_reducible apply hpA_alloc tyapi_Call H); (focus (exact rfl)); (focus (exact rfl)); intro w5 b5 H5; clear H; have H := H5; clear H5)
      | ((with_reducible apply hpA_load tyapi_Call H); (focus (exact rfl)); (focus (exact rfl)); (focus (first | (exact rfl) | (simp [Region.wanted]; done) | (simp only [Region.wanted]; go_simp; done))); (focus (repeat (first | exact List.Mem.head _ | apply List.Mem.tail))); (focus ((try simp only [List.drop_zero, List.drop_succ_cons, List.take_succ_cons, List.take_zero]); exact rfl)); (focus (exact rfl)))
      | ((with_reducible apply hpA_load1 tyint H); (focus (exact rfl)); (focus (exact rfl)); (focus (first | (exact rfl) | (simp [Region.wanted]; done) | (simp only [Region.wanted]; go_simp; done))); (focus (repeat (first | exact List.Mem.head _ | apply List.Mem.tail))); (focus ((try simp only [List.getElem?_cons_zero, List.getElem?_cons_succ]); exact rfl)))
      | ((with_reducible apply hpA_store tyapi_Call H); (focus (exact rfl)); (focus (exact rfl)); (focus (exact rfl)); (focus (exact rfl)); (focus (exact rfl)); (focus (repeat (first | apply Put.head | apply Put.tail))); (focus (first | (simp; done) | (simp [Value.oneCell']; done))); (focus (first | (simp; done) | (simp [Value.oneCell']; done))); (focus ((try simp only [spl]); exact rfl)); (focus (exact rfl)); intro w5 H5; clear H; have H := H5; clear H5))
      | (go_at_call 64; (with_reducible refine (callTo _ _ _ _).mono ?_); rintro e w5 ⟨rfl, ho⟩; have H5 := Lib.hid (H.out.quiet ho); clear H ho; have H := H5; clear H5)
      | (go_at_call 64; (with_reducible refine (callToX _ _ _ _ _ _ _ _ _ _ _).mono ?_); rintro e w5 ⟨rfl, ho⟩; have H5 := Lib.hid (H.out.quiet ho); clear H ho; have H := H5; clear H5))
    (try simp only [Exit.inBlock, Exit.then])
    apply hp_ret_ct tyapi_Call H
    · exact rfl
    · exact rfl
    · exact rfl
    · exact rfl
    · (repeat (first | exact List.Mem.head _ | apply List.Mem.tail))
    · exact rfl
    · exact ⟨by simp [cancelV, q0, noCall], H.out.off⟩
  · rcases Bool.eq_false_or_eq_true (x.state == 2) with q1 | q1
    · go_enter Try.func19, Try.ntmps19
      go_wp2_with (first
        | ((with_reducible apply g_mem); (focus (exact rfl)); first
      | ((with_reducible apply hpA_box 26 H); (focus (exact rfl)); (focus (exact rfl)); (focus (exact rfl)); (focus (exact rfl)); intro w5 b5 H5; clear H; have H := H5; clear H5)
      | ((with_reducible apply hpA_alloc tyapi_Call H); (focus (exact rfl)); (focus (exact rfl)); intro w5 b5 H5; clear H; have H := H5; clear H5)
      | ((with_reducible apply hpA_load tyapi_Call H); (focus (exact rfl)); (focus (exact rfl)); (focus (first | (exact rfl) | (simp [Region.wanted]; done) | (simp only [Region.wanted]; go_simp; done))); (focus (repeat (first | exact List.Mem.head _ | apply List.Mem.tail))); (focus ((try simp only [List.drop_zero, List.drop_succ_cons, List.take_succ_cons, List.take_zero]); exact rfl)); (focus (exact rfl)))
      | ((with_reducible apply hpA_load1 tyint H); (focus (exact rfl)); (focus (exact rfl)); (focus (first | (exact rfl) | (simp [Region.wanted]; done) | (simp only [Region.wanted]; go_simp; done))); (focus (repeat (first | exact List.Mem.head _ | apply List.Mem.tail))); (focus ((try simp only [List.getElem?_cons_zero, List.getElem?_cons_succ]); exact rfl)))
      | ((with_reducible apply hpA_store tyapi_Call H); (focus (exact rfl)); (focus (exact rfl)); (focus (exact rfl)); (focus (exact rfl)); (focus (exact rfl)); (focus (repeat (first | apply Put.head | apply Put.tail))); (focus (first | (simp; done) | (simp [Value.oneCell']; done))); (focus (first | (simp; done) | (simp [Value.oneCell']; done))); (focus ((try simp only [spl]); exact rfl)); (focus (exact rfl)); intro w5 H5; clear H; have H := H5; clear H5))
        | (go_at_call 64; (with_reducible refine (callTo _ _ _ _).mono ?_); rintro e w5 ⟨rfl, ho⟩; have H5 := Lib.hid (H.out.quiet ho); clear H ho; have H := H5; clear H5)
        | (go_at_call 64; (with_reducible refine (callToX _ _ _ _ _ _ _ _ _ _ _).mono ?_); rintro e w5 ⟨rfl, ho⟩; have H5 := Lib.hid (H.out.quiet ho); clear H ho; have H := H5; clear H5))
      (try simp only [Exit.inBlock, Exit.then])
      apply hp_ret_ct tyapi_Call H
      · exact rfl
      · exact rfl
      · exact rfl
      · exact rfl
      · (repeat (first | exact List.Mem.head _ | apply List.Mem.tail))
      · exact rfl
      · exact ⟨by simp [cancelV, q0, q1, noCall], H.out.off⟩
    · go_enter Try.func19, Try.ntmps19
      go_wp2_with (first
        | ((with_reducible apply g_mem); (focus (exact rfl)); first
      | ((with_reducible apply hpA_box 26 H); (focus (exact rfl)); (focus (exact rfl)); (focus (exact rfl)); (focus (exact rfl)); intro w5 b5 H5; clear H; have H := H5; clear H5)
      | ((with_reducible apply hpA_alloc tyapi_Call H); (focus (exact rfl)); (focus (exact rfl)); intro w5 b5 H5; clear H; have H := H5; clear H5)
      | ((with_reducible apply hpA_load tyapi_Call H); (focus (exact rfl)); (focus (exact rfl)); (focus (first | (exact rfl) | (simp [Region.wanted]; done) | (simp only [Region.wanted]; go_simp; done))); (focus (repeat (first | exact List.Mem.head _ | apply List.Mem.tail))); (focus ((try simp only [List.drop_zero, List.drop_succ_cons, List.take_succ_cons, List.take_zero]); exact rfl)); (focus (exact rfl)))
      | ((with_reducible apply hpA_load1 tyint H); (focus (exact rfl)); (focus (exact rfl)); (focus (first | (exact rfl) | (simp [Region.wanted]; done) | (simp only [Region.wanted]; go_simp; done))); (focus (repeat (first | exact List.Mem.head _ | apply List.Mem.tail))); (focus ((try simp only [List.getElem?_cons_zero, List.getElem?_cons_succ]); exact rfl)))
      | ((with_reducible apply hpA_store tyapi_Call H); (focus (exact rfl)); (focus (exact rfl)); (focus (exact rfl)); (focus (exact rfl)); (focus (exact rfl)); (focus (repeat (first | apply Put.head | apply Put.tail))); (focus (first | (simp; done) | (simp [Value.oneCell']; done))); (focus (first | (simp; done) | (simp [Value.oneCell']; done))); (focus ((try simp only [spl]); exact rfl)); (focus (exact rfl)); intro w5 H5; clear H; have H := H5; clear H5))
        | (go_at_call 64; (with_reducible refine (callTo _ _ _ _).mono ?_); rintro e w5 ⟨rfl, ho⟩; have H5 := Lib.hid (H.out.quiet ho); clear H ho; have H := H5; clear H5)
        | (go_at_call 64; (with_reducible refine (callToX _ _ _ _ _ _ _ _ _ _ _).mono ?_); rintro e w5 ⟨rfl, ho⟩; have H5 := Lib.hid (H.out.quiet ho); clear H ho; have H := H5; clear H5))
      (try simp only [Exit.inBlock, Exit.then])
      apply hp_ret_ct tyapi_Call H
      · exact rfl
      · exact rfl
      · exact rfl
      · exact rfl
      · (repeat (first | exact List.Mem.head _ | apply List.Mem.tail))
      · exact rfl
      · exact ⟨by simp [cancelV, q0, q1, noCall], H.out.off⟩
theorem callCancelX (x_id : Int) (x_kind : Int) (x_src : Int) (x_dst : Int) (x_car : Int) (x_state : Int) (x_owner : Int) (x_born : Int) (w : World) : Calls Try.prog 19 #[.agg #[.int .i64 x_id, .int .i64 x_kind, .int .i64 x_src, .int .i64 x_dst, .int .i64 x_car, .int .i64 x_state, .int .i64 x_owner, .int .i64 x_born]] w fun e w' => e = .returned (.tuple #[.agg #[.int .i64 ((cancelV (⟨x_id, x_kind, x_src, x_dst, x_car, x_state, x_owner, x_born⟩ : CallV)).1).id, .int .i64 ((cancelV (⟨x_id, x_kind, x_src, x_dst, x_car, x_state, x_owner, x_born⟩ : CallV)).1).kind, .int .i64 ((cancelV (⟨x_id, x_kind, x_src, x_dst, x_car, x_state, x_owner, x_born⟩ : CallV)).1).src, .int .i64 ((cancelV (⟨x_id, x_kind, x_src, x_dst, x_car, x_state, x_owner, x_born⟩ : CallV)).1).dst, .int .i64 ((cancelV (⟨x_id, x_kind, x_src, x_dst, x_car, x_state, x_owner, x_born⟩ : CallV)).1).car, .int .i64 ((cancelV (⟨x_id, x_kind, x_src, x_dst, x_car, x_state, x_owner, x_born⟩ : CallV)).1).state, .int .i64 ((cancelV (⟨x_id, x_kind, x_src, x_dst, x_car, x_state, x_owner, x_born⟩ : CallV)).1).owner, .int .i64 ((cancelV (⟨x_id, x_kind, x_src, x_dst, x_car, x_state, x_owner, x_born⟩ : CallV)).1).born], .int .i64 (cancelV (⟨x_id, x_kind, x_src, x_dst, x_car, x_state, x_owner, x_born⟩ : CallV)).2]) ∧ Off [] w w' := callCancel (⟨x_id, x_kind, x_src, x_dst, x_car, x_state, x_owner, x_born⟩ : CallV) w
set_option maxHeartbeats 16000000 in
theorem callExpire (x : CallV) (w : World) : Calls Try.prog 20 #[.agg #[.int .i64 x.id, .int .i64 x.kind, .int .i64 x.src, .int .i64 x.dst, .int .i64 x.car, .int .i64 x.state, .int .i64 x.owner, .int .i64 x.born]] w fun e w' => e = .returned (.tuple #[.agg #[.int .i64 ((expireV x).1).id, .int .i64 ((expireV x).1).kind, .int .i64 ((expireV x).1).src, .int .i64 ((expireV x).1).dst, .int .i64 ((expireV x).1).car, .int .i64 ((expireV x).1).state, .int .i64 ((expireV x).1).owner, .int .i64 ((expireV x).1).born], .int .i64 (expireV x).2]) ∧ Off [] w w' := by
  have H := Lib.hid (Hp.start [] w)
  rcases Bool.eq_false_or_eq_true (x.state != 1) with q0 | q0
  · go_enter Try.func20, Try.ntmps20
    go_wp2_with (first
      | ((with_reducible apply g_mem); (focus (exact rfl)); first
      | ((with_reducible apply hpA_box 26 H); (focus (exact rfl)); (focus (exact rfl)); (focus (exact rfl)); (focus (exact rfl)); intro w5 b5 H5; clear H; have H := H5; clear H5)
      | ((with_reducible apply hpA_alloc tyapi_Call H); (focus (exact rfl)); (focus (exact rfl)); intro w5 b5 H5; clear H; have H := H5; clear H5)
      | ((with_reducible apply hpA_load1 tyint H); (focus (exact rfl)); (focus (exact rfl)); (focus (first | (exact rfl) | (simp [Region.wanted]; done) | (simp only [Region.wanted]; go_simp; done))); (focus (repeat (first | exact List.Mem.head _ | apply List.Mem.tail))); (focus ((try simp only [List.getElem?_cons_zero, List.getElem?_cons_succ]); exact rfl)))
      | ((with_reducible apply hpA_store tyapi_Call H); (focus (exact rfl)); (focus (exact rfl)); (focus (exact rfl)); (focus (exact rfl)); (focus (exact rfl)); (focus (repeat (first | apply Put.head | apply Put.tail))); (focus (first | (simp; done) | (simp [Value.oneCell']; done))); (focus (first | (simp; done) | (simp [Value.oneCell']; done))); (focus ((try simp only [spl]); exact rfl)); (focus (exact rfl)); intro w5 H5; clear H; have H := H5; clear H5)
      | ((with_reducible apply hpA_load tyapi_Call H); (focus (exact rfl)); (focus (exact rfl)); (focus (first | (exact rfl) | (simp [Region.wanted]; done) | (simp only [Region.wanted]; go_simp; done))); (focus (repeat (first | exact List.Mem.head _ | apply List.Mem.tail))); (focus ((try simp only [List.drop_zero, List.drop_succ_cons, List.take_succ_cons, List.take_zero]); exact rfl)); (focus (exact rfl))))
      | (go_at_call 63; (with_reducible refine (callFree _ _ _).mono ?_); rintro e w5 ⟨rfl, ho⟩; have H5 := Lib.hid (H.out.quiet ho); clear H ho; have H := H5; clear H5)
      | (go_at_call 63; (with_reducible refine (callFreeX _ _ _ _ _ _ _ _ _ _).mono ?_); rintro e w5 ⟨rfl, ho⟩; have H5 := Lib.hid (H.out.quiet ho); clear H ho; have H := H5; clear H5))
    (try simp only [Exit.inBlock, Exit.then])
    apply hp_ret_ct tyapi_Call H
    · exact rfl
    · exact rfl
    · exact rfl
    · exact rfl
    · (repeat (first | exact List.Mem.head _ | apply List.Mem.tail))
    · exact rfl
    · exact ⟨by simp [expireV, q0, noCall], H.out.off⟩
  · go_enter Try.func20, Try.ntmps20
    go_wp2_with (first
      | ((with_reducible apply g_mem); (focus (exact rfl)); first
      | ((with_reducible apply hpA_box 26 H); (focus (exact rfl)); (focus (exact rfl)); (focus (exact rfl)); (focus (exact rfl)); intro w5 b5 H5; clear H; have H := H5; clear H5)
      | ((with_reducible apply hpA_alloc tyapi_Call H); (focus (exact rfl)); (focus (exact rfl)); intro w5 b5 H5; clear H; have H := H5; clear H5)
      | ((with_reducible apply hpA_load1 tyint H); (focus (exact rfl)); (focus (exact rfl)); (focus (first | (exact rfl) | (simp [Region.wanted]; done) | (simp only [Region.wanted]; go_simp; done))); (focus (repeat (first | exact List.Mem.head _ | apply List.Mem.tail))); (focus ((try simp only [List.getElem?_cons_zero, List.getElem?_cons_succ]); exact rfl)))
      | ((with_reducible apply hpA_store tyapi_Call H); (focus (exact rfl)); (focus (exact rfl)); (focus (exact rfl)); (focus (exact rfl)); (focus (exact rfl)); (focus (repeat (first | apply Put.head | apply Put.tail))); (focus (first | (simp; done) | (simp [Value.oneCell']; done))); (focus (first | (simp; done) | (simp [Value.oneCell']; done))); (focus ((try simp only [spl]); exact rfl)); (focus (exact rfl)); intro w5 H5; clear H; have H := H5; clear H5)
      | ((with_reducible apply hpA_load tyapi_Call H); (focus (exact rfl)); (focus (exact rfl)); (focus (first | (exact rfl) | (simp [Region.wanted]; done) | (simp only [Region.wanted]; go_simp; done))); (focus (repeat (first | exact List.Mem.head _ | apply List.Mem.tail))); (focus ((try simp only [List.drop_zero, List.drop_succ_cons, List.take_succ_cons, List.take_zero]); exact rfl)); (focus (exact rfl))))
      | (go_at_call 63; (with_reducible refine (callFree _ _ _).mono ?_); rintro e w5 ⟨rfl, ho⟩; have H5 := Lib.hid (H.out.quiet ho); clear H ho; have H := H5; clear H5)
      | (go_at_call 63; (with_reducible refine (callFreeX _ _ _ _ _ _ _ _ _ _).mono ?_); rintro e w5 ⟨rfl, ho⟩; have H5 := Lib.hid (H.out.quiet ho); clear H ho; have H := H5; clear H5))
    (try simp only [Exit.inBlock, Exit.then])
    apply hp_ret_ct tyapi_Call H
    · exact rfl
    · exact rfl
    · exact rfl
    · exact rfl
    · (repeat (first | exact List.Mem.head _ | apply List.Mem.tail))
    · exact rfl
    · exact ⟨by simp [expireV, q0, noCall], H.out.off⟩
theorem callExpireX (x_id : Int) (x_kind : Int) (x_src : Int) (x_dst : Int) (x_car : Int) (x_state : Int) (x_owner : Int) (x_born : Int) (w : World) : Calls Try.prog 20 #[.agg #[.int .i64 x_id, .int .i64 x_kind, .int .i64 x_src, .int .i64 x_dst, .int .i64 x_car, .int .i64 x_state, .int .i64 x_owner, .int .i64 x_born]] w fun e w' => e = .returned (.tuple #[.agg #[.int .i64 ((expireV (⟨x_id, x_kind, x_src, x_dst, x_car, x_state, x_owner, x_born⟩ : CallV)).1).id, .int .i64 ((expireV (⟨x_id, x_kind, x_src, x_dst, x_car, x_state, x_owner, x_born⟩ : CallV)).1).kind, .int .i64 ((expireV (⟨x_id, x_kind, x_src, x_dst, x_car, x_state, x_owner, x_born⟩ : CallV)).1).src, .int .i64 ((expireV (⟨x_id, x_kind, x_src, x_dst, x_car, x_state, x_owner, x_born⟩ : CallV)).1).dst, .int .i64 ((expireV (⟨x_id, x_kind, x_src, x_dst, x_car, x_state, x_owner, x_born⟩ : CallV)).1).car, .int .i64 ((expireV (⟨x_id, x_kind, x_src, x_dst, x_car, x_state, x_owner, x_born⟩ : CallV)).1).state, .int .i64 ((expireV (⟨x_id, x_kind, x_src, x_dst, x_car, x_state, x_owner, x_born⟩ : CallV)).1).owner, .int .i64 ((expireV (⟨x_id, x_kind, x_src, x_dst, x_car, x_state, x_owner, x_born⟩ : CallV)).1).born], .int .i64 (expireV (⟨x_id, x_kind, x_src, x_dst, x_car, x_state, x_owner, x_born⟩ : CallV)).2]) ∧ Off [] w w' := callExpire (⟨x_id, x_kind, x_src, x_dst, x_car, x_state, x_owner, x_born⟩ : CallV) w
set_option maxHeartbeats 16000000 in
theorem callLives (x : CallV) (w : World) : Calls Try.prog 23 #[.agg #[.int .i64 x.id, .int .i64 x.kind, .int .i64 x.src, .int .i64 x.dst, .int .i64 x.car, .int .i64 x.state, .int .i64 x.owner, .int .i64 x.born]] w fun e w' => e = .returned (.bool (livesV x)) ∧ Off [] w w' := by
  have H := Lib.hid (Hp.start [] w)
  rcases Bool.eq_false_or_eq_true (decide (1 ≤ x.state)) with q0 | q0
  · go_enter Try.func23, Try.ntmps23
    go_wp2_with (first
      | ((with_reducible apply g_mem); (focus (exact rfl)); first
      | ((with_reducible apply hpA_box 26 H); (focus (exact rfl)); (focus (exact rfl)); (focus (exact rfl)); (focus (exact rfl)); intro w5 b5 H5; clear H; have H := H5; clear H5)
      | ((with_reducible apply hpA_load1 tyint H); (focus (exact rfl)); (focus (exact rfl)); (focus (first | (exact rfl) | (simp [Region.wanted]; done) | (simp only [Region.wanted]; go_simp; done))); (focus (repeat (first | exact List.Mem.head _ | apply List.Mem.tail))); (focus ((try simp only [List.getElem?_cons_zero, List.getElem?_cons_succ]); exact rfl)))))
    go_ret
    exact ⟨by simp [livesV, q0, noCall], H.out.off⟩
  · go_enter Try.func23, Try.ntmps23
    go_wp2_with (first
      | ((with_reducible apply g_mem); (focus (exact rfl)); first
      | ((with_reducible apply hpA_box 26 H); (focus (exact rfl)); (focus (exact rfl)); (focus (exact rfl)); (focus (exact rfl)); intro w5 b5 H5; clear H; have H := H5; clear H5)
      | ((with_reducible apply hpA_load1 tyint H); (focus (exact rfl)); (focus (exact rfl)); (focus (first | (exact rfl) | (simp [Region.wanted]; done) | (simp only [Region.wanted]; go_simp; done))); (focus (repeat (first | exact List.Mem.head _ | apply List.Mem.tail))); (focus ((try simp only [List.getElem?_cons_zero, List.getElem?_cons_succ]); exact rfl)))))
    go_ret
    exact ⟨by simp [livesV, q0, noCall], H.out.off⟩
theorem callLivesX (x_id : Int) (x_kind : Int) (x_src : Int) (x_dst : Int) (x_car : Int) (x_state : Int) (x_owner : Int) (x_born : Int) (w : World) : Calls Try.prog 23 #[.agg #[.int .i64 x_id, .int .i64 x_kind, .int .i64 x_src, .int .i64 x_dst, .int .i64 x_car, .int .i64 x_state, .int .i64 x_owner, .int .i64 x_born]] w fun e w' => e = .returned (.bool (livesV (⟨x_id, x_kind, x_src, x_dst, x_car, x_state, x_owner, x_born⟩ : CallV))) ∧ Off [] w w' := callLives (⟨x_id, x_kind, x_src, x_dst, x_car, x_state, x_owner, x_born⟩ : CallV) w
set_option maxHeartbeats 16000000 in
theorem callGoal (x : CallV) (w : World) : Calls Try.prog 22 #[.agg #[.int .i64 x.id, .int .i64 x.kind, .int .i64 x.src, .int .i64 x.dst, .int .i64 x.car, .int .i64 x.state, .int .i64 x.owner, .int .i64 x.born]] w fun e w' => e = .returned (.int .i64 (goalV x)) ∧ Off [] w w' := by
  have H := Lib.hid (Hp.start [] w)
  rcases Bool.eq_false_or_eq_true (x.kind == 3) with q0 | q0
  · go_enter Try.func22, Try.ntmps22
    go_wp2_with (first
      | ((with_reducible apply g_mem); (focus (exact rfl)); first
      | ((with_reducible apply hpA_box 26 H); (focus (exact rfl)); (focus (exact rfl)); (focus (exact rfl)); (focus (exact rfl)); intro w5 b5 H5; clear H; have H := H5; clear H5)
      | ((with_reducible apply hpA_load1 tyint H); (focus (exact rfl)); (focus (exact rfl)); (focus (first | (exact rfl) | (simp [Region.wanted]; done) | (simp only [Region.wanted]; go_simp; done))); (focus (repeat (first | exact List.Mem.head _ | apply List.Mem.tail))); (focus ((try simp only [List.getElem?_cons_zero, List.getElem?_cons_succ]); exact rfl)))))
    go_ret
    exact ⟨by simp [goalV, q0, noCall], H.out.off⟩
  · rcases Bool.eq_false_or_eq_true (x.state == 3) with q1 | q1
    · go_enter Try.func22, Try.ntmps22
      go_wp2_with (first
        | ((with_reducible apply g_mem); (focus (exact rfl)); first
      | ((with_reducible apply hpA_box 26 H); (focus (exact rfl)); (focus (exact rfl)); (focus (exact rfl)); (focus (exact rfl)); intro w5 b5 H5; clear H; have H := H5; clear H5)
      | ((with_reducible apply hpA_load1 tyint H); (focus (exact rfl)); (focus (exact rfl)); (focus (first | (exact rfl) | (simp [Region.wanted]; done) | (simp only [Region.wanted]; go_simp; done))); (focus (repeat (first | exact List.Mem.head _ | apply List.Mem.tail))); (focus ((try simp only [List.getElem?_cons_zero, List.getElem?_cons_succ]); exact rfl)))))
      go_ret
      exact ⟨by simp [goalV, q0, q1, noCall], H.out.off⟩
    · go_enter Try.func22, Try.ntmps22
      go_wp2_with (first
        | ((with_reducible apply g_mem); (focus (exact rfl)); first
      | ((with_reducible apply hpA_box 26 H); (focus (exact rfl)); (focus (exact rfl)); (focus (exact rfl)); (focus (exact rfl)); intro w5 b5 H5; clear H; have H := H5; clear H5)
      | ((with_reducible apply hpA_load1 tyint H); (focus (exact rfl)); (focus (exact rfl)); (focus (first | (exact rfl) | (simp [Region.wanted]; done) | (simp only [Region.wanted]; go_simp; done))); (focus (repeat (first | exact List.Mem.head _ | apply List.Mem.tail))); (focus ((try simp only [List.getElem?_cons_zero, List.getElem?_cons_succ]); exact rfl)))))
      go_ret
      exact ⟨by simp [goalV, q0, q1, noCall], H.out.off⟩
theorem callGoalX (x_id : Int) (x_kind : Int) (x_src : Int) (x_dst : Int) (x_car : Int) (x_state : Int) (x_owner : Int) (x_born : Int) (w : World) : Calls Try.prog 22 #[.agg #[.int .i64 x_id, .int .i64 x_kind, .int .i64 x_src, .int .i64 x_dst, .int .i64 x_car, .int .i64 x_state, .int .i64 x_owner, .int .i64 x_born]] w fun e w' => e = .returned (.int .i64 (goalV (⟨x_id, x_kind, x_src, x_dst, x_car, x_state, x_owner, x_born⟩ : CallV))) ∧ Off [] w w' := callGoal (⟨x_id, x_kind, x_src, x_dst, x_car, x_state, x_owner, x_born⟩ : CallV) w
end Go.Proofs.Ytfhhfmkfkoemjaa.Ca
