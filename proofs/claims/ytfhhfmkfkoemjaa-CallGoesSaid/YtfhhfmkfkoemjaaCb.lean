/- Contracts of layer 8: which call goes on to which. -/
import Derived.Test.YtfhhfmkfkoemjaaProg
import Derived.Below
import Derived.WalkKit
import Derived.KernelRfl
import Derived.RowKit3
import Derived.Deep.LoopGhost
import Derived.Deep.QuietTactic
import Derived.BigQuiet
import Derived.WideLaws
import Derived.Deep.DeepCutAuto
import Derived.Deep.CutBlock
import Derived.Lib.Hide
import Derived.Laws.BitsLemmas
import Derived.Laws.Bits64
import Derived.Laws.BitsAllLaws
import Derived.IntWalk
import Derived.Outline
import Derived.WalkSpells
import Derived.Test.YtfhhfmkfkoemjaaMem
import Derived.Test.YtfhhfmkfkoemjaaCa
namespace Go.Proofs.Ytfhhfmkfkoemjaa.Ca
set_option linter.unusedVariables false
set_option linter.unusedSimpArgs false
open Go.RowKit Go.Proofs.Ytfhhfmkfkoemjaa.Mem Go.Proofs.Ytfhhfmkfkoemjaa.Si

def sameV (X Y : CallV) : Bool := X.id == Y.id && X.kind == Y.kind && X.src == Y.src && X.dst == Y.dst && X.car == Y.car && X.state == Y.state && X.owner == Y.owner && X.born == Y.born
theorem sameV_iff (X Y : CallV) : sameV X Y = true ↔ X = Y := by
  cases X; cases Y; simp only [sameV, Bool.and_eq_true, beq_iff_eq, CallV.mk.injEq, and_assoc]
set_option maxRecDepth 20000 in
theorem run_eql_call (X Y : CallV) (w : World) : (Op.equalIn 10000 26 X.val Y.val).run Try.prog w = .ok (sameV X Y) w := by
  have u3 := Try.underlying3
  rw [show (10000 : Nat) = 9999 + 1 from rfl]
  unfold CallV.val CallV.cells
  go_simp
  iterate 8 (split; rotate_left; · simp [sameV, *])
  simp [sameV, *]
section
variable {ops : Array Oper} {rest : List Oper} {o : Oper} {a : Act} {w : World} {Q : Exit → Act → World → Prop}
theorem eqlA_call {x y : Operand} {t : TypeId} (ho : o.op = .binOp .eql 26 x y t) (hw : Region.wanted o (yielded ops a.tmps) = true) {a0 b0 a1 b1 a2 b2 a3 b3 a4 b4 a5 b5 a6 b6 a7 b7 : Int} (hx : a.eval x = .agg #[.int .i64 a0, .int .i64 a1, .int .i64 a2, .int .i64 a3, .int .i64 a4, .int .i64 a5, .int .i64 a6, .int .i64 a7]) (hy : a.eval y = .agg #[.int .i64 b0, .int .i64 b1, .int .i64 b2, .int .i64 b3, .int .i64 b4, .int .i64 b5, .int .i64 b6, .int .i64 b7])
    (h : wpList Try.prog ops Q rest (a.put o.dst (.bool (sameV ⟨a0, a1, a2, a3, a4, a5, a6, a7⟩ ⟨b0, b1, b2, b3, b4, b5, b6, b7⟩))) w) : wpList Try.prog ops Q (o :: rest) a w := by
  refine wpList_step fun K hK => ?_
  rw [if_pos hw]
  unfold Oper.wp execOp
  simp only [ho, hx, hy, Sem.run_bind, Sem.run_pure, Result.andThen_ok]
  generalize hX : (⟨a0, a1, a2, a3, a4, a5, a6, a7⟩ : CallV) = X at *
  generalize hY : (⟨b0, b1, b2, b3, b4, b5, b6, b7⟩ : CallV) = Y at *
  have eX : (.agg #[.int .i64 a0, .int .i64 a1, .int .i64 a2, .int .i64 a3, .int .i64 a4, .int .i64 a5, .int .i64 a6, .int .i64 a7] : Value) = X.val := by rw [← hX]; rfl
  have eY : (.agg #[.int .i64 b0, .int .i64 b1, .int .i64 b2, .int .i64 b3, .int .i64 b4, .int .i64 b5, .int .i64 b6, .int .i64 b7] : Value) = Y.val := by rw [← hY]; rfl
  rw [eX, eY]
  have e1 : (eqGuard .eql 26 x y X.val Y.val).run Try.prog w = .ok () w := run_eqGuard_agg w .eql _ x y X.cells Y.cells (by kernel_rfl)
  have e2 : (binOp .eql 26 X.val Y.val).run Try.prog w = .ok (.bool (sameV X Y)) w := by
    refine (run_eql_struct w _ X.cells Y.cells).trans ?_
    have := run_eql_call X Y w
    unfold CallV.val at this
    rw [this]
    rfl
  rw [e1]
  simp only [Result.andThen_ok, e2]
  exact hK _ _ h
end
def dirV (x : CallV) : Int := if (x.kind == 1) = true then 1 else if (x.kind == 2) = true then -1 else if (x.kind == 4) = true then (if decide (x.src < x.dst) = true then 1 else -1) else 0
def leftV (c : Cfg) (a b : CallV) : Bool := if (a.state == 3) = true then (leaveV c a b.src).2 == 0 && sameV (leaveV c a b.src).1 b else (leaveV c a 1).2 == 0 && sameV (leaveV c a 1).1 b
def oneV (a b : CallV) : Nat → Bool
  | 0 => (boardV a).2 == 0 && sameV (boardV a).1 b
  | 1 => (serveV a).2 == 0 && sameV (serveV a).1 b
  | 2 => (cancelV a).2 == 0 && sameV (cancelV a).1 b
  | _ => (expireV a).2 == 0 && sameV (expireV a).1 b
def mayV (c : Cfg) (a b : CallV) : Bool :=
  checkV c == 0 && (((assignV c a b.car).2 == 0 && sameV (assignV c a b.car).1 b) || oneV a b 0 || oneV a b 1 || oneV a b 2 || oneV a b 3 || leftV c a b)
def newV (c : Cfg) (x : CallV) (id owner born : Int) : CallV × Int :=
  if (checkCallV c x != 0) = true then (noCall, checkCallV c x) else if (decide (id < 1) || decide (owner < 1) || decide (born < 0) || decide (1073741824 < id) || decide (1073741824 < owner) || decide (1073741824 < born)) = true then (noCall, 1) else ({ x with id := id, owner := owner, born := born, state := 1 }, 0)
set_option maxHeartbeats 16000000 in
theorem callIsLeft (c : Cfg) (a : CallV) (b : CallV) (w : World) : Calls Try.prog 66 #[.agg #[.int .i64 c.floors, .int .i64 c.cars, .int .i64 c.seats, .int .i64 c.calls, .int .i64 c.lines, .int .i64 c.keys, .int .i64 c.window, .int .i64 c.burst, .int .i64 c.rate, .int .i64 c.idle, .int .i64 c.inn, .int .i64 c.out, .int .i64 c.feed, .int .i64 c.retries, .int .i64 c.life, .int .i64 c.door, .int .i64 c.holds, .int .u32 c.secret], .agg #[.int .i64 a.id, .int .i64 a.kind, .int .i64 a.src, .int .i64 a.dst, .int .i64 a.car, .int .i64 a.state, .int .i64 a.owner, .int .i64 a.born], .agg #[.int .i64 b.id, .int .i64 b.kind, .int .i64 b.src, .int .i64 b.dst, .int .i64 b.car, .int .i64 b.state, .int .i64 b.owner, .int .i64 b.born]] w fun e w' => e = .returned (.bool (leftV c a b)) ∧ Off [] w w' := by
  have H := Lib.hid (Hp.start [] w)
  rcases Bool.eq_false_or_eq_true (a.state == 3) with q0 | q0
  · rcases Bool.eq_false_or_eq_true ((leaveV c a b.src).2 == 0) with q2 | q2
    · rcases Bool.eq_false_or_eq_true (sameV (leaveV c a b.src).1 b) with q3 | q3
      · go_enter Try.func66, Try.ntmps66
        go_wp2_with (first
          | ((with_reducible apply g_mem); (focus (exact rfl)); first
      | ((with_reducible apply hpA_box 24 H); (focus (exact rfl)); (focus (exact rfl)); (focus (exact rfl)); (focus (exact rfl)); intro w5 b5 H5; clear H; have H := H5; clear H5)
      | ((with_reducible apply hpA_box 26 H); (focus (exact rfl)); (focus (exact rfl)); (focus (exact rfl)); (focus (exact rfl)); intro w5 b5 H5; clear H; have H := H5; clear H5)
      | ((with_reducible apply hpA_load tyapi_Config H); (focus (exact rfl)); (focus (exact rfl)); (focus (first | (exact rfl) | (simp [Region.wanted]; done) | (simp only [Region.wanted]; go_simp; done))); (focus (repeat (first | exact List.Mem.head _ | apply List.Mem.tail))); (focus ((try simp only [List.drop_zero, List.drop_succ_cons, List.take_succ_cons, List.take_zero]); exact rfl)); (focus (exact rfl)))
      | ((with_reducible apply hpA_load tyapi_Call H); (focus (exact rfl)); (focus (exact rfl)); (focus (first | (exact rfl) | (simp [Region.wanted]; done) | (simp only [Region.wanted]; go_simp; done))); (focus (repeat (first | exact List.Mem.head _ | apply List.Mem.tail))); (focus ((try simp only [List.drop_zero, List.drop_succ_cons, List.take_succ_cons, List.take_zero]); exact rfl)); (focus (exact rfl)))
      | ((with_reducible apply hpA_alloc tyapi_Call H); (focus (exact rfl)); (focus (exact rfl)); intro w5 b5 H5; clear H; have H := H5; clear H5)
      | ((with_reducible apply hpA_store tyapi_Call H); (focus (exact rfl)); (focus (exact rfl)); (focus (exact rfl)); (focus (exact rfl)); (focus (exact rfl)); (focus (repeat (first | apply Put.head | apply Put.tail))); (focus (first | (simp; done) | (simp [Value.oneCell']; done))); (focus (first | (simp; done) | (simp [Value.oneCell']; done))); (focus ((try simp only [spl]); exact rfl)); (focus (exact rfl)); intro w5 H5; clear H; have H := H5; clear H5)
      | ((with_reducible apply hpA_load1 tyint H); (focus (exact rfl)); (focus (exact rfl)); (focus (first | (exact rfl) | (simp [Region.wanted]; done) | (simp only [Region.wanted]; go_simp; done))); (focus (repeat (first | exact List.Mem.head _ | apply List.Mem.tail))); (focus ((try simp only [List.getElem?_cons_zero, List.getElem?_cons_succ]); exact rfl))))
          | (go_at_call 16; (with_reducible refine (callLeave _ _ _ _).mono ?_); rintro e w5 ⟨rfl, ho⟩; have H5 := Lib.hid (H.out.quiet ho); clear H ho; have H := H5; clear H5)
          | (go_at_call 16; (with_reducible refine (callLeaveX _ _ _ _ _ _ _ _ _ _ _ _ _ _ _ _ _ _ _ _ _ _ _ _ _ _ _ _).mono ?_); rintro e w5 ⟨rfl, ho⟩; have H5 := Lib.hid (H.out.quiet ho); clear H ho; have H := H5; clear H5)
          | ((with_reducible apply eqlA_call); (focus (exact rfl)); (focus (first | (exact rfl) | (simp [Region.wanted]; done) | (simp only [Region.wanted]; go_simp; done))); (focus (exact rfl)); (focus (exact rfl))))
        go_ret
        exact ⟨by simp [leftV, q0, q2, q3, noCall], H.out.off⟩
      · go_enter Try.func66, Try.ntmps66
        go_wp2_with (first
          | ((with_reducible apply g_mem); (focus (exact rfl)); first
      | ((with_reducible apply hpA_box 24 H); (focus (exact rfl)); (focus (exact rfl)); (focus (exact rfl)); (focus (exact rfl)); intro w5 b5 H5; clear H; have H := H5; clear H5)
      | ((with_reducible apply hpA_box 26 H); (focus (exact rfl)); (focus (exact rfl)); (focus (exact rfl)); (focus (exact rfl)); intro w5 b5 H5; clear H; have H := H5; clear H5)
      | ((with_reducible apply hpA_load tyapi_Config H); (focus (exact rfl)); (focus (exact rfl)); (focus (first | (exact rfl) | (simp [Region.wanted]; done) | (simp only [Region.wanted]; go_simp; done))); (focus (repeat (first | exact List.Mem.head _ | apply List.Mem.tail))); (focus ((try simp only [List.drop_zero, List.drop_succ_cons, List.take_succ_cons, List.take_zero]); exact rfl)); (focus (exact rfl)))
      | ((with_reducible apply hpA_load tyapi_Call H); (focus (exact rfl)); (focus (exact rfl)); (focus (first | (exact rfl) | (simp [Region.wanted]; done) | (simp only [Region.wanted]; go_simp; done))); (focus (repeat (first | exact List.Mem.head _ | apply List.Mem.tail))); (focus ((try simp only [List.drop_zero, List.drop_succ_cons, List.take_succ_cons, List.take_zero]); exact rfl)); (focus (exact rfl)))
      | ((with_reducible apply hpA_alloc tyapi_Call H); (focus (exact rfl)); (focus (exact rfl)); intro w5 b5 H5; clear H; have H := H5; clear H5)
      | ((with_reducible apply hpA_store tyapi_Call H); (focus (exact rfl)); (focus (exact rfl)); (focus (exact rfl)); (focus (exact rfl)); (focus (exact rfl)); (focus (repeat (first | apply Put.head | apply Put.tail))); (focus (first | (simp; done) | (simp [Value.oneCell']; done))); (focus (first | (simp; done) | (simp [Value.oneCell']; done))); (focus ((try simp only [spl]); exact rfl)); (focus (exact rfl)); intro w5 H5; clear H; have H := H5; clear H5)
      | ((with_reducible apply hpA_load1 tyint H); (focus (exact rfl)); (focus (exact rfl)); (focus (first | (exact rfl) | (simp [Region.wanted]; done) | (simp only [Region.wanted]; go_simp; done))); (focus (repeat (first | exact List.Mem.head _ | apply List.Mem.tail))); (focus ((try simp only [List.getElem?_cons_zero, List.getElem?_cons_succ]); exact rfl))))
          | (go_at_call 16; (with_reducible refine (callLeave _ _ _ _).mono ?_); rintro e w5 ⟨rfl, ho⟩; have H5 := Lib.hid (H.out.quiet ho); clear H ho; have H := H5; clear H5)
          | (go_at_call 16; (with_reducible refine (callLeaveX _ _ _ _ _ _ _ _ _ _ _ _ _ _ _ _ _ _ _ _ _ _ _ _ _ _ _ _).mono ?_); rintro e w5 ⟨rfl, ho⟩; have H5 := Lib.hid (H.out.quiet ho); clear H ho; have H := H5; clear H5)
          | ((with_reducible apply eqlA_call); (focus (exact rfl)); (focus (first | (exact rfl) | (simp [Region.wanted]; done) | (simp only [Region.wanted]; go_simp; done))); (focus (exact rfl)); (focus (exact rfl))))
        go_ret
        exact ⟨by simp [leftV, q0, q2, q3, noCall], H.out.off⟩
    · go_enter Try.func66, Try.ntmps66
      go_wp2_with (first
        | ((with_reducible apply g_mem); (focus (exact rfl)); first
      | ((with_reducible apply hpA_box 24 H); (focus (exact rfl)); (focus (exact rfl)); (focus (exact rfl)); (focus (exact rfl)); intro w5 b5 H5; clear H; have H := H5; clear H5)
      | ((with_reducible apply hpA_box 26 H); (focus (exact rfl)); (focus (exact rfl)); (focus (exact rfl)); (focus (exact rfl)); intro w5 b5 H5; clear H; have H := H5; clear H5)
      | ((with_reducible apply hpA_load tyapi_Config H); (focus (exact rfl)); (focus (exact rfl)); (focus (first | (exact rfl) | (simp [Region.wanted]; done) | (simp only [Region.wanted]; go_simp; done))); (focus (repeat (first | exact List.Mem.head _ | apply List.Mem.tail))); (focus ((try simp only [List.drop_zero, List.drop_succ_cons, List.take_succ_cons, List.take_zero]); exact rfl)); (focus (exact rfl)))
      | ((with_reducible apply hpA_load tyapi_Call H); (focus (exact rfl)); (focus (exact rfl)); (focus (first | (exact rfl) | (simp [Region.wanted]; done) | (simp only [Region.wanted]; go_simp; done))); (focus (repeat (first | exact List.Mem.head _ | apply List.Mem.tail))); (focus ((try simp only [List.drop_zero, List.drop_succ_cons, List.take_succ_cons, List.take_zero]); exact rfl)); (focus (exact rfl)))
      | ((with_reducible apply hpA_alloc tyapi_Call H); (focus (exact rfl)); (focus (exact rfl)); intro w5 b5 H5; clear H; have H := H5; clear H5)
      | ((with_reducible apply hpA_store tyapi_Call H); (focus (exact rfl)); (focus (exact rfl)); (focus (exact rfl)); (focus (exact rfl)); (focus (exact rfl)); (focus (repeat (first | apply Put.head | apply Put.tail))); (focus (first | (simp; done) | (simp [Value.oneCell']; done))); (focus (first | (simp; done) | (simp [Value.oneCell']; done))); (focus ((try simp only [spl]); exact rfl)); (focus (exact rfl)); intro w5 H5; clear H; have H := H5; clear H5)
      | ((with_reducible apply hpA_load1 tyint H); (focus (exact rfl)); (focus (exact rfl)); (focus (first | (exact rfl) | (simp [Region.wanted]; done) | (simp only [Region.wanted]; go_simp; done))); (focus (repeat (first | exact List.Mem.head _ | apply List.Mem.tail))); (focus ((try simp only [List.getElem?_cons_zero, List.getElem?_cons_succ]); exact rfl))))
        | (go_at_call 16; (with_reducible refine (callLeave _ _ _ _).mono ?_); rintro e w5 ⟨rfl, ho⟩; have H5 := Lib.hid (H.out.quiet ho); clear H ho; have H := H5; clear H5)
        | (go_at_call 16; (with_reducible refine (callLeaveX _ _ _ _ _ _ _ _ _ _ _ _ _ _ _ _ _ _ _ _ _ _ _ _ _ _ _ _).mono ?_); rintro e w5 ⟨rfl, ho⟩; have H5 := Lib.hid (H.out.quiet ho); clear H ho; have H := H5; clear H5)
        | ((with_reducible apply eqlA_call); (focus (exact rfl)); (focus (first | (exact rfl) | (simp [Region.wanted]; done) | (simp only [Region.wanted]; go_simp; done))); (focus (exact rfl)); (focus (exact rfl))))
      go_ret
      exact ⟨by simp [leftV, q0, q2, noCall], H.out.off⟩
  · rcases Bool.eq_false_or_eq_true ((leaveV c a 1).2 == 0) with q2 | q2
    · rcases Bool.eq_false_or_eq_true (sameV (leaveV c a 1).1 b) with q3 | q3
      · go_enter Try.func66, Try.ntmps66
        go_wp2_with (first
          | ((with_reducible apply g_mem); (focus (exact rfl)); first
      | ((with_reducible apply hpA_box 24 H); (focus (exact rfl)); (focus (exact rfl)); (focus (exact rfl)); (focus (exact rfl)); intro w5 b5 H5; clear H; have H := H5; clear H5)
      | ((with_reducible apply hpA_box 26 H); (focus (exact rfl)); (focus (exact rfl)); (focus (exact rfl)); (focus (exact rfl)); intro w5 b5 H5; clear H; have H := H5; clear H5)
      | ((with_reducible apply hpA_load tyapi_Config H); (focus (exact rfl)); (focus (exact rfl)); (focus (first | (exact rfl) | (simp [Region.wanted]; done) | (simp only [Region.wanted]; go_simp; done))); (focus (repeat (first | exact List.Mem.head _ | apply List.Mem.tail))); (focus ((try simp only [List.drop_zero, List.drop_succ_cons, List.take_succ_cons, List.take_zero]); exact rfl)); (focus (exact rfl)))
      | ((with_reducible apply hpA_load tyapi_Call H); (focus (exact rfl)); (focus (exact rfl)); (focus (first | (exact rfl) | (simp [Region.wanted]; done) | (simp only [Region.wanted]; go_simp; done))); (focus (repeat (first | exact List.Mem.head _ | apply List.Mem.tail))); (focus ((try simp only [List.drop_zero, List.drop_succ_cons, List.take_succ_cons, List.take_zero]); exact rfl)); (focus (exact rfl)))
      | ((with_reducible apply hpA_alloc tyapi_Call H); (focus (exact rfl)); (focus (exact rfl)); intro w5 b5 H5; clear H; have H := H5; clear H5)
      | ((with_reducible apply hpA_store tyapi_Call H); (focus (exact rfl)); (focus (exact rfl)); (focus (exact rfl)); (focus (exact rfl)); (focus (exact rfl)); (focus (repeat (first | apply Put.head | apply Put.tail))); (focus (first | (simp; done) | (simp [Value.oneCell']; done))); (focus (first | (simp; done) | (simp [Value.oneCell']; done))); (focus ((try simp only [spl]); exact rfl)); (focus (exact rfl)); intro w5 H5; clear H; have H := H5; clear H5)
      | ((with_reducible apply hpA_load1 tyint H); (focus (exact rfl)); (focus (exact rfl)); (focus (first | (exact rfl) | (simp [Region.wanted]; done) | (simp only [Region.wanted]; go_simp; done))); (focus (repeat (first | exact List.Mem.head _ | apply List.Mem.tail))); (focus ((try simp only [List.getElem?_cons_zero, List.getElem?_cons_succ]); exact rfl))))
          | (go_at_call 16; (with_reducible refine (callLeave _ _ _ _).mono ?_); rintro e w5 ⟨rfl, ho⟩; have H5 := Lib.hid (H.out.quiet ho); clear H ho; have H := H5; clear H5)
          | (go_at_call 16; (with_reducible refine (callLeaveX _ _ _ _ _ _ _ _ _ _ _ _ _ _ _ _ _ _ _ _ _ _ _ _ _ _ _ _).mono ?_); rintro e w5 ⟨rfl, ho⟩; have H5 := Lib.hid (H.out.quiet ho); clear H ho; have H := H5; clear H5)
          | ((with_reducible apply eqlA_call); (focus (exact rfl)); (focus (first | (exact rfl) | (simp [Region.wanted]; done) | (simp only [Region.wanted]; go_simp; done))); (focus (exact rfl)); (focus (exact rfl))))
        go_ret
        exact ⟨by simp [leftV, q0, q2, q3, noCall], H.out.off⟩
      · go_enter Try.func66, Try.ntmps66
        go_wp2_with (first
          | ((with_reducible apply g_mem); (focus (exact rfl)); first
      | ((with_reducible apply hpA_box 24 H); (focus (exact rfl)); (focus (exact rfl)); (focus (exact rfl)); (focus (exact rfl)); intro w5 b5 H5; clear H; have H := H5; clear H5)
      | ((with_reducible apply hpA_box 26 H); (focus (exact rfl)); (focus (exact rfl)); (focus (exact rfl)); (focus (exact rfl)); intro w5 b5 H5; clear H; have H := H5; clear H5)
      | ((with_reducible apply hpA_load tyapi_Config H); (focus (exact rfl)); (focus (exact rfl)); (focus (first | (exact rfl) | (simp [Region.wanted]; done) | (simp only [Region.wanted]; go_simp; done))); (focus (repeat (first | exact List.Mem.head _ | apply List.Mem.tail))); (focus ((try simp only [List.drop_zero, List.drop_succ_cons, List.take_succ_cons, List.take_zero]); exact rfl)); (focus (exact rfl)))
      | ((with_reducible apply hpA_load tyapi_Call H); (focus (exact rfl)); (focus (exact rfl)); (focus (first | (exact rfl) | (simp [Region.wanted]; done) | (simp only [Region.wanted]; go_simp; done))); (focus (repeat (first | exact List.Mem.head _ | apply List.Mem.tail))); (focus ((try simp only [List.drop_zero, List.drop_succ_cons, List.take_succ_cons, List.take_zero]); exact rfl)); (focus (exact rfl)))
      | ((with_reducible apply hpA_alloc tyapi_Call H); (focus (exact rfl)); (focus (exact rfl)); intro w5 b5 H5; clear H; have H := H5; clear H5)
      | ((with_reducible apply hpA_store tyapi_Call H); (focus (exact rfl)); (focus (exact rfl)); (focus (exact rfl)); (focus (exact rfl)); (focus (exact rfl)); (focus (repeat (first | apply Put.head | apply Put.tail))); (focus (first | (simp; done) | (simp [Value.oneCell']; done))); (focus (first | (simp; done) | (simp [Value.oneCell']; done))); (focus ((try simp only [spl]); exact rfl)); (focus (exact rfl)); intro w5 H5; clear H; have H := H5; clear H5)
      | ((with_reducible apply hpA_load1 tyint H); (focus (exact rfl)); (focus (exact rfl)); (focus (first | (exact rfl) | (simp [Region.wanted]; done) | (simp only [Region.wanted]; go_simp; done))); (focus (repeat (first | exact List.Mem.head _ | apply List.Mem.tail))); (focus ((try simp only [List.getElem?_cons_zero, List.getElem?_cons_succ]); exact rfl))))
          | (go_at_call 16; (with_reducible refine (callLeave _ _ _ _).mono ?_); rintro e w5 ⟨rfl, ho⟩; have H5 := Lib.hid (H.out.quiet ho); clear H ho; have H := H5; clear H5)
          | (go_at_call 16; (with_reducible refine (callLeaveX _ _ _ _ _ _ _ _ _ _ _ _ _ _ _ _ _ _ _ _ _ _ _ _ _ _ _ _).mono ?_); rintro e w5 ⟨rfl, ho⟩; have H5 := Lib.hid (H.out.quiet ho); clear H ho; have H := H5; clear H5)
          | ((with_reducible apply eqlA_call); (focus (exact rfl)); (focus (first | (exact rfl) | (simp [Region.wanted]; done) | (simp only [Region.wanted]; go_simp; done))); (focus (exact rfl)); (focus (exact rfl))))
        go_ret
        exact ⟨by simp [leftV, q0, q2, q3, noCall], H.out.off⟩
    · go_enter Try.func66, Try.ntmps66
      go_wp2_with (first
        | ((with_reducible apply g_mem); (focus (exact rfl)); first
      | ((with_reducible apply hpA_box 24 H); (focus (exact rfl)); (focus (exact rfl)); (focus (exact rfl)); (focus (exact rfl)); intro w5 b5 H5; clear H; have H := H5; clear H5)
      | ((with_reducible apply hpA_box 26 H); (focus (exact rfl)); (focus (exact rfl)); (focus (exact rfl)); (focus (exact rfl)); intro w5 b5 H5; clear H; have H := H5; clear H5)
      | ((with_reducible apply hpA_load tyapi_Config H); (focus (exact rfl)); (focus (exact rfl)); (focus (first | (exact rfl) | (simp [Region.wanted]; done) | (simp only [Region.wanted]; go_simp; done))); (focus (repeat (first | exact List.Mem.head _ | apply List.Mem.tail))); (focus ((try simp only [List.drop_zero, List.drop_succ_cons, List.take_succ_cons, List.take_zero]); exact rfl)); (focus (exact rfl)))
      | ((with_reducible apply hpA_load tyapi_Call H); (focus (exact rfl)); (focus (exact rfl)); (focus (first | (exact rfl) | (simp [Region.wanted]; done) | (simp only [Region.wanted]; go_simp; done))); (focus (repeat (first | exact List.Mem.head _ | apply List.Mem.tail))); (focus ((try simp only [List.drop_zero, List.drop_succ_cons, List.take_succ_cons, List.take_zero]); exact rfl)); (focus (exact rfl)))
      | ((with_reducible apply hpA_alloc tyapi_Call H); (focus (exact rfl)); (focus (exact rfl)); intro w5 b5 H5; clear H; have H := H5; clear H5)
      | ((with_reducible apply hpA_store tyapi_Call H); (focus (exact rfl)); (focus (exact rfl)); (focus (exact rfl)); (focus (exact rfl)); (focus (exact rfl)); (focus (repeat (first | apply Put.head | apply Put.tail))); (focus (first | (simp; done) | (simp [Value.oneCell']; done))); (focus (first | (simp; done) | (simp [Value.oneCell']; done))); (focus ((try simp only [spl]); exact rfl)); (focus (exact rfl)); intro w5 H5; clear H; have H := H5; clear H5)
      | ((with_reducible apply hpA_load1 tyint H); (focus (exact rfl)); (focus (exact rfl)); (focus (first | (exact rfl) | (simp [Region.wanted]; done) | (simp only [Region.wanted]; go_simp; done))); (focus (repeat (first | exact List.Mem.head _ | apply List.Mem.tail))); (focus ((try simp only [List.getElem?_cons_zero, List.getElem?_cons_succ]); exact rfl))))
        | (go_at_call 16; (with_reducible refine (callLeave _ _ _ _).mono ?_); rintro e w5 ⟨rfl, ho⟩; have H5 := Lib.hid (H.out.quiet ho); clear H ho; have H := H5; clear H5)
        | (go_at_call 16; (with_reducible refine (callLeaveX _ _ _ _ _ _ _ _ _ _ _ _ _ _ _ _ _ _ _ _ _ _ _ _ _ _ _ _).mono ?_); rintro e w5 ⟨rfl, ho⟩; have H5 := Lib.hid (H.out.quiet ho); clear H ho; have H := H5; clear H5)
        | ((with_reducible apply eqlA_call); (focus (exact rfl)); (focus (first | (exact rfl) | (simp [Region.wanted]; done) | (simp only [Region.wanted]; go_simp; done))); (focus (exact rfl)); (focus (exact rfl))))
      go_ret
      exact ⟨by simp [leftV, q0, q2, noCall], H.out.off⟩
theorem callIsLeftX (c_floors : Int) (c_cars : Int) (c_seats : Int) (c_calls : Int) (c_lines : Int) (c_keys : Int) (c_window : Int) (c_burst : Int) (c_rate : Int) (c_idle : Int) (c_inn : Int) (c_out : Int) (c_feed : Int) (c_retries : Int) (c_life : Int) (c_door : Int) (c_holds : Int) (c_secret : Int) (a_id : Int) (a_kind : Int) (a_src : Int) (a_dst : Int) (a_car : Int) (a_state : Int) (a_owner : Int) (a_born : Int) (b_id : Int) (b_kind : Int) (b_src : Int) (b_dst : Int) (b_car : Int) (b_state : Int) (b_owner : Int) (b_born : Int) (w : World) : Calls Try.prog 66 #[.agg #[.int .i64 c_floors, .int .i64 c_cars, .int .i64 c_seats, .int .i64 c_calls, .int .i64 c_lines, .int .i64 c_keys, .int .i64 c_window, .int .i64 c_burst, .int .i64 c_rate, .int .i64 c_idle, .int .i64 c_inn, .int .i64 c_out, .int .i64 c_feed, .int .i64 c_retries, .int .i64 c_life, .int .i64 c_door, .int .i64 c_holds, .int .u32 c_secret], .agg #[.int .i64 a_id, .int .i64 a_kind, .int .i64 a_src, .int .i64 a_dst, .int .i64 a_car, .int .i64 a_state, .int .i64 a_owner, .int .i64 a_born], .agg #[.int .i64 b_id, .int .i64 b_kind, .int .i64 b_src, .int .i64 b_dst, .int .i64 b_car, .int .i64 b_state, .int .i64 b_owner, .int .i64 b_born]] w fun e w' => e = .returned (.bool (leftV (⟨c_floors, c_cars, c_seats, c_calls, c_lines, c_keys, c_window, c_burst, c_rate, c_idle, c_inn, c_out, c_feed, c_retries, c_life, c_door, c_holds, c_secret⟩ : Cfg) (⟨a_id, a_kind, a_src, a_dst, a_car, a_state, a_owner, a_born⟩ : CallV) (⟨b_id, b_kind, b_src, b_dst, b_car, b_state, b_owner, b_born⟩ : CallV))) ∧ Off [] w w' := callIsLeft (⟨c_floors, c_cars, c_seats, c_calls, c_lines, c_keys, c_window, c_burst, c_rate, c_idle, c_inn, c_out, c_feed, c_retries, c_life, c_door, c_holds, c_secret⟩ : Cfg) (⟨a_id, a_kind, a_src, a_dst, a_car, a_state, a_owner, a_born⟩ : CallV) (⟨b_id, b_kind, b_src, b_dst, b_car, b_state, b_owner, b_born⟩ : CallV) w
end Go.Proofs.Ytfhhfmkfkoemjaa.Ca
